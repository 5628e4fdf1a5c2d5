/- The chunker, plainly: what the statements of chapter 24 say of the ends. No program in it. -/
import Derived.Test.YtgfodmpdnhebjaaCk
namespace Go.Proofs.Ytgfodmpdnhebjaa.Ck
open Go.Proofs.Ytgfodmpdnhebjaa.FM
set_option linter.unusedVariables false
set_option linter.unusedSimpArgs false
section
variable {mn mx wd : Nat} {ms : Int}
/-- Induction along the chunks of a string. -/
theorem chunk_ind (mn mx wd : Nat) (ms : Int) {P : List Int → Prop} (h0 : P []) (h1 : ∀ l, 0 < l.length → P (l.drop (endF mn mx wd ms l).1) → P l) : ∀ l : List Int, P l := by
  intro l
  obtain ⟨n, hn⟩ : ∃ n, l.length ≤ n := ⟨_, Nat.le_refl _⟩
  induction n generalizing l with
  | zero =>
    rw [List.eq_nil_of_length_eq_zero (by omega : l.length = 0)]
    exact h0
  | succ n ih =>
    by_cases hl : 0 < l.length
    · refine h1 l hl (ih _ ?_)
      have := endF_pos (mn := mn) (mx := mx) (wd := wd) (ms := ms) hl
      rw [List.length_drop]
      omega
    · rw [List.eq_nil_of_length_eq_zero (by omega : l.length = 0)]
      exact h0
theorem ends_pos {l : List Int} (hl : 0 < l.length) : 0 < (ends mn mx wd ms l).length := by
  rw [ends_cons hl]
  simp
/-- Each end is behind the begin, and in the string. -/
theorem ends_range (l : List Int) : ∀ e ∈ ends mn mx wd ms l, 0 < e ∧ e ≤ l.length := by
  revert l
  refine chunk_ind mn mx wd ms ?_ ?_
  · intro e he; cases he
  · intro l hl ih e he
    have h1 := endF_pos (mn := mn) (mx := mx) (wd := wd) (ms := ms) hl
    have h2 := endF_le (mn := mn) (mx := mx) (wd := wd) (ms := ms) (l := l)
    rw [ends_cons hl, List.mem_cons] at he
    rcases he with rfl | he
    · exact ⟨h1, h2⟩
    · obtain ⟨e', h', rfl⟩ := List.mem_map.1 he
      have := ih e' h'
      rw [List.length_drop] at this
      omega
/-- The chunks from a boundary on. -/
theorem ends_suffix (l : List Int) : ∀ k, k < (ends mn mx wd ms l).length → (ends mn mx wd ms l).drop (k + 1) = (ends mn mx wd ms (l.drop ((ends mn mx wd ms l).getD k 0))).map ((ends mn mx wd ms l).getD k 0 + ·) := by
  revert l
  refine chunk_ind mn mx wd ms ?_ ?_
  · intro k hk; simp [ends_nil] at hk
  · intro l hl ih k hk
    rw [ends_cons hl] at hk ⊢
    cases k with
    | zero => simp
    | succ k =>
      have hk' : k < (ends mn mx wd ms (l.drop (endF mn mx wd ms l).1)).length := by simpa using hk
      have := ih k hk'
      rw [List.drop_succ_cons, ← List.map_drop, this, List.map_map]
      have e : ((endF mn mx wd ms l).1 :: (ends mn mx wd ms (l.drop (endF mn mx wd ms l).1)).map ((endF mn mx wd ms l).1 + ·)).getD (k + 1) 0 = (endF mn mx wd ms l).1 + (ends mn mx wd ms (l.drop (endF mn mx wd ms l).1)).getD k 0 := by
        simp [List.getD_eq_getElem?_getD, hk']
      rw [e, List.drop_drop]
      congr 1
      funext x
      simp only [Function.comp_apply]
      omega
/-- All chunks but the last one are complete. -/
theorem ends_prefix (a b : List Int) : (ends mn mx wd ms a).length ≤ (ends mn mx wd ms (a ++ b)).length ∧ ∀ i, i + 1 < (ends mn mx wd ms a).length → (ends mn mx wd ms (a ++ b)).getD i 0 = (ends mn mx wd ms a).getD i 0 := by
  refine chunk_ind mn mx wd ms (P := fun a => (ends mn mx wd ms a).length ≤ (ends mn mx wd ms (a ++ b)).length ∧ ∀ i, i + 1 < (ends mn mx wd ms a).length → (ends mn mx wd ms (a ++ b)).getD i 0 = (ends mn mx wd ms a).getD i 0) ?_ ?_ a
  · simp [ends_nil]
  · intro a ha ih
    have hab : 0 < (a ++ b).length := by rw [List.length_append]; omega
    cases he : endF mn mx wd ms a with
    | mk k c =>
      cases c with
      | true =>
        have h2 := (endF_true he).2.1
        have he' := endF_append (b := b) he
        rw [he] at ih
        have ih' : (ends mn mx wd ms (a.drop k)).length ≤ (ends mn mx wd ms (a.drop k ++ b)).length ∧ ∀ i, i + 1 < (ends mn mx wd ms (a.drop k)).length → (ends mn mx wd ms (a.drop k ++ b)).getD i 0 = (ends mn mx wd ms (a.drop k)).getD i 0 := ih
        rw [ends_cons ha, ends_cons hab, he, he']
        show _ ∧ _
        rw [show (a ++ b).drop k = a.drop k ++ b from List.drop_append_of_le_length h2]
        constructor
        · simpa using ih'.1
        · intro i hi
          cases i with
          | zero => rfl
          | succ i =>
            have hi' : i + 1 < (ends mn mx wd ms (a.drop k)).length := by simpa using hi
            have hn := ih'.2 i hi'
            have hl := ih'.1
            have e1 : (ends mn mx wd ms (a.drop k ++ b))[i]? = (ends mn mx wd ms (a.drop k))[i]? := by
              simp only [List.getD_eq_getElem?_getD] at hn
              rw [List.getElem?_eq_getElem (by omega), List.getElem?_eq_getElem (by omega)] at hn ⊢
              simpa using hn
            simp [List.getD_eq_getElem?_getD, e1]
      | false =>
        have hk := (endF_false he).1
        have e : ends mn mx wd ms a = [k] := by
          rw [ends_cons ha, he]
          show k :: (ends mn mx wd ms (a.drop k)).map _ = _
          rw [hk, List.drop_length, ends_nil]
          rfl
        rw [e]
        constructor
        · exact ends_pos hab
        · intro i hi
          simp at hi
/-- An end ahead of the last byte is no last one's. -/
theorem ends_last (l : List Int) : ∀ i, i + 1 < (ends mn mx wd ms l).length → (ends mn mx wd ms l).getD i 0 < l.length := by
  intro i hi
  have h := ends_suffix (mn := mn) (mx := mx) (wd := wd) (ms := ms) l i (by omega)
  rcases Nat.lt_or_ge ((ends mn mx wd ms l).getD i 0) l.length with hc | hc
  · exact hc
  · rw [List.drop_of_length_le hc, ends_nil] at h
    have := congrArg List.length h
    simp at this
    omega
/-- An edit behind the first bytes. -/
theorem ends_edit (h a b : List Int) : ∀ i, i < (ends mn mx wd ms (h ++ a)).length → (ends mn mx wd ms (h ++ a)).getD i 0 < h.length → i < (ends mn mx wd ms (h ++ b)).length ∧ (ends mn mx wd ms (h ++ b)).getD i 0 = (ends mn mx wd ms (h ++ a)).getD i 0 := by
  refine chunk_ind mn mx wd ms (P := fun h => ∀ i, i < (ends mn mx wd ms (h ++ a)).length → (ends mn mx wd ms (h ++ a)).getD i 0 < h.length → i < (ends mn mx wd ms (h ++ b)).length ∧ (ends mn mx wd ms (h ++ b)).getD i 0 = (ends mn mx wd ms (h ++ a)).getD i 0) ?_ ?_ h
  · intro i _ hc; simp at hc
  · intro h hh ih i hi hlt
    have ha : 0 < (h ++ a).length := by rw [List.length_append]; omega
    have hb : 0 < (h ++ b).length := by rw [List.length_append]; omega
    have key : (endF mn mx wd ms (h ++ a)).1 < h.length → ∃ k, endF mn mx wd ms h = (k, true) ∧ endF mn mx wd ms (h ++ a) = (k, true) ∧ endF mn mx wd ms (h ++ b) = (k, true) := by
      intro hk
      cases he : endF mn mx wd ms (h ++ a) with
      | mk k c =>
        rw [he] at hk
        have hk : k < h.length := hk
        cases c with
        | true =>
          have h1 := endF_within he (by omega)
          exact ⟨k, h1, rfl, endF_append h1⟩
        | false =>
          have := (endF_false he).1
          rw [List.length_append] at this
          omega
    have hfst : (endF mn mx wd ms (h ++ a)).1 < h.length := by
      rw [ends_cons ha] at hlt
      cases i with
      | zero => exact hlt
      | succ i =>
        rw [ends_cons ha] at hi
        have hi' : i < (ends mn mx wd ms ((h ++ a).drop (endF mn mx wd ms (h ++ a)).1)).length := by simpa using hi
        simp [List.getD_eq_getElem?_getD, hi'] at hlt
        omega
    obtain ⟨k, e0, e1, e2⟩ := key hfst
    have hk := (endF_true e0).2.1
    rw [e0] at ih
    rw [ends_cons ha, e1] at hi hlt
    rw [ends_cons ha, ends_cons hb, e1, e2]
    have da : (h ++ a).drop k = h.drop k ++ a := List.drop_append_of_le_length hk
    have db : (h ++ b).drop k = h.drop k ++ b := List.drop_append_of_le_length hk
    show i < (k :: (ends mn mx wd ms ((h ++ b).drop k)).map (k + ·)).length ∧ (k :: (ends mn mx wd ms ((h ++ b).drop k)).map (k + ·)).getD i 0 = (k :: (ends mn mx wd ms ((h ++ a).drop k)).map (k + ·)).getD i 0
    have hi : i < (k :: (ends mn mx wd ms ((h ++ a).drop k)).map (k + ·)).length := hi
    have hlt : (k :: (ends mn mx wd ms ((h ++ a).drop k)).map (k + ·)).getD i 0 < h.length := hlt
    rw [da] at hi hlt ⊢
    rw [db]
    cases i with
    | zero => simp
    | succ i =>
      have hi' : i < (ends mn mx wd ms (h.drop k ++ a)).length := by simpa using hi
      have hlt' : (ends mn mx wd ms (h.drop k ++ a)).getD i 0 < (h.drop k).length := by
        simp [List.getD_eq_getElem?_getD, hi'] at hlt ⊢
        omega
      obtain ⟨g1, g2⟩ := ih i hi' hlt'
      have g1 : i < (ends mn mx wd ms (h.drop k ++ b)).length := g1
      have g2 : (ends mn mx wd ms (h.drop k ++ b)).getD i 0 = (ends mn mx wd ms (h.drop k ++ a)).getD i 0 := g2
      refine ⟨by simpa using g1, ?_⟩
      simp [List.getD_eq_getElem?_getD, hi', g1] at g2 ⊢
      omega
/-- A boundary, and the ends behind it. -/
theorem ends_mem_shift {l : List Int} {e q : Nat} (he : e = 0 ∨ e ∈ ends mn mx wd ms l) (hq : e < q) : q ∈ ends mn mx wd ms l ↔ q - e ∈ ends mn mx wd ms (l.drop e) := by
  rcases he with rfl | he
  · simp
  · obtain ⟨k, hk, rfl⟩ := List.getElem_of_mem he
    have h := ends_suffix (mn := mn) (mx := mx) (wd := wd) (ms := ms) l k hk
    have eg : (ends mn mx wd ms l).getD k 0 = (ends mn mx wd ms l)[k] := by simp [List.getD_eq_getElem?_getD, hk]
    rw [eg] at h
    have hsplit : ends mn mx wd ms l = (ends mn mx wd ms l).take (k + 1) ++ (ends mn mx wd ms l).drop (k + 1) := (List.take_append_drop _ _).symm
    have hlow : ∀ x ∈ (ends mn mx wd ms l).take (k + 1), x ≤ (ends mn mx wd ms l)[k] := by
      intro x hx
      obtain ⟨j, hj, rfl⟩ := List.getElem_of_mem hx
      rw [List.length_take] at hj
      rw [List.getElem_take]
      rcases Nat.lt_or_ge j k with hjk | hjk
      · have h2 := ends_suffix (mn := mn) (mx := mx) (wd := wd) (ms := ms) l j (by omega)
        have hm : (ends mn mx wd ms l)[k] ∈ (ends mn mx wd ms l).drop (j + 1) := by
          rw [List.mem_iff_getElem]
          exact ⟨k - (j + 1), by rw [List.length_drop]; omega, by rw [List.getElem_drop]; congr 1; omega⟩
        rw [h2] at hm
        obtain ⟨y, hy, hy2⟩ := List.mem_map.1 hm
        have ej : (ends mn mx wd ms l).getD j 0 = (ends mn mx wd ms l)[j] := by simp [List.getD_eq_getElem?_getD, show j < (ends mn mx wd ms l).length by omega]
        rw [ej] at hy2
        omega
      · have : j = k := by omega
        subst this
        exact Nat.le_refl _
    constructor
    · intro hm
      rw [hsplit, List.mem_append] at hm
      rcases hm with hm | hm
      · have := hlow q hm; omega
      · rw [h] at hm
        obtain ⟨y, hy, hy2⟩ := List.mem_map.1 hm
        rw [show q - (ends mn mx wd ms l)[k] = y by omega]
        exact hy
    · intro hm
      rw [hsplit, List.mem_append]
      refine .inr ?_
      rw [h]
      exact List.mem_map.2 ⟨_, hm, by omega⟩
/-- Two strings with a common tail. -/
theorem ends_meet (a b t : List Int) {p q : Nat} (hp : p < q) (hu : p + a.length = 0 ∨ p + a.length ∈ ends mn mx wd ms (a ++ t)) (hv : p + b.length = 0 ∨ p + b.length ∈ ends mn mx wd ms (b ++ t)) :
    q + a.length ∈ ends mn mx wd ms (a ++ t) ↔ q + b.length ∈ ends mn mx wd ms (b ++ t) := by
  rw [ends_mem_shift hu (by omega), ends_mem_shift hv (by omega)]
  have ea : (a ++ t).drop (p + a.length) = t.drop p := by rw [Nat.add_comm, ← List.drop_drop, List.drop_left]
  have eb : (b ++ t).drop (p + b.length) = t.drop p := by rw [Nat.add_comm, ← List.drop_drop, List.drop_left]
  rw [ea, eb, show q + a.length - (p + a.length) = q - p by omega, show q + b.length - (p + b.length) = q - p by omega]
/-- How many chunks there are. -/
theorem ends_few (h0 : 0 < mn) (h1 : mn ≤ mx) (l : List Int) : l.length ≤ (ends mn mx wd ms l).length * mx ∧ (0 < l.length → ((ends mn mx wd ms l).length - 1) * mn < l.length) := by
  revert l
  refine chunk_ind mn mx wd ms ?_ ?_
  · simp [ends_nil]
  · intro l hl ih
    have hm := endF_mx (wd := wd) (ms := ms) (l := l) h0 h1
    have hp := endF_pos (mn := mn) (mx := mx) (wd := wd) (ms := ms) hl
    rw [ends_cons hl, List.length_cons, List.length_map]
    rw [List.length_drop] at ih
    constructor
    · rw [Nat.succ_mul]
      have := ih.1
      omega
    · intro _
      rw [Nat.add_sub_cancel]
      cases he : endF mn mx wd ms l with
      | mk k c =>
        rw [he] at ih
        have ih : l.length - k ≤ (ends mn mx wd ms (l.drop k)).length * mx ∧ (0 < l.length - k → ((ends mn mx wd ms (l.drop k)).length - 1) * mn < l.length - k) := ih
        show (ends mn mx wd ms (l.drop k)).length * mn < l.length
        by_cases hk : k < l.length
        · have h2 := ih.2 (by omega)
          cases c with
          | true =>
            have := hit_lo (endF_true he).2.2.1
            have hz : 0 < (ends mn mx wd ms (l.drop k)).length := ends_pos (by rw [List.length_drop]; omega)
            obtain ⟨z, hz'⟩ : ∃ z, (ends mn mx wd ms (l.drop k)).length = z + 1 := ⟨_, (Nat.succ_pred_eq_of_pos hz).symm⟩
            rw [hz'] at h2 ⊢
            rw [Nat.succ_mul]
            rw [Nat.add_sub_cancel] at h2
            omega
          | false => have := (endF_false he).1; omega
        · rw [List.drop_of_length_le (by omega), ends_nil]
          simp
          omega
/-- A mask that lets fewer through. -/
theorem endF_mono {ms' : Int} {l : List Int} (h : ∀ k, hit mn mx wd ms' l k = true → hit mn mx wd ms l k = true) : (endF mn mx wd ms l).1 ≤ (endF mn mx wd ms' l).1 := by
  cases he : endF mn mx wd ms l with
  | mk k c =>
    cases he' : endF mn mx wd ms' l with
    | mk k' c' =>
      show k ≤ k'
      cases c' with
      | true =>
        have h1 := endF_true he'
        have h2 := h k' h1.2.2.1
        cases c with
        | true =>
          rcases Nat.lt_or_ge k' k with hc | hc
          · have := (endF_true he).2.2.2 k' h1.1 hc
            rw [this] at h2
            cases h2
          · exact hc
        | false =>
          have := (endF_false he).2 k' h1.1 h1.2.1
          rw [this] at h2
          cases h2
      | false =>
        have h1 := (endF_false he').1
        have := endF_le (mn := mn) (mx := mx) (wd := wd) (ms := ms) (l := l)
        rw [he] at this
        have this : k ≤ l.length := this
        omega
theorem ends_mono {ms' : Int} (h : ∀ l k, hit mn mx wd ms' l k = true → hit mn mx wd ms l k = true) (l : List Int) : ∀ i, i < (ends mn mx wd ms l).length → i < (ends mn mx wd ms' l).length → (∀ j, j < i → (ends mn mx wd ms l).getD j 0 = (ends mn mx wd ms' l).getD j 0) → (ends mn mx wd ms l).getD i 0 ≤ (ends mn mx wd ms' l).getD i 0 := by
  revert l
  refine chunk_ind mn mx wd ms ?_ ?_
  · intro i hi; simp [ends_nil] at hi
  · intro l hl ih i hi hi' heq
    rw [ends_cons hl] at hi heq ⊢
    rw [ends_cons hl] at hi' heq ⊢
    cases i with
    | zero => exact endF_mono (h l)
    | succ i =>
      have e0 : (endF mn mx wd ms l).1 = (endF mn mx wd ms' l).1 := by simpa using heq 0 (by omega)
      rw [← e0] at hi' heq ⊢
      have g1 : i < (ends mn mx wd ms (l.drop (endF mn mx wd ms l).1)).length := by simpa using hi
      have g2 : i < (ends mn mx wd ms' (l.drop (endF mn mx wd ms l).1)).length := by simpa using hi'
      have := ih i g1 g2 (fun j hj => by
        have := heq (j + 1) (by omega)
        simp [List.getD_eq_getElem?_getD, show j < (ends mn mx wd ms (l.drop (endF mn mx wd ms l).1)).length by omega, show j < (ends mn mx wd ms' (l.drop (endF mn mx wd ms l).1)).length by omega] at this ⊢
        omega)
      simp [List.getD_eq_getElem?_getD, g1, g2] at this ⊢
      omega
/-- Where every chunk but the last one has one size. -/
theorem ends_even {s : Nat} {P : List Int → Prop} (hP : ∀ l k, P l → P (l.drop k)) (h : ∀ l, P l → (endF mn mx wd ms l).1 = s ∨ (endF mn mx wd ms l).1 = l.length) (l : List Int) : P l → ∀ i, i + 1 < (ends mn mx wd ms l).length → (ends mn mx wd ms l).getD i 0 = (i + 1) * s := by
  revert l
  refine chunk_ind mn mx wd ms ?_ ?_
  · intro _ i hi; simp [ends_nil] at hi
  · intro l hl ih hl' i hi
    have h1 := h l hl'
    rw [ends_cons hl] at hi ⊢
    have hz : (endF mn mx wd ms l).1 ≠ l.length := by
      intro hc
      rw [hc, List.drop_length, ends_nil] at hi
      simp at hi
    have hs : (endF mn mx wd ms l).1 = s := by omega
    cases i with
    | zero => simp [hs]
    | succ i =>
      have g : i + 1 < (ends mn mx wd ms (l.drop (endF mn mx wd ms l).1)).length := by simpa using hi
      have := ih (hP _ _ hl') i g
      simp [List.getD_eq_getElem?_getD, show i < (ends mn mx wd ms (l.drop (endF mn mx wd ms l).1)).length by omega] at this ⊢
      rw [this, hs, Nat.succ_mul (i + 1)]
      omega
theorem and_zero {x : Int} (h0 : 0 ≤ x) (h1 : x < 18446744073709551616) : Go.bits .and .u64 x 0 = 0 := by
  rw [Go.u64_and x _ h0 h1 (by decide) (by decide)]
  simp
theorem fp_u64 (l : List Int) : 0 ≤ fp l ∧ fp l < 18446744073709551616 := by
  have := fp_range l
  have hp := P_def
  omega
/-- Mask 0: all chunks but the last one have the least size. -/
theorem endF_mask0 (h0 : 0 < mn) (l : List Int) : (endF mn mx wd 0 l).1 = mn ∨ (endF mn mx wd 0 l).1 = l.length := by
  have hh : ∀ k, hit mn mx wd 0 l k = decide (mn ≤ k) := by
    intro k
    unfold hit
    rw [and_zero (fp_u64 _).1 (fp_u64 _).2]
    simp
  by_cases hl : mn ≤ l.length
  · left
    rw [endF_is h0 hl (by rw [hh]; simp) (fun j _ hj => by rw [hh]; simp; omega)]
  · right
    rw [endF_isn (fun j _ hj => by rw [hh]; simp; omega)]
theorem Wn_replicate {n k m : Nat} {x : Int} (hk : k ≤ m) (hn : n ≤ k) : Wn n (List.replicate m x) k = List.replicate n x := by
  unfold Wn
  rw [List.take_replicate, List.drop_replicate]
  congr 1
  omega
/-- Equal bytes. -/
theorem endF_same {x : Int} (h0 : 0 < wd) (h1 : wd ≤ mn) (h2 : mn ≤ mx) : ∃ s, (s = mn ∨ s = mx) ∧ ∀ m, (endF mn mx wd ms (List.replicate m x)).1 = s ∨ (endF mn mx wd ms (List.replicate m x)).1 = m := by
  have hh : ∀ m k, k ≤ m → hit mn mx wd ms (List.replicate m x) k = (decide (mn ≤ k) && (decide (k = mx) || Go.bits .and .u64 (fp (List.replicate wd x)) ms == 0)) := by
    intro m k hk
    unfold hit
    by_cases hm : mn ≤ k
    · rw [Wn_replicate hk (by omega)]
    · simp [hm]
  by_cases hc : (Go.bits .and .u64 (fp (List.replicate wd x)) ms == 0) = true
  · refine ⟨mn, .inl rfl, fun m => ?_⟩
    by_cases hl : mn ≤ m
    · left
      rw [endF_is (k := mn) (by omega) (by rw [List.length_replicate]; exact hl) (by rw [hh m mn hl, hc]; simp) (fun j _ hj => by rw [hh m j (by omega)]; simp; omega)]
    · right
      rw [endF_isn (fun j _ hj => by rw [List.length_replicate] at hj; rw [hh m j hj]; simp; omega), List.length_replicate]
  · refine ⟨mx, .inr rfl, fun m => ?_⟩
    have hc' : (Go.bits .and .u64 (fp (List.replicate wd x)) ms == 0) = false := by simpa using hc
    by_cases hl : mx ≤ m
    · left
      rw [endF_is (k := mx) (by omega) (by rw [List.length_replicate]; exact hl) (by rw [hh m mx hl]; simp; omega) (fun j _ hj => by rw [hh m j (by omega), hc']; simp; omega)]
    · right
      rw [endF_isn (fun j _ hj => by rw [List.length_replicate] at hj; rw [hh m j hj, hc']; simp; omega), List.length_replicate]
/-- The sizes of the chunks. -/
theorem ends_sizes (h0 : 0 < mn) (h1 : mn ≤ mx) (l : List Int) : ∀ s i, i < (ends mn mx wd ms l).length → s = (if i = 0 then 0 else (ends mn mx wd ms l).getD (i - 1) 0) → s < (ends mn mx wd ms l).getD i 0 ∧ (ends mn mx wd ms l).getD i 0 ≤ s + mx ∧ (i + 1 < (ends mn mx wd ms l).length → s + mn ≤ (ends mn mx wd ms l).getD i 0) := by
  revert l
  refine chunk_ind mn mx wd ms ?_ ?_
  · intro s i hi; simp [ends_nil] at hi
  · intro l hl ih s i hi hs
    have hm := endF_mx (wd := wd) (ms := ms) (l := l) h0 h1
    have hp := endF_pos (mn := mn) (mx := mx) (wd := wd) (ms := ms) hl
    rw [ends_cons hl] at hi hs ⊢
    cases i with
    | zero =>
      rw [if_pos rfl] at hs
      subst hs
      simp only [List.getD_cons_zero]
      refine ⟨hp, by omega, fun hn => ?_⟩
      cases he : endF mn mx wd ms l with
      | mk k c =>
        cases c with
        | true => have := hit_lo (endF_true he).2.2.1; simpa using this
        | false =>
          rw [he] at hn
          have : k = l.length := (endF_false he).1
          simp [this, ends_nil] at hn
    | succ i =>
      have g : i < (ends mn mx wd ms (l.drop (endF mn mx wd ms l).1)).length := by simpa using hi
      have := ih (if i = 0 then 0 else (ends mn mx wd ms (l.drop (endF mn mx wd ms l).1)).getD (i - 1) 0) i g rfl
      rw [if_neg (by omega), Nat.add_sub_cancel] at hs
      have e : s = (endF mn mx wd ms l).1 + (if i = 0 then 0 else (ends mn mx wd ms (l.drop (endF mn mx wd ms l).1)).getD (i - 1) 0) := by
        rw [hs]
        cases i with
        | zero => simp
        | succ i => simp [List.getD_eq_getElem?_getD, show i < (ends mn mx wd ms (l.drop (endF mn mx wd ms l).1)).length by omega]
      have e2 : ((endF mn mx wd ms l).1 :: (ends mn mx wd ms (l.drop (endF mn mx wd ms l).1)).map ((endF mn mx wd ms l).1 + ·)).getD (i + 1) 0 = (endF mn mx wd ms l).1 + (ends mn mx wd ms (l.drop (endF mn mx wd ms l).1)).getD i 0 := by
        simp [List.getD_eq_getElem?_getD, g]
      rw [e2, List.length_cons, List.length_map]
      omega
/-- The last end is the string's. -/
theorem ends_end (l : List Int) : 0 < l.length → (ends mn mx wd ms l).getD ((ends mn mx wd ms l).length - 1) 0 = l.length := by
  revert l
  refine chunk_ind mn mx wd ms ?_ ?_
  · intro h; cases h
  · intro l hl ih _
    have hp := endF_pos (mn := mn) (mx := mx) (wd := wd) (ms := ms) hl
    have hle := endF_le (mn := mn) (mx := mx) (wd := wd) (ms := ms) (l := l)
    rw [ends_cons hl, List.length_cons, List.length_map, Nat.add_sub_cancel]
    by_cases hc : 0 < (l.drop (endF mn mx wd ms l).1).length
    · have := ih hc
      obtain ⟨z, hz⟩ : ∃ z, (ends mn mx wd ms (l.drop (endF mn mx wd ms l).1)).length = z + 1 := ⟨_, (Nat.succ_pred_eq_of_pos (ends_pos hc)).symm⟩
      rw [hz] at this ⊢
      rw [Nat.add_sub_cancel] at this
      rw [List.length_drop] at this hc
      simp [List.getD_eq_getElem?_getD, hz] at this ⊢
      omega
    · rw [List.length_drop] at hc
      have e : (endF mn mx wd ms l).1 = l.length := by omega
      rw [e, List.drop_length, ends_nil]
      simp
end
end Go.Proofs.Ytgfodmpdnhebjaa.Ck
