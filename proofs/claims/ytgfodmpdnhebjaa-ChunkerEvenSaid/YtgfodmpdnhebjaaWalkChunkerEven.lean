/- ChunkerEven, plainly: with Mask 0 all chunks but the last one have Min bytes; a string of equal bytes is divided into chunks of one size. -/
import Derived.Test.YtgfodmpdnhebjaaCp
import Derived.Test.YtgfodmpdnhebjaaGChunkerEven
import Derived.Test.YtgfodmpdnhebjaaPxf10
namespace Go.Proofs.Ytgfodmpdnhebjaa.Walk
open Go.RowKit Go.Proofs.Ytgfodmpdnhebjaa.P Go.Proofs.Ytgfodmpdnhebjaa.Fp Go.Proofs.Ytgfodmpdnhebjaa.FM Go.Proofs.Ytgfodmpdnhebjaa.Ck Go.Proofs.Ytgfodmpdnhebjaa.Chk Go.Proofs.Ytgfodmpdnhebjaa.Cp Go.Proofs.YtgfodmpdnhebjaaW.PrintWords Go.Proofs.YtgfodmpdnhebjaaW.PrintLast
set_option linter.unusedVariables false
theorem rdL_cut {b : List Int} : ∀ {s : Nat} {r : List Nat} {i : Nat}, i < r.length → rd_L4 (cutL b s r) (i : Int) = (b.take (r.getD i 0)).drop (if i = 0 then s else r.getD (i - 1) 0)
  | s, e :: r, 0, _ => by simp [rd_L4, cutL]
  | s, e :: r, i + 1, h => by
    have h' : i < r.length := by simpa using h
    have := rdL_cut (b := b) (s := e) (r := r) h'
    have e1 : rd_L4 (cutL b s (e :: r)) ((i + 1 : Nat) : Int) = rd_L4 (cutL b e r) (i : Int) := by simp [rd_L4, cutL, List.getD_eq_getElem?_getD]
    rw [e1, this]
    have e2 : (e :: r).getD (i + 1) 0 = r.getD i 0 := by simp
    rw [e2]
    cases i with
    | zero => simp
    | succ i => simp
/-- The chunks' sizes where every chunk but the last one ends at a multiple of s. -/
theorem even_size {b : List Int} {r : List Nat} {s : Nat} (hr : ∀ e ∈ r, e ≤ b.length) (h : ∀ i, i + 1 < r.length → r.getD i 0 = (i + 1) * s) {i : Nat} (hi : i + 1 < r.length) : (rd_L4 (cutL b 0 r) (i : Int)).length = s := by
  rw [rdL_cut (by omega), List.length_drop, List.length_take, h i hi]
  have h1 := hr (r.getD i 0) (by simp [List.getD_eq_getElem?_getD, show i < r.length by omega])
  rw [h i hi] at h1
  by_cases h0 : i = 0
  · subst h0
    simp
    omega
  · rw [if_neg h0, h (i - 1) (by omega), Nat.sub_add_cancel (by omega), Nat.min_eq_left h1, Nat.succ_mul]
    omega
theorem l2_is {X : List (List Int)} {s mn mx : Nat} {a c : Int} (hX : X.length ≤ 1000000) (h : ∀ i : Nat, i + 1 < X.length → (rd_L4 X (i : Int)).length = s) (hs : s = mn ∨ s = mx) (d : Nat) : ∀ (k i : Nat), X.length - i ≤ d → d < k → i ≤ 2000000 →
    stockyardlaw24_ChunkerEven.l2 k X (i : Int) (mn : Int) (mx : Int) a c = some true := by
  induction d with
  | zero =>
    intro k i h0 hk hi
    obtain ⟨k, rfl⟩ : ∃ m, k = m + 1 := ⟨k - 1, by omega⟩
    simp only [stockyardlaw24_ChunkerEven.l2]
    rw [w64 (by omega) (by omega), if_neg (by omega)]
  | succ d ih =>
    intro k i h0 hk hi
    obtain ⟨k, rfl⟩ : ∃ m, k = m + 1 := ⟨k - 1, by omega⟩
    simp only [stockyardlaw24_ChunkerEven.l2]
    rw [w64 (by omega) (by omega)]
    by_cases hc : i + 1 < X.length
    · have e1 := h i hc
      have e0 : (rd_L4 X 0).length = s := h 0 (by omega)
      have hn := ih k (i + 1) (by omega) (by omega) (by omega)
      rw [if_pos (by omega), if_pos (by omega), if_pos (by omega), if_pos (by omega), e1, e0, if_pos rfl]
      by_cases hm : s = mn
      · rw [if_pos (by omega)]; exact hn
      · rw [if_neg (by omega), if_pos (by omega)]; exact hn
    · rw [if_neg (by omega)]
theorem l1_is {X Y : List (List Int)} {s mn mx : Nat} {a c : Int} (hX : X.length ≤ 1000000) (hY : Y.length ≤ 1000000) (h : ∀ i : Nat, i + 1 < X.length → (rd_L4 X (i : Int)).length = mn) (hy : ∀ i : Nat, i + 1 < Y.length → (rd_L4 Y (i : Int)).length = s) (hs : s = mn ∨ s = mx) (d : Nat) : ∀ (k i : Nat), X.length - i ≤ d → d + Y.length + 1 < k → i ≤ 2000000 →
    stockyardlaw24_ChunkerEven.l1 k X Y (i : Int) (mn : Int) (mx : Int) a c = some true := by
  induction d with
  | zero =>
    intro k i h0 hk hi
    obtain ⟨k, rfl⟩ : ∃ m, k = m + 1 := ⟨k - 1, by omega⟩
    simp only [stockyardlaw24_ChunkerEven.l1]
    rw [w64 (by omega) (by omega), if_neg (by omega)]
    exact l2_is hY hy hs Y.length k 0 (by omega) (by omega) (by omega)
  | succ d ih =>
    intro k i h0 hk hi
    obtain ⟨k, rfl⟩ : ∃ m, k = m + 1 := ⟨k - 1, by omega⟩
    simp only [stockyardlaw24_ChunkerEven.l1]
    rw [w64 (by omega) (by omega)]
    by_cases hc : i + 1 < X.length
    · rw [if_pos (by omega), if_pos (by omega), if_pos (by omega), h i hc, if_pos rfl]
      exact ih k (i + 1) (by omega) (by omega) (by omega)
    · rw [if_neg (by omega)]
      exact l2_is hY hy hs Y.length k 0 (by omega) (by omega) (by omega)
/-- The loop that fills the string of equal bytes. -/
theorem l0_is (x : Int) (b : List Int) {R : Option Bool} {mn mx wd ms : Int} (hb : b.length ≤ 1000000) (d : Nat) : ∀ (k i : Nat), i ≤ b.length → b.length - i = d → d < k →
    (∀ k', k' + 1 + d = k → stockyardlaw24_ChunkerEven.l0 (k' + 1) x b (List.replicate b.length x) (b.length : Int) mn mx wd ms = R) →
    stockyardlaw24_ChunkerEven.l0 k x b (List.replicate i x ++ List.replicate (b.length - i) 0) (i : Int) mn mx wd ms = R := by
  induction d with
  | zero =>
    intro k i h0 h1 hk h
    obtain ⟨k, rfl⟩ : ∃ m, k = m + 1 := ⟨k - 1, by omega⟩
    obtain rfl : i = b.length := by omega
    rw [Nat.sub_self, List.replicate_zero, List.append_nil]
    exact h k rfl
  | succ d ih =>
    intro k i h0 h1 hk h
    obtain ⟨k, rfl⟩ : ∃ m, k = m + 1 := ⟨k - 1, by omega⟩
    simp only [stockyardlaw24_ChunkerEven.l0]
    have hset : (List.replicate i x ++ List.replicate (b.length - i) 0).set i x = List.replicate (i + 1) x ++ List.replicate (b.length - (i + 1)) 0 := by
      obtain ⟨z, hz⟩ : ∃ z, b.length - i = z + 1 := ⟨b.length - i - 1, by omega⟩
      rw [hz, show b.length - (i + 1) = z by omega, List.replicate_succ, List.set_append_right _ _ (by simp), List.length_replicate, Nat.sub_self, List.set_cons_zero, List.replicate_succ']
      simp
    rw [if_pos (by simp; omega), if_pos (by omega), Int.toNat_natCast, hset, show wrap64 ((i : Int) + 1) = ((i + 1 : Nat) : Int) by unfold wrap64; omega]
    exact ih k (i + 1) (by omega) (by omega) (by omega) (fun k' h2 => h k' (by omega))
theorem pureEven (l : List Int) (x : Int) (hl : Wf l) (hx : 0 ≤ x ∧ x ≤ 255) : stockyardlaw24_ChunkerEven.f 20000 l x = some true := by
  obtain ⟨mn, mx, wd, j, hm, hO, hj, hmx⟩ := made_is hl (a := 0) (by omega) (by omega)
  obtain ⟨b, a, ht, hb, hB, ha, ha'⟩ := text_is hl (n := 120) (a := 0 + 4) (k := 20000) (by omega) (by omega) (by omega) (by omega) (by omega)
  have hbl : b.length ≤ 120 := by omega
  have hO0 : Okp mn mx wd 0 := ⟨hO.w1, hO.w2, hO.wm, hO.mm, hO.mc, by omega, by omega⟩
  have hw1 := hO.w1
  have hwm := hO.wm
  have hE : IsBytes (List.replicate b.length x) := fun y hy => by rw [List.eq_of_mem_replicate hy]; exact hx
  have hEl : (List.replicate b.length x).length = b.length := by simp
  have hle1 := ends_length_le (mn := mn) (mx := mx) (wd := wd) (ms := 0) b
  have hle2 := ends_length_le (mn := mn) (mx := mx) (wd := wd) (ms := 2 ^ j - 1) (List.replicate b.length x)
  obtain ⟨s, hs, hsm⟩ := endF_same (mn := mn) (mx := mx) (wd := wd) (ms := 2 ^ j - 1) (x := x) hw1 hwm hO.mm
  have ev1 := ends_even (mn := mn) (mx := mx) (wd := wd) (ms := 0) (s := mn) (P := fun _ => True) (fun _ _ _ => trivial) (fun l _ => endF_mask0 (by omega) l) b trivial
  have ev2 := ends_even (mn := mn) (mx := mx) (wd := wd) (ms := 2 ^ j - 1) (s := s) (P := fun l => ∃ m, l = List.replicate m x) (fun l k ⟨m, h⟩ => ⟨m - k, by rw [h, List.drop_replicate]⟩) (fun l ⟨m, h⟩ => by rw [h, List.length_replicate]; exact hsm m) (List.replicate b.length x) ⟨_, rfl⟩
  unfold stockyardlaw24_ChunkerEven.f
  rw [hm, Option.bind_some]
  simp only
  rw [ht, Option.bind_some]
  simp only
  rw [if_pos (by omega), if_pos (by omega), Int.toNat_natCast]
  have h0 := l0_is x b (R := some true) (mn := mn) (mx := mx) (wd := wd) (ms := 2 ^ j - 1) (by omega) b.length 20000 0 (by omega) (by omega) (by omega)
  rw [List.replicate_zero, List.nil_append, Nat.sub_zero] at h0
  refine h0 (fun k h2 => ?_)
  simp only [stockyardlaw24_ChunkerEven.l0]
  rw [if_neg (by rw [hEl]; omega), split_is hO0 hB (by omega) (by omega), Option.bind_some, split_is hO hE (by rw [hEl]; omega) (by rw [hEl]; omega), Option.bind_some, known_is (by omega), Option.bind_some]
  simp only
  rw [if_pos trivial, if_pos trivial, show ((0 : Int) != 0) = false from rfl]
  obtain ⟨k, rfl⟩ : ∃ m, k = m + 1 := ⟨k - 1, by omega⟩
  simp only [stockyardlaw24_ChunkerEven.j1]
  rw [if_neg (by simp)]
  refine l1_is (s := s) (by rw [cutL_length]; omega) (by rw [cutL_length]; omega) (fun i hi => ?_) (fun i hi => ?_) hs 200 _ 0 (by rw [cutL_length]; omega) (by rw [cutL_length]; omega) (by omega)
  · rw [cutL_length] at hi
    exact even_size (fun e he => (ends_range b e he).2) ev1 hi
  · rw [cutL_length] at hi
    exact even_size (fun e he => (ends_range _ e he).2) ev2 hi
theorem wf_u8 {a : Int} (h : (Lit.int .u8 a).wf = true) : 0 ≤ a ∧ a ≤ 255 := by
  simp [Lit.wf, IntKind.min, IntKind.max, IntKind.bits, IntKind.signed] at h
  omega
theorem ChunkerEven : Goal.ChunkerEven := by
  intro A c l a w hr hc hn hw ha
  exact stockyardlaw24_ChunkerEven.calls 20000 A c l a true w hr hc (pureEven l a (Wf.of hn hw) (wf_u8 ha)) rfl
end Go.Proofs.Ytgfodmpdnhebjaa.Walk
