/- ChunkerMeets, plainly: two strings with a common tail have the same chunks from every place of the tail on at which both have a boundary. -/
import Derived.Test.YtgfodmpdnhebjaaCp
import Derived.Test.YtgfodmpdnhebjaaGChunkerMeets
import Derived.Test.YtgfodmpdnhebjaaPxf19
import Derived.Test.YtgfodmpdnhebjaaPxf5
namespace Go.Proofs.Ytgfodmpdnhebjaa.Walk
open Go.RowKit Go.Proofs.Ytgfodmpdnhebjaa.P Go.Proofs.Ytgfodmpdnhebjaa.Fp Go.Proofs.Ytgfodmpdnhebjaa.FM Go.Proofs.Ytgfodmpdnhebjaa.Ck Go.Proofs.Ytgfodmpdnhebjaa.Chk Go.Proofs.Ytgfodmpdnhebjaa.Cp Go.Proofs.YtgfodmpdnhebjaaW.PrintWords Go.Proofs.YtgfodmpdnhebjaaW.PrintLast
set_option linter.unusedVariables false
theorem rd_nat (E : List Nat) {i : Nat} (h : i < E.length) : rd (E.map Int.ofNat) (i : Int) = ((E[i] : Nat) : Int) := by
  simp [rd, List.getD_eq_getElem?_getD, h]
theorem has_loop (E : List Nat) (hE : E.length ≤ 1048576) (n : Nat) (d : Nat) : ∀ (k i : Nat), E.length - i = d → d < k → i ≤ E.length → stockyardlaw24_has.l0 k (E.map Int.ofNat) (n : Int) (i : Int) = some (decide (n ∈ E.drop i)) := by
  have hlE : (E.map Int.ofNat).length = E.length := List.length_map ..
  induction d with
  | zero =>
    intro k i h0 hk hi
    obtain ⟨k, rfl⟩ : ∃ m, k = m + 1 := ⟨k - 1, by omega⟩
    simp only [stockyardlaw24_has.l0]
    rw [hlE, if_neg (by omega), List.drop_eq_nil_of_le (by omega)]
    simp
  | succ d ih =>
    intro k i h0 hk hi
    obtain ⟨k, rfl⟩ : ∃ m, k = m + 1 := ⟨k - 1, by omega⟩
    have hi' : i < E.length := by omega
    simp only [stockyardlaw24_has.l0]
    rw [hlE, if_pos (by omega), if_pos (by omega), rd_nat E hi', show wrap64 ((i : Int) + 1) = ((i + 1 : Nat) : Int) by unfold wrap64; omega, ih k (i + 1) (by omega) (by omega) (by omega), List.drop_eq_getElem_cons hi']
    by_cases hc : E[i] = n
    · rw [if_pos (by omega), decide_eq_true (List.mem_cons.2 (Or.inl hc.symm))]
    · rw [if_neg (by omega)]
      have : ¬ n = E[i] := fun h => hc h.symm
      simp only [List.mem_cons, this, false_or]
theorem has_is (E : List Nat) (hE : E.length ≤ 1048576) (n : Nat) {k : Nat} (hk : E.length < k) : stockyardlaw24_has.f k (E.map Int.ofNat) (n : Int) = some (decide (n ∈ E)) := by
  have := has_loop E hE n E.length k 0 (by omega) hk (by omega)
  rw [List.drop_zero] at this
  exact this
/-- A boundary at a place of the tail. -/
def at_ (a : List Int) (E : List Nat) (p : Nat) : Prop := p + a.length = 0 ∨ p + a.length ∈ E
instance (a : List Int) (E : List Nat) (p : Nat) : Decidable (at_ a E p) := by unfold at_; infer_instance
theorem meets_loop (a b t : List Int) (E F : List Nat) (ha : a.length ≤ 1000) (hb : b.length ≤ 1000) (ht : t.length ≤ 1000) (hE : E.length ≤ 5000) (hF : F.length ≤ 5000) (hg : ∀ p q, p < q → at_ a E p → at_ b F p → (q + a.length ∈ E ↔ q + b.length ∈ F)) (d : Nat) : ∀ (k p : Nat) (met : Bool), t.length + 1 - p = d → d + 5001 < k → p ≤ t.length + 1 → (met = true → ∃ p', p' < p ∧ at_ a E p' ∧ at_ b F p') →
    stockyardlaw24_ChunkerMeets.l0 k a b t (E.map Int.ofNat) (F.map Int.ofNat) met (p : Int) = some true := by
  induction d with
  | zero =>
    intro k p met h0 hk hp hm
    obtain ⟨k, rfl⟩ : ∃ m, k = m + 1 := ⟨k - 1, by omega⟩
    simp only [stockyardlaw24_ChunkerMeets.l0]
    rw [if_neg (by omega)]
  | succ d ih =>
    intro k p met h0 hk hp hm
    obtain ⟨k, rfl⟩ : ∃ m, k = m + 1 := ⟨k - 1, by omega⟩
    have same : met = true → (p + a.length ∈ E ↔ p + b.length ∈ F) := fun h => by
      obtain ⟨p', h1, h2, h3⟩ := hm h
      exact hg p' p h1 h2 h3
    have pos : met = true → 0 < p := fun h => by obtain ⟨p', h1, _⟩ := hm h; omega
    have next : ∀ m : Bool, (m = true → met = true ∨ at_ a E p ∧ at_ b F p) → stockyardlaw24_ChunkerMeets.l0 k a b t (E.map Int.ofNat) (F.map Int.ofNat) m ((p + 1 : Nat) : Int) = some true := fun m h => by
      refine ih k (p + 1) m (by omega) (by omega) (by omega) fun hm' => ?_
      rcases h hm' with h | h
      · obtain ⟨p', h1, h2⟩ := hm h
        exact ⟨p', by omega, h2⟩
      · exact ⟨p, by omega, h⟩
    have hx := has_is E (by omega) (p + a.length) (k := k) (by omega)
    have hy := has_is F (by omega) (p + b.length) (k := k) (by omega)
    simp only [stockyardlaw24_ChunkerMeets.l0]
    rw [if_pos (by omega)]
    have e1 : wrap64 ((p : Int) + (a.length : Int)) = ((p + a.length : Nat) : Int) := by unfold wrap64; omega
    have e2 : wrap64 ((p : Int) + (b.length : Int)) = ((p + b.length : Nat) : Int) := by unfold wrap64; omega
    have e3 : wrap64 ((p : Int) + 1) = ((p + 1 : Nat) : Int) := by unfold wrap64; omega
    rw [e1, e2, e3, hx, hy]
    clear e1 e2 e3 hx hy
    simp only [Option.bind_some]
    by_cases c1 : p + a.length = 0
    · have u : at_ a E p := Or.inl c1
      rw [if_pos (by omega)]
      by_cases c2 : p + b.length = 0
      · have v : at_ b F p := Or.inl c2
        rw [if_pos (by omega)]
        by_cases c3 : met = true
        · rw [if_pos c3, if_neg (by simp)]
          exact next true fun _ => Or.inl c3
        · rw [if_neg c3]
          exact next true fun _ => Or.inr ⟨u, v⟩
      · rw [if_neg (by omega)]
        by_cases c3 : met = true
        · have := pos c3
          omega
        · rw [if_neg c3]
          exact next _ fun h => Or.inr ⟨u, Or.inr (of_decide_eq_true h)⟩
    · rw [if_neg (by omega)]
      by_cases c2 : p + b.length = 0
      · have v : at_ b F p := Or.inl c2
        rw [if_pos (by omega)]
        by_cases c3 : met = true
        · have := pos c3
          omega
        · rw [if_neg c3]
          by_cases c4 : decide (p + a.length ∈ E) = true
          · rw [if_pos c4]
            exact next true fun _ => Or.inr ⟨Or.inr (of_decide_eq_true c4), v⟩
          · rw [if_neg c4]
            exact next false fun h => by cases h
      · rw [if_neg (by omega)]
        by_cases c3 : met = true
        · have hs := same c3
          rw [if_pos c3, if_neg (by simp [hs])]
          exact next true fun _ => Or.inl c3
        · rw [if_neg c3]
          by_cases c4 : decide (p + a.length ∈ E) = true
          · rw [if_pos c4]
            exact next _ fun h => Or.inr ⟨Or.inr (of_decide_eq_true c4), Or.inr (of_decide_eq_true h)⟩
          · rw [if_neg c4]
            exact next false fun h => by cases h
theorem pureMeets (l : List Int) (hl : Wf l) : stockyardlaw24_ChunkerMeets.f 20000 l = some true := by
  obtain ⟨mn, mx, wd, j, hm, hO, hj, hx⟩ := made_is hl (a := 0) (by omega) (by omega)
  obtain ⟨a, p, ht, ha, hA, hp, hp'⟩ := text_is hl (n := 40) (a := 0 + 4) (k := 20000) (by omega) (by omega) (by omega) (by omega) (by omega)
  obtain ⟨b, q, hu, hb, hB, hq, hq'⟩ := text_is hl (n := 40) (a := p) (k := 20000) (by omega) (by omega) (by omega) (by omega) (by omega)
  obtain ⟨t, r, hv, ht', hT, hr, hr'⟩ := text_is hl (n := 90) (a := q) (k := 20000) (by omega) (by omega) (by omega) (by omega) (by omega)
  have hle := ends_length_le (mn := mn) (mx := mx) (wd := wd) (ms := 2 ^ j - 1) (a ++ t)
  have hlf := ends_length_le (mn := mn) (mx := mx) (wd := wd) (ms := 2 ^ j - 1) (b ++ t)
  have hg : ∀ p q, p < q → at_ a (ends mn mx wd (2 ^ j - 1) (a ++ t)) p → at_ b (ends mn mx wd (2 ^ j - 1) (b ++ t)) p → (q + a.length ∈ ends mn mx wd (2 ^ j - 1) (a ++ t) ↔ q + b.length ∈ ends mn mx wd (2 ^ j - 1) (b ++ t)) := fun p q h1 h2 h3 => ends_meet a b t h1 h2 h3
  have j1 : [a, t].flatten = a ++ t := by simp
  have j2 : [b, t].flatten = b ++ t := by simp
  have l1 : (a ++ t).length ≤ 1000 := by rw [List.length_append]; omega
  have l2 : (b ++ t).length ≤ 1000 := by rw [List.length_append]; omega
  unfold stockyardlaw24_ChunkerMeets.f
  rw [hm, Option.bind_some]
  simp only
  rw [ht, Option.bind_some]
  simp only
  rw [hu, Option.bind_some]
  simp only
  rw [hv, Option.bind_some]
  simp only
  rw [joined_is (by rw [j1]; omega) (by simp) (by simp), Option.bind_some, j1, lEnds_is hO (hA.append hT) (by omega), Option.bind_some, joined_is (by rw [j2]; omega) (by simp) (by simp), Option.bind_some, j2, lEnds_is hO (hB.append hT) (by omega), Option.bind_some, known_is (by omega), Option.bind_some]
  simp only
  rw [if_pos trivial, if_pos trivial]
  simp only [stockyardlaw24_ChunkerMeets.j0, Bool.not_true]
  rw [if_neg (by simp)]
  unfold endsI
  generalize ends mn mx wd (2 ^ j - 1) (a ++ t) = E at *
  generalize ends mn mx wd (2 ^ j - 1) (b ++ t) = F at *
  exact meets_loop a b t E F (by omega) (by omega) (by omega) (by omega) (by omega) hg _ _ 0 false rfl (by omega) (by omega) (fun h => by cases h)
theorem ChunkerMeets : Goal.ChunkerMeets := by
  intro A c l w hr hc hn hw
  exact stockyardlaw24_ChunkerMeets.calls 20000 A c l true w hr hc (pureMeets l (Wf.of hn hw)) rfl
end Go.Proofs.Ytgfodmpdnhebjaa.Walk
