/- ChunkerEdit, plainly: an edit in the middle of a string changes no chunk that ends ahead of it. -/
import Derived.Test.YtgfodmpdnhebjaaCp
import Derived.Test.YtgfodmpdnhebjaaGChunkerEdit
import Derived.Test.YtgfodmpdnhebjaaPxf6
namespace Go.Proofs.Ytgfodmpdnhebjaa.Walk
open Go.RowKit Go.Proofs.Ytgfodmpdnhebjaa.P Go.Proofs.Ytgfodmpdnhebjaa.Fp Go.Proofs.Ytgfodmpdnhebjaa.FM Go.Proofs.Ytgfodmpdnhebjaa.Ck Go.Proofs.Ytgfodmpdnhebjaa.Chk Go.Proofs.Ytgfodmpdnhebjaa.Cp Go.Proofs.YtgfodmpdnhebjaaW.PrintWords Go.Proofs.YtgfodmpdnhebjaaW.PrintLast
set_option linter.unusedVariables false
theorem rd_nat (E : List Nat) {i : Nat} (h : i < E.length) : rd (E.map Int.ofNat) (i : Int) = ((E.getD i 0 : Nat) : Int) := by
  simp [rd, List.getD_eq_getElem?_getD, h]
theorem edit_loop (h : List Int) (E F : List Nat) (hE : E.length ≤ 1048576) (hg : ∀ i, i < E.length → E.getD i 0 < h.length → i < F.length ∧ F.getD i 0 = E.getD i 0) (d : Nat) : ∀ (k i : Nat), E.length - i = d → 2 * d + 1 < k → i ≤ E.length →
    stockyardlaw24_ChunkerEdit.l0 k h (E.map Int.ofNat) (F.map Int.ofNat) (i : Int) = some true := by
  have hlE : (E.map Int.ofNat).length = E.length := List.length_map ..
  have hlF : (F.map Int.ofNat).length = F.length := List.length_map ..
  induction d with
  | zero =>
    intro k i h0 hk hi
    obtain ⟨k, rfl⟩ : ∃ m, k = m + 2 := ⟨k - 2, by omega⟩
    simp only [stockyardlaw24_ChunkerEdit.l0]
    rw [hlE, if_neg (by omega)]
    simp only [stockyardlaw24_ChunkerEdit.j2]
    rw [if_neg (by simp)]
  | succ d ih =>
    intro k i h0 hk hi
    obtain ⟨k, rfl⟩ : ∃ m, k = m + 2 := ⟨k - 2, by omega⟩
    simp only [stockyardlaw24_ChunkerEdit.l0]
    rw [hlE, if_pos (by omega), if_pos (by omega), rd_nat E (by omega)]
    simp only [stockyardlaw24_ChunkerEdit.j2]
    by_cases hc : E.getD i 0 < h.length
    · obtain ⟨h1, h2⟩ := hg i (by omega) hc
      rw [if_pos (by simp only [decide_eq_true_eq]; omega), hlF, hlE, if_neg (by omega), if_pos (by omega), if_pos (by omega), if_pos (by omega), rd_nat E (by omega), rd_nat F h1, if_pos (by rw [h2]), show wrap64 ((i : Int) + 1) = ((i + 1 : Nat) : Int) by unfold wrap64; omega]
      exact ih k (i + 1) (by omega) (by omega) (by omega)
    · rw [if_neg (by simp only [decide_eq_true_eq]; omega)]
theorem pureEdit (l : List Int) (hl : Wf l) : stockyardlaw24_ChunkerEdit.f 20000 l = some true := by
  obtain ⟨mn, mx, wd, j, hm, hO, hj, hx⟩ := made_is hl (a := 0) (by omega) (by omega)
  obtain ⟨h, p, ht, hh, hH, hp, hp'⟩ := text_is hl (n := 90) (a := 0 + 4) (k := 20000) (by omega) (by omega) (by omega) (by omega) (by omega)
  obtain ⟨a, q, hu, ha, hA, hq, hq'⟩ := text_is hl (n := 9) (a := p) (k := 20000) (by omega) (by omega) (by omega) (by omega) (by omega)
  obtain ⟨b, r, hv, hb, hB, hr, hr'⟩ := text_is hl (n := 9) (a := q) (k := 20000) (by omega) (by omega) (by omega) (by omega) (by omega)
  obtain ⟨t, s, hz, ht', hT, hs, hs'⟩ := text_is hl (n := 40) (a := r) (k := 20000) (by omega) (by omega) (by omega) (by omega) (by omega)
  have hg := ends_edit (mn := mn) (mx := mx) (wd := wd) (ms := 2 ^ j - 1) h (a ++ t) (b ++ t)
  have hle := ends_length_le (mn := mn) (mx := mx) (wd := wd) (ms := 2 ^ j - 1) (h ++ (a ++ t))
  have j1 : [h, a, t].flatten = h ++ (a ++ t) := by simp
  have j2 : [h, b, t].flatten = h ++ (b ++ t) := by simp
  have l1 : (h ++ (a ++ t)).length ≤ 1000 := by rw [List.length_append, List.length_append]; omega
  have l2 : (h ++ (b ++ t)).length ≤ 1000 := by rw [List.length_append, List.length_append]; omega
  unfold stockyardlaw24_ChunkerEdit.f
  rw [hm, Option.bind_some]
  simp only
  rw [ht, Option.bind_some]
  simp only
  rw [hu, Option.bind_some]
  simp only
  rw [hv, Option.bind_some]
  simp only
  rw [hz, Option.bind_some]
  simp only
  rw [joined_is (by rw [j1]; omega) (by simp) (by simp), Option.bind_some, j1, lEnds_is hO (hH.append (hA.append hT)) (by omega), Option.bind_some, joined_is (by rw [j2]; omega) (by simp) (by simp), Option.bind_some, j2, lEnds_is hO (hH.append (hB.append hT)) (by omega), Option.bind_some, known_is (by omega), Option.bind_some]
  simp only
  rw [if_pos trivial, if_pos trivial]
  simp only [stockyardlaw24_ChunkerEdit.j0, Bool.not_true]
  rw [if_neg (by simp)]
  unfold endsI
  generalize ends mn mx wd (2 ^ j - 1) (h ++ (a ++ t)) = E at *
  generalize ends mn mx wd (2 ^ j - 1) (h ++ (b ++ t)) = F at *
  exact edit_loop h E F (by omega) hg _ _ 0 rfl (by omega) (by omega)
theorem ChunkerEdit : Goal.ChunkerEdit := by
  intro A c l w hr hc hn hw
  exact stockyardlaw24_ChunkerEdit.calls 20000 A c l true w hr hc (pureEdit l (Wf.of hn hw)) rfl
end Go.Proofs.Ytgfodmpdnhebjaa.Walk
