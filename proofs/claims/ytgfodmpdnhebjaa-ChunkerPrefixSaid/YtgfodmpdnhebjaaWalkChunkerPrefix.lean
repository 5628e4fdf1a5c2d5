/- ChunkerPrefix, plainly: all chunks but the last one of a string are chunks of every string that begins with it. -/
import Derived.Test.YtgfodmpdnhebjaaCp
import Derived.Test.YtgfodmpdnhebjaaGChunkerPrefix
import Derived.Test.YtgfodmpdnhebjaaPxf4
namespace Go.Proofs.Ytgfodmpdnhebjaa.Walk
open Go.RowKit Go.Proofs.Ytgfodmpdnhebjaa.P Go.Proofs.Ytgfodmpdnhebjaa.Fp Go.Proofs.Ytgfodmpdnhebjaa.FM Go.Proofs.Ytgfodmpdnhebjaa.Ck Go.Proofs.Ytgfodmpdnhebjaa.Chk Go.Proofs.Ytgfodmpdnhebjaa.Cp Go.Proofs.YtgfodmpdnhebjaaW.PrintWords Go.Proofs.YtgfodmpdnhebjaaW.PrintLast
set_option linter.unusedVariables false
theorem prefix_loop {mn mx wd : Nat} {ms : Int} (a b : List Int) (ha : a.length ≤ 1048576) (d : Nat) : ∀ (k i : Nat), (ends mn mx wd ms a).length - i ≤ d → d < k → i ≤ 2000000 →
    stockyardlaw24_ChunkerPrefix.l0 k (endsI mn mx wd ms a) (endsI mn mx wd ms (a ++ b)) (i : Int) = some true := by
  have hle := ends_length_le (mn := mn) (mx := mx) (wd := wd) (ms := ms) a
  have hp := ends_prefix (mn := mn) (mx := mx) (wd := wd) (ms := ms) a b
  induction d with
  | zero =>
    intro k i h0 hk hi
    obtain ⟨k, rfl⟩ : ∃ m, k = m + 1 := ⟨k - 1, by omega⟩
    simp only [stockyardlaw24_ChunkerPrefix.l0]
    rw [w64 (by omega) (by omega), endsI_length, if_neg (by omega)]
  | succ d ih =>
    intro k i h0 hk hi
    obtain ⟨k, rfl⟩ : ∃ m, k = m + 1 := ⟨k - 1, by omega⟩
    simp only [stockyardlaw24_ChunkerPrefix.l0]
    rw [w64 (by omega) (by omega), endsI_length]
    by_cases hc : i + 1 < (ends mn mx wd ms a).length
    · rw [if_pos (by omega), if_pos (by omega), if_pos (by omega), if_pos (by rw [endsI_length]; omega), rd_endsI a (by omega), rd_endsI (a ++ b) (by omega), hp.2 i hc, if_pos rfl]
      exact ih k (i + 1) (by omega) (by omega) (by omega)
    · rw [if_neg (by omega)]
theorem purePrefix (l : List Int) (hl : Wf l) : stockyardlaw24_ChunkerPrefix.f 20000 l = some true := by
  obtain ⟨mn, mx, wd, j, hm, hO, hj, hx⟩ := made_is hl (a := 0) (by omega) (by omega)
  obtain ⟨a, p, ht, ha, hA, hp, hp'⟩ := text_is hl (n := 90) (a := 0 + 4) (k := 20000) (by omega) (by omega) (by omega) (by omega) (by omega)
  obtain ⟨b, q, hu, hb, hB, hq, hq'⟩ := text_is hl (n := 40) (a := p) (k := 20000) (by omega) (by omega) (by omega) (by omega) (by omega)
  have hal : a.length ≤ 90 := by omega
  have hbl : b.length ≤ 40 := by omega
  have hle := ends_length_le (mn := mn) (mx := mx) (wd := wd) (ms := 2 ^ j - 1) a
  have hpp := (ends_prefix (mn := mn) (mx := mx) (wd := wd) (ms := 2 ^ j - 1) a b).1
  have hj2 : [a, b].flatten = a ++ b := by simp
  unfold stockyardlaw24_ChunkerPrefix.f
  rw [hm, Option.bind_some]
  simp only
  rw [ht, Option.bind_some]
  simp only
  rw [hu, Option.bind_some]
  simp only
  rw [lEnds_is hO hA (by omega), Option.bind_some, joined_is (by rw [hj2, List.length_append]; omega) (by simp) (by simp), Option.bind_some, hj2, lEnds_is hO (hA.append hB) (by rw [List.length_append]; omega), Option.bind_some, known_is (by omega), Option.bind_some]
  simp only
  rw [if_pos trivial, if_pos trivial, if_pos trivial, endsI_length, endsI_length, show decide (((ends mn mx wd (2 ^ j - 1) (a ++ b)).length : Int) < ((ends mn mx wd (2 ^ j - 1) a).length : Int)) = false by simp; omega]
  simp only [stockyardlaw24_ChunkerPrefix.j0]
  rw [if_neg (by simp)]
  exact prefix_loop a b (by omega) 200 _ 0 (by omega) (by omega) (by omega)
theorem ChunkerPrefix : Goal.ChunkerPrefix := by
  intro A c l w hr hc hn hw
  exact stockyardlaw24_ChunkerPrefix.calls 20000 A c l true w hr hc (purePrefix l (Wf.of hn hw)) rfl
end Go.Proofs.Ytgfodmpdnhebjaa.Walk
