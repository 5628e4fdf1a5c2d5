/- ChunkerEnds, plainly: Ends and Split return the boundaries and the chunks of the document. -/
import Derived.Test.YtgfodmpdnhebjaaCp
import Derived.Test.YtgfodmpdnhebjaaGChunkerEnds
import Derived.Test.YtgfodmpdnhebjaaPxf8
namespace Go.Proofs.Ytgfodmpdnhebjaa.Walk
open Go.RowKit Go.Proofs.Ytgfodmpdnhebjaa.P Go.Proofs.Ytgfodmpdnhebjaa.Fp Go.Proofs.Ytgfodmpdnhebjaa.FM Go.Proofs.Ytgfodmpdnhebjaa.Ck Go.Proofs.Ytgfodmpdnhebjaa.Chk Go.Proofs.Ytgfodmpdnhebjaa.Cp Go.Proofs.YtgfodmpdnhebjaaW.PrintWords Go.Proofs.YtgfodmpdnhebjaaW.PrintLast
set_option linter.unusedVariables false
theorem pureEnds (l : List Int) (hl : Wf l) : stockyardlaw24_ChunkerEnds.f 20000 l = some true := by
  obtain ⟨mn, mx, wd, j, hm, hO, hj, hx⟩ := made_is hl (a := 0) (by omega) (by omega)
  obtain ⟨b, a, ht, hb, hB, ha, ha'⟩ := text_is hl (n := 90) (a := 0 + 4) (k := 20000) (by omega) (by omega) (by omega) (by omega) (by omega)
  have hbl : b.length ≤ 90 := by omega
  have hle := ends_length_le (mn := mn) (mx := mx) (wd := wd) (ms := 2 ^ j - 1) b
  unfold stockyardlaw24_ChunkerEnds.f
  rw [hm, Option.bind_some]
  simp only
  rw [ht, Option.bind_some]
  simp only
  rw [lEnds_is hO hB (by omega), Option.bind_some, rEnds_is hO hB (by omega) (by omega), Option.bind_some, split_is hO hB (by omega) (by omega), Option.bind_some, known_is (by omega), Option.bind_some]
  simp only
  rw [if_pos trivial, if_pos trivial, if_pos trivial, if_pos trivial, same_is (by rw [endsI_length]; omega) (by rw [endsI_length]; omega), Option.bind_some, if_pos rfl, cuts_is (by omega) (by omega), Option.bind_some, texts_is (by rw [cutL_length]; omega) (by rw [cutL_length]; omega), Option.bind_some]
theorem ChunkerEnds : Goal.ChunkerEnds := by
  intro A c l w hr hc hn hw
  exact stockyardlaw24_ChunkerEnds.calls 20000 A c l true w hr hc (pureEnds l (Wf.of hn hw)) rfl
end Go.Proofs.Ytgfodmpdnhebjaa.Walk
