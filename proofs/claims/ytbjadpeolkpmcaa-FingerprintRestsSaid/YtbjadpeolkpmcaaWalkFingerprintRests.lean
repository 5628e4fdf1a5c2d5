/- The walk of FingerprintRests: Rest returns the result or the error for all IDs, and for all valid ones. -/
import Derived.Test.YtbjadpeolkpmcaaGFingerprintRests
import Derived.Test.YtbjadpeolkpmcaaFrest
import Derived.Test.YtbjadpeolkpmcaaPxf13
namespace Go.Proofs.Ytbjadpeolkpmcaa.Walk
open Go.RowKit Go.Proofs.Ytbjadpeolkpmcaa.P Go.Proofs.Ytbjadpeolkpmcaa.Fp Go.Proofs.Ytbjadpeolkpmcaa.FM Go.Proofs.YtbjadpeolkpmcaaW.PrintWords Go.Proofs.YtbjadpeolkpmcaaW.PrintLast
theorem FingerprintRests : Goal.FingerprintRests := by
  intro a m b n w ha hm hb hn
  have ha := wf_u64 ha
  have hb := wf_u64 hb
  have hm := wf_i64 hm
  have hn := wf_i64 hn
  have hr := madeN_range (n := m) (m := 1048576) (by omega)
  refine stockyardlaw22_FingerprintRests.calls 100 a m b n true w ?_ rfl
  unfold stockyardlaw22_FingerprintRests.f
  rw [rest_is ha.1 hb.1 (by omega), Option.bind_some, Rest_is ha.1 hb.1 (by omega), Option.bind_some, made_is (m := 1048576) ha.1 hm (by omega), Option.bind_some, made_is (m := madeN m 1048576) hb.1 hn (by omega), Option.bind_some,
    rest_is madeS_range.1 madeS_range.1 (by omega), Option.bind_some, Rest_is madeS_range.1 madeS_range.1 (by omega), Option.bind_some, known_is (by omega), Option.bind_some]
  simp
end Go.Proofs.Ytbjadpeolkpmcaa.Walk
