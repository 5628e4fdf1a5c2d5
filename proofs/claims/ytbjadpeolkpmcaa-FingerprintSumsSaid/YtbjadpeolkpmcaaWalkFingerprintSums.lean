/- The walk of FingerprintSums: Sum and Of return the fingerprint and the ID of every byte string. -/
import Derived.Test.YtbjadpeolkpmcaaGFingerprintSums
import Derived.Test.YtbjadpeolkpmcaaFc
import Derived.Test.YtbjadpeolkpmcaaPxe24
namespace Go.Proofs.Ytbjadpeolkpmcaa.Walk
open Go.RowKit Go.Proofs.Ytbjadpeolkpmcaa.P Go.Proofs.Ytbjadpeolkpmcaa.Fp Go.Proofs.Ytbjadpeolkpmcaa.FM Go.Proofs.YtbjadpeolkpmcaaW.PrintWords Go.Proofs.YtbjadpeolkpmcaaW.PrintLast
attribute [local go_sem high] eqA24
set_option maxHeartbeats 1000000 in
set_option maxRecDepth 100000 in
theorem FingerprintSums : Goal.FingerprintSums := by
  intro A c l w hr hc hn hw
  have hl := IsBytes.of_wf hw
  clear hw
  go_enter Try.func6, Try.ntmps6
  go_wp2_with fail
  refine (known_c _).mono ?_
  rintro e w1 ⟨rfl, hb1⟩
  go_wp2_with fail
  refine (sum_c _ (Kd.C_below hr hb1) hc hl (by omega)).mono ?_
  rintro e w2 ⟨rfl, hd2⟩
  have hb2 := below_then hb1 hb1.size hd2.below
  go_wp2_with fail
  refine (Sum_c _ (Kd.C_below hr hb2) hc hl (by omega)).mono ?_
  rintro e w3 ⟨rfl, hd3⟩
  have hb3 := below_then hb2 hb2.size hd3.below
  go_wp2_with fail
  refine (of_c _ (Kd.C_below hr hb3) hc hl (by omega)).mono ?_
  rintro e w4 ⟨rfl, hb4⟩
  have hb4 := below_then hb3 hb3.size hb4
  go_wp2_with fail
  refine (Sum_c _ (Kd.C_below hr hb4) hc hl (by omega)).mono ?_
  rintro e w5 ⟨rfl, hd5⟩
  have hb5 := below_then hb4 hb4.size hd5.below
  go_wp2_with fail
  go_ret
  exact ⟨by simp, hb5⟩
end Go.Proofs.Ytbjadpeolkpmcaa.Walk
