/- Power returns the powers of Base up to MaxContent, and 0 for all other numbers: for every int. -/
import Derived.Test.YtbjadpeolkpmcaaPxf7
import Derived.Test.YtbjadpeolkpmcaaFq
namespace Go.Proofs.Ytbjadpeolkpmcaa.Pure
open Go.RowKit Go.Proofs.Ytbjadpeolkpmcaa.P Go.Proofs.Ytbjadpeolkpmcaa.Fp Go.Proofs.Ytbjadpeolkpmcaa.FM Go.Proofs.YtbjadpeolkpmcaaW.PrintWords Go.Proofs.YtbjadpeolkpmcaaW.PrintLast
theorem wf_i64 {a : Int} (h : (Lit.int .i64 a).wf = true) : -9223372036854775808 ≤ a ∧ a ≤ 9223372036854775807 := by
  simp [Lit.wf, IntKind.min, IntKind.max, IntKind.bits, IntKind.signed] at h
  omega
theorem FingerprintPowers : stockyardlaw22_FingerprintPowers.Pure := by
  intro n hn
  have hn := wf_i64 hn
  refine ⟨100, ?_⟩
  unfold stockyardlaw22_FingerprintPowers.f
  rw [fold_is hn (by omega), Option.bind_some, power_is 0 (by omega), Option.bind_some, if_pos (by decide), power_is n (by omega), Option.bind_some, Power_is n (by omega), Option.bind_some, if_pos rfl, power_is _ (by omega), Option.bind_some, Power_is _ (by omega), Option.bind_some]
  simp
end Go.Proofs.Ytbjadpeolkpmcaa.Pure
