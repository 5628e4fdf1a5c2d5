/- The walk of FingerprintValid: Valid reports exactly which IDs are valid. -/
import Derived.Test.YtbjadpeolkpmcaaGFingerprintValid
import Derived.Test.YtbjadpeolkpmcaaPxf3
import Derived.Test.YtbjadpeolkpmcaaFq
import Derived.Test.YtbjadpeolkpmcaaPxf17
namespace Go.Proofs.Ytbjadpeolkpmcaa.Walk
open Go.RowKit Go.Proofs.Ytbjadpeolkpmcaa.P Go.Proofs.Ytbjadpeolkpmcaa.Fp Go.Proofs.Ytbjadpeolkpmcaa.FM Go.Proofs.YtbjadpeolkpmcaaW.PrintWords Go.Proofs.YtbjadpeolkpmcaaW.PrintLast
theorem wf_u64 {a : Int} (h : (Lit.int .u64 a).wf = true) : 0 ≤ a ∧ a ≤ 18446744073709551615 := by
  simp [Lit.wf, IntKind.min, IntKind.max, IntKind.bits, IntKind.signed] at h
  omega
theorem wf_i64 {a : Int} (h : (Lit.int .i64 a).wf = true) : -9223372036854775808 ≤ a ∧ a ≤ 9223372036854775807 := by
  simp [Lit.wf, IntKind.min, IntKind.max, IntKind.bits, IntKind.signed] at h
  omega
/-- What the statements' 'made' gives. -/
theorem made_is {s n m : Int} (hs : 0 ≤ s) (hn : -9223372036854775808 ≤ n ∧ n ≤ 9223372036854775807) (hm : 0 ≤ m ∧ m ≤ 1048576) :
    stockyardlaw22_made.f s n m = some (if foldS n (m + 1) = 0 then 0 else s % P, foldS n (m + 1)) := by
  unfold stockyardlaw22_made.f
  rw [show wrap64 (m + 1) = m + 1 by unfold wrap64; omega, fold_is hn (by omega), Option.bind_some]
  split
  · rfl
  · rw [Int.tmod_eq_emod_of_nonneg hs]
    rfl
theorem made_valid {s n m : Int} (hm : 0 ≤ m ∧ m ≤ 1048576) : vld (if foldS n (m + 1) = 0 then 0 else s % P) (foldS n (m + 1)) = true := by
  have h := foldS_range (v := n) (n := m + 1) (by omega)
  have hp := P_def
  rw [vld_iff]
  split
  · refine ⟨by omega, by omega, by omega, .inr rfl⟩
  · exact ⟨by omega, by omega, emod_lt _, .inl (by omega)⟩
theorem FingerprintValid : Goal.FingerprintValid := by
  intro s n w hs hn
  have hs := wf_u64 hs
  have hn := wf_i64 hn
  refine stockyardlaw22_FingerprintValid.calls s n true w ?_
  unfold stockyardlaw22_FingerprintValid.f
  rw [valid_is, Option.bind_some, if_pos (by decide), valid_is, Option.bind_some, Valid_is, Option.bind_some, if_pos (by simp), made_is hs.1 hn (by omega), Option.bind_some, valid_is, Option.bind_some, made_valid (by omega)]
end Go.Proofs.Ytbjadpeolkpmcaa.Walk
