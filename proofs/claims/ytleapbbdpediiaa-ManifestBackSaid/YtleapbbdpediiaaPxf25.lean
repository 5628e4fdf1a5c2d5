-- What this claim does not use is left out (shake.py).
import Derived.Test.YtleapbbdpediiaaPx0
import Derived.Test.YtleapbbdpediiaaDs
-- Printed by a program (pr.py over the kit's print) out of the translation.
namespace Go.Proofs.Ytleapbbdpediiaa.P
open Go.RowKit Go.Proofs.YtleapbbdpediiaaW.PrintWords Go.Proofs.YtleapbbdpediiaaW.PrintLast Go.Proofs.YtleapbbdpediiaaW.PrintMore
attribute [local go_sem] max2_int min2_int max_two min_two max_three min_three max_four min_four   -- for this text's walks alone
set_option linter.unusedVariables false
set_option linter.unusedSimpArgs false

/-! ### stockyardmake_Distinct: function 25 -/
/-- Whether no two different ones have the same ID (Ds.distF). -/
def stockyardmake_Distinct.f (l0 : List (List Int)) : Option (Bool) := Ds.distF l0
theorem stockyardmake_Distinct.calls (A0 : Option Addr) (c0 : Nat) (l0 : List (List Int)) (r : Bool) (w : World) (hr0 : Kd.C (Kd.slice 5 (Kd.int .u8)) w A0 l0.length l0) (hc0 : l0.length ≤ c0) (h : stockyardmake_Distinct.f l0 = some r) :
    Calls Try.prog 25 #[.slice A0 l0.length c0] w fun e w' => e = .returned (.bool r) ∧ Below w.heap.size w w' := by
  unfold stockyardmake_Distinct.f Ds.distF at h
  by_cases hG : Ds.GoodL l0
  · rw [if_pos hG] at h
    cases h
    exact Ds.dist_c w hr0 hc0 hG
  · rw [if_neg hG] at h
    cases h

end Go.Proofs.Ytleapbbdpediiaa.P
