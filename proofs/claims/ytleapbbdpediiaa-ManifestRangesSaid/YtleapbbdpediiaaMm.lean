-- What this claim does not use is left out (shake.py).
import Derived.Test.YtleapbbdpediiaaMp
import Derived.Test.YtleapbbdpediiaaFc
import Derived.LoopTactic
import Derived.Deep.DeepMust
import Derived.Outline
import Derived.Test.YtleapbbdpediiaaPxf45
/- manifest.Missing: the IDs that are not at hand, each once. -/
namespace Go.Proofs.Ytleapbbdpediiaa.Mf
open Go.RowKit Go.Proofs.Ytleapbbdpediiaa.P Go.Proofs.Ytleapbbdpediiaa.Fp Go.Proofs.Ytleapbbdpediiaa.FM Go.Proofs.Ytleapbbdpediiaa.Mp Go.Proofs.YtleapbbdpediiaaW.PrintWords Go.Proofs.YtleapbbdpediiaaW.PrintLast Go.Proofs.YtleapbbdpediiaaW.PrintMore
set_option linter.unusedVariables false
set_option linter.unusedSimpArgs false
abbrev ID := S51
def pr (x : ID) : Int × Int := (x.f0, x.f1)
/-- The IDs of l, as a map. -/
def seenS (l : List ID) : Int × Int → Option Value := fun y => if y ∈ l.map pr then some (.bool true) else none
theorem seenS_put (l : List ID) (x : ID) : put (seenS l) (pr x) (.bool true) = seenS (l ++ [x]) := by
  funext y
  unfold put seenS
  by_cases h : y = pr x
  · subst h; simp
  · simp [h]
theorem seenS_get (l : List ID) (x : ID) (z : Bool) (hz : z = false) : (seenS l (pr x)).getD (.bool z) = .bool (decide (pr x ∈ l.map pr)) := by
  subst hz
  unfold seenS
  by_cases h : pr x ∈ l.map pr
  · rw [if_pos h]; simp [h]
  · rw [if_neg h]; simp [h]
/-- IDs that a Go program can hold. -/
def WfL (l : List ID) : Prop := ∀ x ∈ l, WfI (pr x)
theorem zeroBool (w : World) : (zeroValue 4).run Try.prog w = .ok (.bool false) w := by kernel_rfl
instance (x : Int × Int) : Decidable (WfI x) := inferInstanceAs (Decidable (_ ∧ _))
instance (l : List ID) : Decidable (WfL l) := inferInstanceAs (Decidable (∀ x ∈ l, WfI (pr x)))
end Go.Proofs.Ytleapbbdpediiaa.Mf
