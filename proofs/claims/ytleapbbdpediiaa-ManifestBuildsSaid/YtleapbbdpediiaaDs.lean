-- What this claim does not use is left out (shake.py).
import Derived.Test.YtleapbbdpediiaaFc
import Derived.LoopTactic
import Derived.Deep.DeepMust
import Derived.Lib.Hide
import Derived.Laws.Strings
import Derived.Test.YtleapbbdpediiaaPxe51
import Derived.Test.YtleapbbdpediiaaPxf55
/- Distinct: whether no two different ones of some byte strings have the same ID. -/
namespace Go.Proofs.Ytleapbbdpediiaa.Ds
open Go.RowKit Go.Proofs.Ytleapbbdpediiaa.P Go.Proofs.Ytleapbbdpediiaa.Fp Go.Proofs.Ytleapbbdpediiaa.FM Go.Proofs.YtleapbbdpediiaaW.PrintWords Go.Proofs.YtleapbbdpediiaaW.PrintLast Go.Proofs.YtleapbbdpediiaaW.PrintMore
set_option linter.unusedVariables false
set_option linter.unusedSimpArgs false
attribute [local go_sem high] eqA51
def ofP (b : List Int) : Int × Int := (fp b, (b.length : Int))
def GoodL (L : List (List Int)) : Prop := (∀ b ∈ L, IsBytes b ∧ b.length ≤ 140737488351232) ∧ L.length ≤ 1048576
instance (L : List (List Int)) : Decidable (GoodL L) := inferInstanceAs (Decidable ((∀ b ∈ L, (∀ x ∈ b, 0 ≤ x ∧ x ≤ 255) ∧ b.length ≤ 140737488351232) ∧ L.length ≤ 1048576))
theorem Of_is {l : List Int} (hl : IsBytes l) (hn : l.length ≤ 140737488351232) {k : Nat} (hk : l.length < k) : stockyardref22_Of.f k l = some (fp l, (l.length : Int)) := by
  unfold stockyardref22_Of.f
  rw [Sum_is hl hn hk, Option.bind_some]
theorem Of_c {A : Option Addr} {c : Nat} {l : List Int} (w : World) (hr : Kd.C (Kd.int .u8) w A l.length l) (hc : l.length ≤ c) (hl : IsBytes l) (hn : l.length ≤ 140737488351232) :
    Calls Try.prog 55 #[.slice A l.length c] w fun e w' => e = .returned (.agg #[.int .u64 (fp l), .int .i64 (l.length : Int)]) ∧ Below w.heap.size w w' :=
  stockyardref22_Of.calls _ A c l _ _ w hr hc (Of_is hl hn (Nat.lt_succ_self _))
def idO (b : List Int) : S51 := ⟨fp b, (b.length : Int)⟩
end Go.Proofs.Ytleapbbdpediiaa.Ds
