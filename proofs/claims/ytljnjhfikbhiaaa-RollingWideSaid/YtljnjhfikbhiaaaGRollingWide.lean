/- The goal of the walk of RollingWide: for every input the call returns true and leaves the old memory as it was. -/
import Derived.Test.YtljnjhfikbhiaaaProg
import Derived.WalkKit
import Derived.Test.YtljnjhfikbhiaaaWWords
import Derived.Test.YtljnjhfikbhiaaaWLast
import Derived.Test.YtljnjhfikbhiaaaWMore
namespace Go.Proofs.Ytljnjhfikbhiaaa.Goal
open Go.RowKit Go.Proofs.YtljnjhfikbhiaaaW.PrintWords Go.Proofs.YtljnjhfikbhiaaaW.PrintLast
def RollingWide : Prop := ∀ (A0 : Option Addr) (c0 : Nat) (l0 : List Int) (w : World), Kd.C (Kd.int .u8) w A0 l0.length l0 → l0.length ≤ c0 → l0.length * 1 ≤ 140737488351232 → (∀ x ∈ l0, (Lit.int .u8 x).wf = true) → Calls Try.prog 7 #[.slice A0 l0.length c0] w fun e w' => e = .returned (.bool true) ∧ Below w.heap.size w w'
end Go.Proofs.Ytljnjhfikbhiaaa.Goal
