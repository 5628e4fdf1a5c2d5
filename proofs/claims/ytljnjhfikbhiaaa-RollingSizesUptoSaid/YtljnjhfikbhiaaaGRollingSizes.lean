/- The goal of the walk of RollingSizes: for every input the call returns true and leaves the old memory as it was. -/
import Derived.Test.YtljnjhfikbhiaaaProg
import Derived.WalkKit
import Derived.Test.YtljnjhfikbhiaaaWWords
import Derived.Test.YtljnjhfikbhiaaaWLast
import Derived.Test.YtljnjhfikbhiaaaWMore
namespace Go.Proofs.Ytljnjhfikbhiaaa.Goal
open Go.RowKit Go.Proofs.YtljnjhfikbhiaaaW.PrintWords Go.Proofs.YtljnjhfikbhiaaaW.PrintLast
def RollingSizes : Prop := ∀ (a0 : Int) (A1 : Option Addr) (c1 : Nat) (l1 : List Int) (w : World), (Lit.int .i64 a0).wf = true → Kd.C (Kd.int .u8) w A1 l1.length l1 → l1.length ≤ c1 → l1.length ≤ 1048576 → (∀ x ∈ l1, (Lit.int .u8 x).wf = true) → Calls Try.prog 4 #[.int .i64 a0, .slice A1 l1.length c1] w fun e w' => e = .returned (.bool true) ∧ Below w.heap.size w w'
end Go.Proofs.Ytljnjhfikbhiaaa.Goal
