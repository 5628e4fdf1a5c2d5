/- The goal of the walk of FingerprintParts: for every input the call returns true and leaves the old memory as it was. -/
import Derived.Test.YtbjadpeolkpmcaaProg
import Derived.WalkKit
import Derived.Test.YtbjadpeolkpmcaaWWords
import Derived.Test.YtbjadpeolkpmcaaWLast
import Derived.Test.YtbjadpeolkpmcaaWMore
namespace Go.Proofs.Ytbjadpeolkpmcaa.Goal
open Go.RowKit Go.Proofs.YtbjadpeolkpmcaaW.PrintWords Go.Proofs.YtbjadpeolkpmcaaW.PrintLast
def FingerprintParts : Prop := ∀ (A0 : Option Addr) (c0 : Nat) (l0 : List Int) (a1 : Int) (a2 : Int) (w : World), Kd.C (Kd.int .u8) w A0 l0.length l0 → l0.length ≤ c0 → l0.length * 1 ≤ 140737488351232 → (∀ x ∈ l0, (Lit.int .u8 x).wf = true) → (Lit.int .i64 a1).wf = true → (Lit.int .i64 a2).wf = true → Calls Try.prog 12 #[.slice A0 l0.length c0, .int .i64 a1, .int .i64 a2] w fun e w' => e = .returned (.bool true) ∧ Below w.heap.size w w'
end Go.Proofs.Ytbjadpeolkpmcaa.Goal
