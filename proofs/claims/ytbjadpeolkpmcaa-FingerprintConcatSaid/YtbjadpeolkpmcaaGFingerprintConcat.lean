/- The goal of the walk of FingerprintConcat: for every input the call returns true and leaves the old memory as it was. -/
import Derived.Test.YtbjadpeolkpmcaaProg
import Derived.WalkKit
import Derived.Test.YtbjadpeolkpmcaaWWords
import Derived.Test.YtbjadpeolkpmcaaWLast
import Derived.Test.YtbjadpeolkpmcaaWMore
namespace Go.Proofs.Ytbjadpeolkpmcaa.Goal
open Go.RowKit Go.Proofs.YtbjadpeolkpmcaaW.PrintWords Go.Proofs.YtbjadpeolkpmcaaW.PrintLast
def FingerprintConcat : Prop := ∀ (A0 : Option Addr) (c0 : Nat) (l0 : List Int) (A1 : Option Addr) (c1 : Nat) (l1 : List Int) (w : World), Kd.C (Kd.int .u8) w A0 l0.length l0 → l0.length ≤ c0 → l0.length * 1 ≤ 140737488351232 → (∀ x ∈ l0, (Lit.int .u8 x).wf = true) → Kd.C (Kd.int .u8) w A1 l1.length l1 → l1.length ≤ c1 → l1.length * 1 ≤ 140737488351232 → (∀ x ∈ l1, (Lit.int .u8 x).wf = true) → Calls Try.prog 11 #[.slice A0 l0.length c0, .slice A1 l1.length c1] w fun e w' => e = .returned (.bool true) ∧ Below w.heap.size w w'
end Go.Proofs.Ytbjadpeolkpmcaa.Goal
