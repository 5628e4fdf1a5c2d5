/- The goal of the walk of FingerprintWindows: for every input the call returns true and leaves the old memory as it was. -/
import Derived.Test.YtbjadpeolkpmcaaProg
import Derived.WalkKit
import Derived.Test.YtbjadpeolkpmcaaWWords
import Derived.Test.YtbjadpeolkpmcaaWLast
import Derived.Test.YtbjadpeolkpmcaaWMore
namespace Go.Proofs.Ytbjadpeolkpmcaa.Goal
open Go.RowKit Go.Proofs.YtbjadpeolkpmcaaW.PrintWords Go.Proofs.YtbjadpeolkpmcaaW.PrintLast
def FingerprintWindows : Prop := ∀ (A0 : Option Addr) (c0 : Nat) (l0 : List Int) (A1 : Option Addr) (c1 : Nat) (l1 : List Int) (a2 : Int) (a3 : Int) (w : World), Kd.C (Kd.int .u8) w A0 l0.length l0 → l0.length ≤ c0 → l0.length ≤ 1048576 → (∀ x ∈ l0, (Lit.int .u8 x).wf = true) → Kd.C (Kd.int .u64) w A1 l1.length l1 → l1.length ≤ c1 → l1.length ≤ 1048576 → (∀ x ∈ l1, (Lit.int .u64 x).wf = true) → (Lit.int .i64 a2).wf = true → (Lit.int .i64 a3).wf = true → Calls Try.prog 9 #[.slice A0 l0.length c0, .slice A1 l1.length c1, .int .i64 a2, .int .i64 a3] w fun e w' => e = .returned (.bool true) ∧ Below w.heap.size w w'
end Go.Proofs.Ytbjadpeolkpmcaa.Goal
