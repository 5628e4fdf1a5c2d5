/- The goal of the walk of ChunkerChecks: for every input the call returns true and leaves the old memory as it was. -/
import Derived.Test.YtgfodmpdnhebjaaProg
import Derived.WalkKit
import Derived.Test.YtgfodmpdnhebjaaWWords
import Derived.Test.YtgfodmpdnhebjaaWLast
import Derived.Test.YtgfodmpdnhebjaaWMore
namespace Go.Proofs.Ytgfodmpdnhebjaa.Goal
open Go.RowKit Go.Proofs.YtgfodmpdnhebjaaW.PrintWords Go.Proofs.YtgfodmpdnhebjaaW.PrintLast
def ChunkerChecks : Prop := ∀ (a0_0 : Int) (a0_1 : Int) (a0_2 : Int) (a0_3 : Int) (A1 : Option Addr) (c1 : Nat) (l1 : List Int) (w : World), (Lit.int .i64 a0_0).wf = true → (Lit.int .i64 a0_1).wf = true → (Lit.int .i64 a0_2).wf = true → (Lit.int .u64 a0_3).wf = true → Kd.C (Kd.int .u8) w A1 l1.length l1 → l1.length ≤ c1 → l1.length * 1 ≤ 140737488351232 → (∀ x ∈ l1, (Lit.int .u8 x).wf = true) → Calls Try.prog 11 #[.agg #[.int .i64 a0_0, .int .i64 a0_1, .int .i64 a0_2, .int .u64 a0_3], .slice A1 l1.length c1] w fun e w' => e = .returned (.bool true) ∧ Below w.heap.size w w'
end Go.Proofs.Ytgfodmpdnhebjaa.Goal
