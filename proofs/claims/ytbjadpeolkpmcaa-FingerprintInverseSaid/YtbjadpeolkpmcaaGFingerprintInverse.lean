/- The goal of the walk of FingerprintInverse: for every input the call returns true and leaves the old memory as it was. -/
import Derived.Test.YtbjadpeolkpmcaaProg
import Derived.WalkKit
import Derived.Test.YtbjadpeolkpmcaaWWords
import Derived.Test.YtbjadpeolkpmcaaWLast
import Derived.Test.YtbjadpeolkpmcaaWMore
namespace Go.Proofs.Ytbjadpeolkpmcaa.Goal
open Go.RowKit Go.Proofs.YtbjadpeolkpmcaaW.PrintWords Go.Proofs.YtbjadpeolkpmcaaW.PrintLast
def FingerprintInverse : Prop := ∀ (a0_0 : Int) (a0_1 : Int) (a1_0 : Int) (a1_1 : Int) (w : World), (Lit.int .u64 a0_0).wf = true → (Lit.int .i64 a0_1).wf = true → (Lit.int .u64 a1_0).wf = true → (Lit.int .i64 a1_1).wf = true → Calls Try.prog 14 #[.agg #[.int .u64 a0_0, .int .i64 a0_1], .agg #[.int .u64 a1_0, .int .i64 a1_1]] w fun e w' => e = .returned (.bool true) ∧ Below w.heap.size w w'
end Go.Proofs.Ytbjadpeolkpmcaa.Goal
