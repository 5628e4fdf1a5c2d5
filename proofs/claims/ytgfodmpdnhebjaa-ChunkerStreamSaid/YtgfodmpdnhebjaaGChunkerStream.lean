/- The goal of the walk of ChunkerStream: for every input the call returns true and leaves the old memory as it was. -/
import Derived.Test.YtgfodmpdnhebjaaProg
import Derived.WalkKit
import Derived.Test.YtgfodmpdnhebjaaWWords
import Derived.Test.YtgfodmpdnhebjaaWLast
import Derived.Test.YtgfodmpdnhebjaaWMore
namespace Go.Proofs.Ytgfodmpdnhebjaa.Goal
open Go.RowKit Go.Proofs.YtgfodmpdnhebjaaW.PrintWords Go.Proofs.YtgfodmpdnhebjaaW.PrintLast
def ChunkerStream : Prop := ∀ (A0 : Option Addr) (c0 : Nat) (l0 : List Int) (w : World), Kd.C (Kd.int .i64) w A0 l0.length l0 → l0.length ≤ c0 → l0.length * 8 ≤ 140737488351232 → (∀ x ∈ l0, (Lit.int .i64 x).wf = true) → Calls Try.prog 12 #[.slice A0 l0.length c0] w fun e w' => e = .returned (.bool true) ∧ Below w.heap.size w w'
end Go.Proofs.Ytgfodmpdnhebjaa.Goal
