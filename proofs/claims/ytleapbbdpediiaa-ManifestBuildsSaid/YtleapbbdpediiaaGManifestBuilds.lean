-- What this claim does not use is left out (shake.py).
import Derived.Test.YtleapbbdpediiaaProg
import Derived.WalkKit
import Derived.Test.YtleapbbdpediiaaWWords
import Derived.Test.YtleapbbdpediiaaWLast
import Derived.Test.YtleapbbdpediiaaWMore
/- The goal of the walk of ManifestBuilds: for every input the call returns true and leaves the old memory as it was. -/
namespace Go.Proofs.Ytleapbbdpediiaa.Goal
open Go.RowKit Go.Proofs.YtleapbbdpediiaaW.PrintWords Go.Proofs.YtleapbbdpediiaaW.PrintLast
def ManifestBuilds : Prop := ∀ (A0 : Option Addr) (c0 : Nat) (l0 : List Int) (w : World), Kd.C (Kd.int .i64) w A0 l0.length l0 → l0.length ≤ c0 → l0.length * 8 ≤ 140737488351232 → (∀ x ∈ l0, (Lit.int .i64 x).wf = true) → Calls Try.prog 12 #[.slice A0 l0.length c0] w fun e w' => e = .returned (.bool true) ∧ Below w.heap.size w w'
end Go.Proofs.Ytleapbbdpediiaa.Goal
