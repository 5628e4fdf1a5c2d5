-- What this claim does not use is left out (shake.py).
import Derived.Test.YtleapbbdpediiaaRg
import Derived.Test.YtleapbbdpediiaaPx0
import Derived.Test.YtleapbbdpediiaaPxf63
import Derived.Test.YtleapbbdpediiaaPxf55
/- The reference's find and Range. -/
namespace Go.Proofs.Ytleapbbdpediiaa.Rg
open Go.RowKit Go.Proofs.Ytleapbbdpediiaa.P Go.Proofs.Ytleapbbdpediiaa.Fp Go.Proofs.Ytleapbbdpediiaa.FM Go.Proofs.Ytleapbbdpediiaa.Mp Go.Proofs.Ytleapbbdpediiaa.Mf Go.Proofs.YtleapbbdpediiaaW.PrintWords Go.Proofs.YtleapbbdpediiaaW.PrintLast Go.Proofs.YtleapbbdpediiaaW.PrintMore
set_option linter.unusedVariables false
set_option linter.unusedSimpArgs false
attribute [local go_sem high] eqA51
theorem Of_is {l : List Int} (hl : IsBytes l) (hn : l.length ≤ 140737488351232) {k : Nat} (hk : l.length < k) : stockyardref22_Of.f k l = some (fp l, (l.length : Int)) := by
  unfold stockyardref22_Of.f
  rw [Sum_is hl hn hk, Option.bind_some]
end Go.Proofs.Ytleapbbdpediiaa.Rg
