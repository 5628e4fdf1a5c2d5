-- What this claim does not use is left out (shake.py).
import Derived.Test.YtleapbbdpediiaaMq
import Derived.Test.YtleapbbdpediiaaPu
import Derived.Test.YtleapbbdpediiaaPxf18
import Derived.Test.YtleapbbdpediiaaPxf23
import Derived.Test.YtleapbbdpediiaaPx0
import Derived.Test.YtleapbbdpediiaaPxe51
import Derived.Test.YtleapbbdpediiaaPxf63
import Derived.Test.YtleapbbdpediiaaPxf45
import Derived.Test.YtleapbbdpediiaaPxf30
/- Locate, known and the bytes of a content, plainly. -/
namespace Go.Proofs.Ytleapbbdpediiaa.Mr
open Go.RowKit Go.Proofs.Ytleapbbdpediiaa.P Go.Proofs.Ytleapbbdpediiaa.Fp Go.Proofs.Ytleapbbdpediiaa.FM Go.Proofs.Ytleapbbdpediiaa.Mp Go.Proofs.Ytleapbbdpediiaa.Mf Go.Proofs.Ytleapbbdpediiaa.Rg Go.Proofs.Ytleapbbdpediiaa.Mq Go.Proofs.YtleapbbdpediiaaW.PrintWords Go.Proofs.YtleapbbdpediiaaW.PrintLast Go.Proofs.YtleapbbdpediiaaW.PrintMore
set_option linter.unusedVariables false
set_option linter.unusedSimpArgs false
theorem known_100 : stockyardlaw25_known.f 100 = some true := by decide +kernel
theorem known_is {k : Nat} (hk : 100 ≤ k) : stockyardlaw25_known.f k = some true := by
  obtain ⟨d, rfl⟩ := Nat.exists_eq_add_of_le hk
  induction d with
  | zero => exact known_100
  | succ d ih => exact stockyardlaw25_known.mono (100 + d) _ (ih (by omega))
theorem ids_rd {p : List (List Int)} {i : Nat} (h : i < p.length) : rd_T51 (ids p) (i : Int) = idO p[i] := by simp [rd_T51, ids, List.getD, h]
theorem ids_len (p : List (List Int)) : (ids p).length = p.length := by simp [ids]
theorem tot_nn (p : List (List Int)) : 0 ≤ tot p := by unfold tot; omega
end Go.Proofs.Ytleapbbdpediiaa.Mr
