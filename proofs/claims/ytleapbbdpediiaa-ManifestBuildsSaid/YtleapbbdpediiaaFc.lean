-- What this claim does not use is left out (shake.py).
import Derived.Test.YtleapbbdpediiaaFq
import Derived.Test.YtleapbbdpediiaaPxf63
/- The contracts of package fingerprint's functions and of the statements' helpers, with what they compute. -/
namespace Go.Proofs.Ytleapbbdpediiaa.Fp
open Go.RowKit Go.Proofs.Ytleapbbdpediiaa.P Go.Proofs.Ytleapbbdpediiaa.FM Go.Proofs.YtleapbbdpediiaaW.PrintWords Go.Proofs.YtleapbbdpediiaaW.PrintLast Go.Proofs.YtleapbbdpediiaaW.PrintMore
set_option linter.unusedVariables false
/-- Behind a call: the old cells read as they did, none of them is frozen or let go. -/
theorem bcell {W w1 : World} (hb : Below W.heap.size W w1) : (∀ b o, b < W.heap.size → w1.cell? ⟨b, o, none⟩ = W.cell? ⟨b, o, none⟩) ∧ (∀ b o, b < W.heap.size → w1.frozen? ⟨b, o, none⟩ = W.frozen? ⟨b, o, none⟩) :=
  ⟨fun b o h => hb.cell (p := ⟨b, o, none⟩) h, fun b o h => hb.frozen (p := ⟨b, o, none⟩) h⟩
theorem stepB {w W w1 : World} (hW : Below w.heap.size w W) (hb : Below W.heap.size W w1) : Below w.heap.size w w1 := below_then hW hW.size hb
theorem Sum_c {A : Option Addr} {c : Nat} {l : List Int} (w : World) (hr : Kd.C (Kd.int .u8) w A l.length l) (hc : l.length ≤ c) (hl : IsBytes l) (hn : l.length ≤ 140737488351232) :
    Calls Try.prog 75 #[.slice A l.length c] w fun e w' => e = .returned (.int .u64 (fp l)) ∧ Drawn0 w w' :=
  stockyardref22_Sum.calls _ A c l _ w hr hc (Sum_is hl hn (Nat.lt_succ_self _))
theorem of_is {l : List Int} (hl : IsBytes l) (hn : l.length ≤ 140737488351232) {k : Nat} (hk : l.length < k) : fingerprint_Of.f k l = some (fp l, (l.length : Int)) := by
  unfold fingerprint_Of.f
  rw [sum_is hl hn hk, Option.bind_some]
theorem of_c {A : Option Addr} {c : Nat} {l : List Int} (w : World) (hr : Kd.C (Kd.int .u8) w A l.length l) (hc : l.length ≤ c) (hl : IsBytes l) (hn : l.length ≤ 140737488351232) :
    Calls Try.prog 42 #[.slice A l.length c] w fun e w' => e = .returned (.agg #[.int .u64 (fp l), .int .i64 (l.length : Int)]) ∧ Below w.heap.size w w' :=
  fingerprint_Of.calls _ A c l _ _ w hr hc (of_is hl hn (Nat.lt_succ_self _))
theorem join_c {a m b n : Int} (w : World) (a0 : 0 ≤ a) (b0 : 0 ≤ b) : Calls Try.prog 48 #[.agg #[.int .u64 a, .int .i64 m], .agg #[.int .u64 b, .int .i64 n]] w fun e w' =>
    e = .returned (.tuple #[.agg #[.int .u64 (joinS a m b n).1, .int .i64 (joinS a m b n).2.1], .int .i64 (joinS a m b n).2.2]) ∧ Below w.heap.size w w' :=
  fingerprint_Join.calls 71 a m b n _ _ _ w (join_is a0 b0 (by omega))
theorem wf_i64 {a : Int} (h : (Lit.int .i64 a).wf = true) : -9223372036854775808 ≤ a ∧ a ≤ 9223372036854775807 := by
  simp [Lit.wf, IntKind.min, IntKind.max, IntKind.bits, IntKind.signed] at h
  omega
end Go.Proofs.Ytleapbbdpediiaa.Fp
