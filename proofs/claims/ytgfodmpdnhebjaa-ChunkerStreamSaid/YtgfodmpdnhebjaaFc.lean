/- The contracts of package fingerprint's functions and of the statements' helpers, with what they compute. -/
import Derived.Test.YtgfodmpdnhebjaaFq
namespace Go.Proofs.Ytgfodmpdnhebjaa.Fp
open Go.RowKit Go.Proofs.Ytgfodmpdnhebjaa.P Go.Proofs.Ytgfodmpdnhebjaa.FM Go.Proofs.YtgfodmpdnhebjaaW.PrintWords Go.Proofs.YtgfodmpdnhebjaaW.PrintLast Go.Proofs.YtgfodmpdnhebjaaW.PrintMore
set_option linter.unusedVariables false
/-- Behind a call: the old cells read as they did, none of them is frozen or let go. -/
theorem bcell {W w1 : World} (hb : Below W.heap.size W w1) : (∀ b o, b < W.heap.size → w1.cell? ⟨b, o, none⟩ = W.cell? ⟨b, o, none⟩) ∧ (∀ b o, b < W.heap.size → w1.frozen? ⟨b, o, none⟩ = W.frozen? ⟨b, o, none⟩) :=
  ⟨fun b o h => hb.cell (p := ⟨b, o, none⟩) h, fun b o h => hb.frozen (p := ⟨b, o, none⟩) h⟩
theorem stepB {w W w1 : World} (hW : Below w.heap.size w W) (hb : Below W.heap.size W w1) : Below w.heap.size w w1 := below_then hW hW.size hb
theorem Sum_c {A : Option Addr} {c : Nat} {l : List Int} (w : World) (hr : Kd.C (Kd.int .u8) w A l.length l) (hc : l.length ≤ c) (hl : IsBytes l) (hn : l.length ≤ 140737488351232) :
    Calls Try.prog 41 #[.slice A l.length c] w fun e w' => e = .returned (.int .u64 (fp l)) ∧ Drawn0 w w' :=
  stockyardref22_Sum.calls _ A c l _ w hr hc (Sum_is hl hn (Nat.lt_succ_self _))
theorem join_c {a m b n : Int} (w : World) (a0 : 0 ≤ a) (b0 : 0 ≤ b) : Calls Try.prog 49 #[.agg #[.int .u64 a, .int .i64 m], .agg #[.int .u64 b, .int .i64 n]] w fun e w' =>
    e = .returned (.tuple #[.agg #[.int .u64 (joinS a m b n).1, .int .i64 (joinS a m b n).2.1], .int .i64 (joinS a m b n).2.2]) ∧ Below w.heap.size w w' :=
  fingerprint_Join.calls 71 a m b n _ _ _ w (join_is a0 b0 (by omega))
theorem wf_u64 {a : Int} (h : (Lit.int .u64 a).wf = true) : 0 ≤ a ∧ a ≤ 18446744073709551615 := by
  simp [Lit.wf, IntKind.min, IntKind.max, IntKind.bits, IntKind.signed] at h
  omega
theorem wf_i64 {a : Int} (h : (Lit.int .i64 a).wf = true) : -9223372036854775808 ≤ a ∧ a ≤ 9223372036854775807 := by
  simp [Lit.wf, IntKind.min, IntKind.max, IntKind.bits, IntKind.signed] at h
  omega
end Go.Proofs.Ytgfodmpdnhebjaa.Fp
