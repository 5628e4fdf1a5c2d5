/- The contracts of package fingerprint's functions and of the statements' helpers, with what they compute. -/
import Derived.Test.YtbjadpeolkpmcaaFq
import Derived.Test.YtbjadpeolkpmcaaPxf18
import Derived.Test.YtbjadpeolkpmcaaPxf23
namespace Go.Proofs.Ytbjadpeolkpmcaa.Fp
open Go.RowKit Go.Proofs.Ytbjadpeolkpmcaa.P Go.Proofs.Ytbjadpeolkpmcaa.FM Go.Proofs.YtbjadpeolkpmcaaW.PrintWords Go.Proofs.YtbjadpeolkpmcaaW.PrintLast Go.Proofs.YtbjadpeolkpmcaaW.PrintMore
set_option linter.unusedVariables false
theorem known_is {k : Nat} (hk : 10 ≤ k) : stockyardlaw22_known.f k = some true := by
  unfold stockyardlaw22_known.f
  have b1 : IsBytes [] := by intro x hx; cases hx
  have b2 : IsBytes [0] := by intro x hx; simp at hx; omega
  have b3 : IsBytes [0, 0] := by intro x hx; simp at hx; omega
  have b4 : IsBytes [1, 0] := by intro x hx; simp at hx; omega
  rw [sum_is b1 (by decide) (by simp; omega), Option.bind_some, if_pos (by decide), sum_is b2 (by decide) (by simp; omega), Option.bind_some, if_pos (by decide), sum_is b3 (by decide) (by simp; omega), Option.bind_some, if_pos (by decide), sum_is b4 (by decide) (by simp; omega), Option.bind_some]
  decide
theorem known_c (w : World) : Calls Try.prog 18 #[] w fun e w' => e = .returned (.bool true) ∧ Below w.heap.size w w' :=
  stockyardlaw22_known.calls 10 true w (known_is (by omega))
theorem sum_c {A : Option Addr} {c : Nat} {l : List Int} (w : World) (hr : Kd.C (Kd.int .u8) w A l.length l) (hc : l.length ≤ c) (hl : IsBytes l) (hn : l.length ≤ 140737488351232) :
    Calls Try.prog 21 #[.slice A l.length c] w fun e w' => e = .returned (.int .u64 (fp l)) ∧ Drawn0 w w' :=
  fingerprint_Sum.calls _ A c l _ w hr hc (sum_is hl hn (Nat.lt_succ_self _))
theorem Sum_c {A : Option Addr} {c : Nat} {l : List Int} (w : World) (hr : Kd.C (Kd.int .u8) w A l.length l) (hc : l.length ≤ c) (hl : IsBytes l) (hn : l.length ≤ 140737488351232) :
    Calls Try.prog 22 #[.slice A l.length c] w fun e w' => e = .returned (.int .u64 (fp l)) ∧ Drawn0 w w' :=
  stockyardref22_Sum.calls _ A c l _ w hr hc (Sum_is hl hn (Nat.lt_succ_self _))
theorem of_is {l : List Int} (hl : IsBytes l) (hn : l.length ≤ 140737488351232) {k : Nat} (hk : l.length < k) : fingerprint_Of.f k l = some (fp l, (l.length : Int)) := by
  unfold fingerprint_Of.f
  rw [sum_is hl hn hk, Option.bind_some]
theorem of_c {A : Option Addr} {c : Nat} {l : List Int} (w : World) (hr : Kd.C (Kd.int .u8) w A l.length l) (hc : l.length ≤ c) (hl : IsBytes l) (hn : l.length ≤ 140737488351232) :
    Calls Try.prog 23 #[.slice A l.length c] w fun e w' => e = .returned (.agg #[.int .u64 (fp l), .int .i64 (l.length : Int)]) ∧ Below w.heap.size w w' :=
  fingerprint_Of.calls _ A c l _ _ w hr hc (of_is hl hn (Nat.lt_succ_self _))
end Go.Proofs.Ytbjadpeolkpmcaa.Fp
