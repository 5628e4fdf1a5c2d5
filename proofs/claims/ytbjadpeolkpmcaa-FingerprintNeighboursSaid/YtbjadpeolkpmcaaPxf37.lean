-- Printed by a program (pr.py over the kit's print) out of the translation.
import Derived.Test.YtbjadpeolkpmcaaPx0
namespace Go.Proofs.Ytbjadpeolkpmcaa.P
open Go.RowKit Go.Proofs.YtbjadpeolkpmcaaW.PrintWords Go.Proofs.YtbjadpeolkpmcaaW.PrintLast Go.Proofs.YtbjadpeolkpmcaaW.PrintMore
attribute [local go_sem] max2_int min2_int max_two min_two max_three min_three max_four min_four   -- for this text's walks alone
set_option linter.unusedVariables false
set_option linter.unusedSimpArgs false

/-! ### stockyardref22_Plus: function 37 -/
def stockyardref22_Plus.f (a0 : Int) (a1 : Int) : Option (Int) := if (IntKind.u64.wrap (a0 + a1)) ≥ 2305843009213693951 then (if (IntKind.u64.wrap ((IntKind.u64.wrap (a0 + a1)) - 2305843009213693951)) ≥ 2305843009213693951 then (some (IntKind.u64.wrap ((IntKind.u64.wrap ((IntKind.u64.wrap (a0 + a1)) - 2305843009213693951)) - 2305843009213693951))) else (some (IntKind.u64.wrap ((IntKind.u64.wrap (a0 + a1)) - 2305843009213693951)))) else (some (IntKind.u64.wrap (a0 + a1)))
set_option maxHeartbeats 8000000 in
set_option maxRecDepth 100000 in
theorem stockyardref22_Plus.calls (a0 : Int) (a1 : Int) (r : Int) (w : World) (h : stockyardref22_Plus.f a0 a1 = some r) :
    Calls Try.prog 37 #[.int .u64 a0, .int .u64 a1] w fun e w' => e = .returned (.int .u64 r) ∧ Drawn0 w w' := by
  have H : (if (IntKind.u64.wrap (a0 + a1)) ≥ 2305843009213693951 then (if (IntKind.u64.wrap ((IntKind.u64.wrap (a0 + a1)) - 2305843009213693951)) ≥ 2305843009213693951 then (some (IntKind.u64.wrap ((IntKind.u64.wrap ((IntKind.u64.wrap (a0 + a1)) - 2305843009213693951)) - 2305843009213693951))) else (some (IntKind.u64.wrap ((IntKind.u64.wrap (a0 + a1)) - 2305843009213693951)))) else (some (IntKind.u64.wrap (a0 + a1)))) = some r := h
  clear h
  by_cases c3 : (IntKind.u64.wrap (a0 + a1)) ≥ 2305843009213693951
  · rw [if_pos c3] at H
    have c3b0 : decide (2305843009213693951 ≤ (IntKind.u64.wrap (a0 + a1))) = true := decide_eq_true c3
    clear c3
    by_cases c4 : (IntKind.u64.wrap ((IntKind.u64.wrap (a0 + a1)) - 2305843009213693951)) ≥ 2305843009213693951
    · rw [if_pos c4] at H
      have c4b0 : decide (2305843009213693951 ≤ (IntKind.u64.wrap ((IntKind.u64.wrap (a0 + a1)) - 2305843009213693951))) = true := decide_eq_true c4
      clear c4
      obtain rfl := Option.some.inj H
      go_enter Try.func37, Try.ntmps37
      go_wp2
      go_ret
      exact ⟨by first | rfl | (simp; done) | (simp [*]; done), by repeat (first | exact Drawn0.refl _ | apply Drawn0.step)⟩
    · rw [if_neg c4] at H
      have c4b0 : decide (2305843009213693951 ≤ (IntKind.u64.wrap ((IntKind.u64.wrap (a0 + a1)) - 2305843009213693951))) = false := decide_eq_false c4
      clear c4
      obtain rfl := Option.some.inj H
      go_enter Try.func37, Try.ntmps37
      go_wp2
      go_ret
      exact ⟨by first | rfl | (simp; done) | (simp [*]; done), by repeat (first | exact Drawn0.refl _ | apply Drawn0.step)⟩
  · rw [if_neg c3] at H
    have c3b0 : decide (2305843009213693951 ≤ (IntKind.u64.wrap (a0 + a1))) = false := decide_eq_false c3
    clear c3
    obtain rfl := Option.some.inj H
    go_enter Try.func37, Try.ntmps37
    go_wp2
    go_ret
    exact ⟨by first | rfl | (simp; done) | (simp [*]; done), by repeat (first | exact Drawn0.refl _ | apply Drawn0.step)⟩

end Go.Proofs.Ytbjadpeolkpmcaa.P
