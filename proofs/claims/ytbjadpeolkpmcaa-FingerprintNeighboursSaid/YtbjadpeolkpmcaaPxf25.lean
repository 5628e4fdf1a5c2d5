-- Printed by a program (pr.py over the kit's print) out of the translation.
import Derived.Test.YtbjadpeolkpmcaaPx0
import Derived.Test.YtbjadpeolkpmcaaPxf38
namespace Go.Proofs.Ytbjadpeolkpmcaa.P
open Go.RowKit Go.Proofs.YtbjadpeolkpmcaaW.PrintWords Go.Proofs.YtbjadpeolkpmcaaW.PrintLast Go.Proofs.YtbjadpeolkpmcaaW.PrintMore
attribute [local go_sem] max2_int min2_int max_two min_two max_three min_three max_four min_four   -- for this text's walks alone
set_option linter.unusedVariables false
set_option linter.unusedSimpArgs false

/-! ### stockyardref22_Power: function 25 -/
mutual
def stockyardref22_Power.j0 : Nat → Int → Bool → Option (Int)
  | 0, _, _ => none
  | k + 1, x0, x10 => if x10 = true then (some 0) else (stockyardref22_Power.l0 k x0 1 747382712868975713)
def stockyardref22_Power.l0 : Nat → Int → Int → Int → Option (Int)
  | 0, _, _, _ => none
  | k + 1, x0, x3, x4 => if x0 > 0 then (if (Go.bits .and .i64 x0 1) = 1 then ((stockyardref22_Mul.f x3 x4).bind fun t158 => ((stockyardref22_Mul.f x4 x4).bind fun t159 => (stockyardref22_Power.l0 k (x0 / 2) t158 t159))) else ((stockyardref22_Mul.f x4 x4).bind fun t160 => (stockyardref22_Power.l0 k (x0 / 2) x3 t160))) else (some x3)
end
def stockyardref22_Power.f (k : Nat) (a0 : Int) : Option (Int) := if a0 < 0 then (stockyardref22_Power.j0 k a0 true) else (stockyardref22_Power.j0 k a0 (decide (a0 > 1048576)))
theorem stockyardref22_Power.mono_l : ∀ k, (∀ y0 y1, LeO (stockyardref22_Power.j0 k y0 y1) (stockyardref22_Power.j0 (k + 1) y0 y1)) ∧ (∀ y0 y1 y2, LeO (stockyardref22_Power.l0 k y0 y1 y2) (stockyardref22_Power.l0 (k + 1) y0 y1 y2))
  | 0 => ⟨fun _ _ r h => by simp [stockyardref22_Power.j0] at h, fun _ _ _ r h => by simp [stockyardref22_Power.l0] at h⟩
  | k + 1 => by
    obtain ⟨ih0, ih1⟩ := stockyardref22_Power.mono_l k
    refine ⟨?_, ?_⟩
    · intro y0 y1
      unfold stockyardref22_Power.j0
      repeat' first
      | (with_reducible exact ih0 _ _)
      | (with_reducible exact ih1 _ _ _)
      | (with_reducible exact LeO.refl _)
      | (with_reducible exact LeO.none _)
      | (with_reducible refine LeO.ite ?_ ?_)
      | (with_reducible refine LeO.bind ?_ (fun _ => ?_))
      | exact ih0 _ _
      | exact ih1 _ _ _
      | exact LeO.none _
      | refine LeO.ite ?_ ?_
      | refine LeO.bind ?_ (fun _ => ?_)
    · intro y0 y1 y2
      unfold stockyardref22_Power.l0
      repeat' first
      | (with_reducible exact ih0 _ _)
      | (with_reducible exact ih1 _ _ _)
      | (with_reducible exact LeO.refl _)
      | (with_reducible exact LeO.none _)
      | (with_reducible refine LeO.ite ?_ ?_)
      | (with_reducible refine LeO.bind ?_ (fun _ => ?_))
      | exact ih0 _ _
      | exact ih1 _ _ _
      | exact LeO.none _
      | refine LeO.ite ?_ ?_
      | refine LeO.bind ?_ (fun _ => ?_)
theorem stockyardref22_Power.mono : ∀ a0 k, LeO (stockyardref22_Power.f k a0) (stockyardref22_Power.f (k + 1) a0) := by
  intro a0 k
  obtain ⟨ih0, ih1⟩ := stockyardref22_Power.mono_l k
  unfold stockyardref22_Power.f
  repeat' first
      | (with_reducible exact ih0 _ _)
      | (with_reducible exact ih1 _ _ _)
      | (with_reducible exact LeO.refl _)
      | (with_reducible exact LeO.none _)
      | (with_reducible refine LeO.ite ?_ ?_)
      | (with_reducible refine LeO.bind ?_ (fun _ => ?_))
      | exact ih0 _ _
      | exact ih1 _ _ _
      | exact LeO.none _
      | refine LeO.ite ?_ ?_
      | refine LeO.bind ?_ (fun _ => ?_)
set_option maxHeartbeats 8000000 in
set_option maxRecDepth 100000 in
theorem stockyardref22_Power.calls (k : Nat) (a0 : Int) (r : Int) (w : World) (h : stockyardref22_Power.f k a0 = some r) :
    Calls Try.prog 25 #[.int .i64 a0] w fun e w' => e = .returned (.int .u64 r) ∧ Drawn0 w w' := by
  have H : (if a0 < 0 then (stockyardref22_Power.j0 k a0 true) else (stockyardref22_Power.j0 k a0 (decide (a0 > 1048576)))) = some r := h
  clear h
  have HC2 := Aside0.mk H
  clear H
  go_enter Try.func25, Try.ntmps25
  go_upto_region 1 with (fail)
  go_cut [10] (fun v10 wc => ∃ (kq : Nat) (x10_1 : Bool), v10 = .bool x10_1 ∧ Aside0 (stockyardref22_Power.j0 kq a0 x10_1 = some r) ∧ Aside0 (kq ≤ k) ∧ Drawn0 w wc)
  case first =>
    have H := HC2.out
    clear HC2
    by_cases c3 : a0 < 0
    · rw [if_pos c3] at H
      have c3b0 : decide (a0 < 0) = true := decide_eq_true c3
      clear c3
      (first | rw [c3b0] | (simp only [i64_w, i32_w]; rw [c3b0]) | skip)
      have H' := Aside0.mk H
      clear H
      go_wp2
      go_meet
      case rel => exact ⟨_, (true), (by first | rfl | (simp; done) | (simp [*]; done)), H', ⟨by first | omega | exact Nat.le_refl _⟩, by repeat (first | exact Drawn0.refl _ | apply Drawn0.step)⟩
    · rw [if_neg c3] at H
      have c3b0 : decide (a0 < 0) = false := decide_eq_false c3
      clear c3
      (first | rw [c3b0] | (simp only [i64_w, i32_w]; rw [c3b0]) | skip)
      have H' := Aside0.mk H
      clear H
      go_wp2
      go_meet
      case rel => exact ⟨_, (decide (a0 > 1048576)), (by first | rfl | (simp; done) | (simp [*]; done)), H', ⟨by first | omega | exact Nat.le_refl _⟩, by repeat (first | exact Drawn0.refl _ | apply Drawn0.step)⟩
  case rest =>
    clear HC2
    try clear c2
    try clear p2
    try clear c3
    try clear c3b0
    obtain ⟨kq, x10_1, rfl, HA, HJ1, ⟨mc1, rfl⟩⟩ := hcut
    cases kq with
    | zero => exact absurd HA.out (by simp [stockyardref22_Power.j0])
    | succ kj1 =>
      have H := HA.out
      clear HA
      simp only [stockyardref22_Power.j0] at H
      by_cases c4 : x10_1 = true
      · subst c4
        have H1 : (some 0) = some r := by rw [if_pos rfl] at H; exact H
        clear H
        have H := H1
        clear H1
        obtain rfl := Option.some.inj H
        go_wp2
        go_ret
        exact ⟨by first | rfl | (simp; done) | (simp [*]; done), by repeat (first | exact Drawn0.refl _ | apply Drawn0.step)⟩
      · replace c4 := Bool.eq_false_iff.mpr c4
        subst c4
        have H1 : (stockyardref22_Power.l0 kj1 a0 1 747382712868975713) = some r := by rw [if_neg (show ¬ (false = true) by decide)] at H; exact H
        clear H
        have H := H1
        clear H1
        have H' := Aside0.mk H
        clear H
        go_wp2
        go_loopg [0, 3, 4] kj1 (fun kq v0 v3 v4 w' => ∃ (x0_2 : Int) (x3_2 : Int) (x4_2 : Int), v0 = .int .i64 x0_2 ∧ v3 = .int .u64 x3_2 ∧ v4 = .int .u64 x4_2 ∧ Aside0 (stockyardref22_Power.l0 kq x0_2 x3_2 x4_2 = some r) ∧ Aside0 (kq ≤ kj1) ∧ Drawn0 w w')
        case atStart => exact ⟨(a0), (1), (747382712868975713), (by first | rfl | (simp; done) | (simp [*]; done)), (by first | rfl | (simp; done) | (simp [*]; done)), (by first | rfl | (simp; done) | (simp [*]; done)), H', ⟨Nat.le_refl _⟩, by repeat (first | exact Drawn0.refl _ | apply Drawn0.step)⟩
        case round =>
          clear H'
          try clear c1
          try clear c2
          try clear p2
          try clear c3
          try clear c3b0
          try clear c4
          try clear p2
          obtain ⟨x0_2, x3_2, x4_2, rfl, rfl, rfl, HA, HK2, ⟨m2, rfl⟩⟩ := hrel
          cases gk with
          | zero => exact absurd HA.out (by simp [stockyardref22_Power.l0])
          | succ k2 =>
            have H := HA.out
            clear HA
            simp only [stockyardref22_Power.l0] at H
            by_cases c5 : x0_2 > 0
            · rw [if_pos c5] at H
              have c5b0 : decide (0 < x0_2) = true := decide_eq_true c5
              clear c5
              by_cases c6 : (Go.bits .and .i64 x0_2 1) = 1
              · rw [if_pos c6] at H
                have c6b0 : ((Go.bits .and .i64 x0_2 1) == 1) = true := beq_iff_eq.mpr c6
                have c6b1 : ((Go.bits .and .i64 x0_2 1) != 1) = false := bne_eq_false_iff_eq.mpr c6
                clear c6
                replace H := Option.bind_eq_some_iff.mp H
                obtain ⟨t158, A70, H⟩ := H
                replace H : ((stockyardref22_Mul.f x4_2 x4_2).bind fun t159 => (stockyardref22_Power.l0 k2 (x0_2 / 2) t158 t159)) = some r := H
                have A7 := Aside0.mk A70
                clear A70
                replace H := Option.bind_eq_some_iff.mp H
                obtain ⟨t159, A80, H⟩ := H
                replace H : (stockyardref22_Power.l0 k2 (x0_2 / 2) t158 t159) = some r := H
                have A8 := Aside0.mk A80
                clear A80
                have H' := Aside0.mk H
                clear H
                go_wp2_with (first | ((with_reducible refine gate_callee (f := 38) rfl ?_); refine goesL_ (some 20) rfl rfl Try.func38 (by kernel_rfl) rfl #[.int .u64 x3_2, .int .u64 x4_2] rfl (by (try simp only [List.map_toArray, List.map_cons, List.map_nil]); first | done | rfl | (simp only [List.length_drop, List.length_take]; rfl)) ?_; (with_reducible refine (stockyardref22_Mul.calls x3_2 x4_2 t158 _ A7.out).mono ?_); rintro e w' ⟨rfl, ⟨nd, rfl⟩⟩; refine ⟨_, rfl, ?_⟩) | ((with_reducible refine gate_callee (f := 38) rfl ?_); refine goesL_ (some 23) rfl rfl Try.func38 (by kernel_rfl) rfl #[.int .u64 x4_2, .int .u64 x4_2] rfl (by (try simp only [List.map_toArray, List.map_cons, List.map_nil]); first | done | rfl | (simp only [List.length_drop, List.length_take]; rfl)) ?_; (with_reducible refine (stockyardref22_Mul.calls x4_2 x4_2 t159 _ A8.out).mono ?_); rintro e w' ⟨rfl, ⟨nd, rfl⟩⟩; refine ⟨_, rfl, ?_⟩))
                go_roundg k2
                case measure => have := HJ1.out; have := HK2.out; omega
                case rel => exact ⟨(x0_2 / 2), (t158), (t159), (by first | rfl | (simp; done) | (simp [*]; done)), (by first | rfl | (simp; done) | (simp [*]; done)), (by first | rfl | (simp; done) | (simp [*]; done)), H', ⟨by have := HJ1.out; have := HK2.out; omega⟩, by repeat (first | exact Drawn0.refl _ | apply Drawn0.step)⟩
              · rw [if_neg c6] at H
                have c6b0 : ((Go.bits .and .i64 x0_2 1) == 1) = false := beq_eq_false_iff_ne.mpr c6
                have c6b1 : ((Go.bits .and .i64 x0_2 1) != 1) = true := bne_iff_ne.mpr c6
                replace H := Option.bind_eq_some_iff.mp H
                obtain ⟨t160, A90, H⟩ := H
                replace H : (stockyardref22_Power.l0 k2 (x0_2 / 2) x3_2 t160) = some r := H
                have A9 := Aside0.mk A90
                clear A90
                have H' := Aside0.mk H
                clear H
                go_wp2_with (first | ((with_reducible refine gate_callee (f := 38) rfl ?_); refine goesL_ (some 23) rfl rfl Try.func38 (by kernel_rfl) rfl #[.int .u64 x4_2, .int .u64 x4_2] rfl (by (try simp only [List.map_toArray, List.map_cons, List.map_nil]); first | done | rfl | (simp only [List.length_drop, List.length_take]; rfl)) ?_; (with_reducible refine (stockyardref22_Mul.calls x4_2 x4_2 t160 _ A9.out).mono ?_); rintro e w' ⟨rfl, ⟨nd, rfl⟩⟩; refine ⟨_, rfl, ?_⟩))
                go_roundg k2
                case measure => have := HJ1.out; have := HK2.out; omega
                case rel => exact ⟨(x0_2 / 2), (x3_2), (t160), (by first | rfl | (simp; done) | (simp [*]; done)), (by first | rfl | (simp; done) | (simp [*]; done)), (by first | rfl | (simp; done) | (simp [*]; done)), H', ⟨by have := HJ1.out; have := HK2.out; omega⟩, by repeat (first | exact Drawn0.refl _ | apply Drawn0.step)⟩
            · rw [if_neg c5] at H
              have c5b0 : decide (0 < x0_2) = false := decide_eq_false c5
              clear c5
              obtain rfl := Option.some.inj H
              go_wp2
              go_ret
              exact ⟨by first | rfl | (simp; done) | (simp [*]; done), by repeat (first | exact Drawn0.refl _ | apply Drawn0.step)⟩

end Go.Proofs.Ytbjadpeolkpmcaa.P
