-- Printed by a program (pr.py over the kit's print) out of the translation.
import Derived.Test.YtbjadpeolkpmcaaPx0
import Derived.Test.YtbjadpeolkpmcaaPxf15
import Derived.Test.YtbjadpeolkpmcaaPxf21
namespace Go.Proofs.Ytbjadpeolkpmcaa.P
open Go.RowKit Go.Proofs.YtbjadpeolkpmcaaW.PrintWords Go.Proofs.YtbjadpeolkpmcaaW.PrintLast Go.Proofs.YtbjadpeolkpmcaaW.PrintMore
attribute [local go_sem] max2_int min2_int max_two min_two max_three min_three max_four min_four   -- for this text's walks alone
set_option linter.unusedVariables false
set_option linter.unusedSimpArgs false

/-! ### fingerprint_Power: function 24 -/
mutual
def fingerprint_Power.j0 : Nat → Int → Bool → Option (Int)
  | 0, _, _ => none
  | k + 1, x0, x11 => if x11 = true then (some 0) else ((bits_Len.f (IntKind.u64.wrap (x0))).bind fun t144 => (fingerprint_Power.l0 k x0 1 747382712868975713 t144 0))
def fingerprint_Power.l0 : Nat → Int → Int → Int → Int → Int → Option (Int)
  | 0, _, _, _, _, _ => none
  | k + 1, x0, x3, x4, x14, x15 => if x15 < x14 then (if 0 ≤ x15 then (if (Go.bits .and .i64 (shr .i64 x0 x15) 1) = 1 then ((fingerprint_mul.f x3 x4).bind fun t145 => ((fingerprint_mul.f x4 x4).bind fun t146 => (fingerprint_Power.l0 k x0 t145 t146 x14 (wrap64 (x15 + 1))))) else ((fingerprint_mul.f x4 x4).bind fun t147 => (fingerprint_Power.l0 k x0 x3 t147 x14 (wrap64 (x15 + 1))))) else (none)) else (some x3)
end
def fingerprint_Power.f (k : Nat) (a0 : Int) : Option (Int) := if a0 < 0 then (fingerprint_Power.j0 k a0 true) else (fingerprint_Power.j0 k a0 (decide (a0 > 1048576)))
theorem fingerprint_Power.mono_l : ∀ k, (∀ y0 y1, LeO (fingerprint_Power.j0 k y0 y1) (fingerprint_Power.j0 (k + 1) y0 y1)) ∧ (∀ y0 y1 y2 y3 y4, LeO (fingerprint_Power.l0 k y0 y1 y2 y3 y4) (fingerprint_Power.l0 (k + 1) y0 y1 y2 y3 y4))
  | 0 => ⟨fun _ _ r h => by simp [fingerprint_Power.j0] at h, fun _ _ _ _ _ r h => by simp [fingerprint_Power.l0] at h⟩
  | k + 1 => by
    obtain ⟨ih0, ih1⟩ := fingerprint_Power.mono_l k
    refine ⟨?_, ?_⟩
    · intro y0 y1
      unfold fingerprint_Power.j0
      repeat' first
      | (with_reducible exact ih0 _ _)
      | (with_reducible exact ih1 _ _ _ _ _)
      | (with_reducible exact LeO.refl _)
      | (with_reducible exact LeO.none _)
      | (with_reducible refine LeO.ite ?_ ?_)
      | (with_reducible refine LeO.bind ?_ (fun _ => ?_))
      | exact ih0 _ _
      | exact ih1 _ _ _ _ _
      | exact LeO.none _
      | refine LeO.ite ?_ ?_
      | refine LeO.bind ?_ (fun _ => ?_)
    · intro y0 y1 y2 y3 y4
      unfold fingerprint_Power.l0
      repeat' first
      | (with_reducible exact ih0 _ _)
      | (with_reducible exact ih1 _ _ _ _ _)
      | (with_reducible exact LeO.refl _)
      | (with_reducible exact LeO.none _)
      | (with_reducible refine LeO.ite ?_ ?_)
      | (with_reducible refine LeO.bind ?_ (fun _ => ?_))
      | exact ih0 _ _
      | exact ih1 _ _ _ _ _
      | exact LeO.none _
      | refine LeO.ite ?_ ?_
      | refine LeO.bind ?_ (fun _ => ?_)
theorem fingerprint_Power.mono : ∀ a0 k, LeO (fingerprint_Power.f k a0) (fingerprint_Power.f (k + 1) a0) := by
  intro a0 k
  obtain ⟨ih0, ih1⟩ := fingerprint_Power.mono_l k
  unfold fingerprint_Power.f
  repeat' first
      | (with_reducible exact ih0 _ _)
      | (with_reducible exact ih1 _ _ _ _ _)
      | (with_reducible exact LeO.refl _)
      | (with_reducible exact LeO.none _)
      | (with_reducible refine LeO.ite ?_ ?_)
      | (with_reducible refine LeO.bind ?_ (fun _ => ?_))
      | exact ih0 _ _
      | exact ih1 _ _ _ _ _
      | exact LeO.none _
      | refine LeO.ite ?_ ?_
      | refine LeO.bind ?_ (fun _ => ?_)
set_option maxHeartbeats 8000000 in
set_option maxRecDepth 100000 in
theorem fingerprint_Power.calls (k : Nat) (a0 : Int) (r : Int) (w : World) (h : fingerprint_Power.f k a0 = some r) :
    Calls Try.prog 24 #[.int .i64 a0] w fun e w' => e = .returned (.int .u64 r) ∧ Drawn0 w w' := by
  have H : (if a0 < 0 then (fingerprint_Power.j0 k a0 true) else (fingerprint_Power.j0 k a0 (decide (a0 > 1048576)))) = some r := h
  clear h
  have HC2 := Aside0.mk H
  clear H
  go_enter Try.func24, Try.ntmps24
  go_upto_region 1 with (fail)
  go_cut [11] (fun v11 wc => ∃ (kq : Nat) (x11_1 : Bool), v11 = .bool x11_1 ∧ Aside0 (fingerprint_Power.j0 kq a0 x11_1 = some r) ∧ Aside0 (kq ≤ k) ∧ Drawn0 w wc)
  case first =>
    have H := HC2.out
    clear HC2
    by_cases c3 : a0 < 0
    · rw [if_pos c3] at H
      have c3b0 : decide (a0 < 0) = true := decide_eq_true c3
      clear c3
      (first | rw [c3b0] | (simp only [i64_w, i32_w]; rw [c3b0]) | skip)
      have H' := Aside0.mk H
      clear H
      go_wp2
      go_meet
      case rel => exact ⟨_, (true), (by first | rfl | (simp; done) | (simp [*]; done)), H', ⟨by first | omega | exact Nat.le_refl _⟩, by repeat (first | exact Drawn0.refl _ | apply Drawn0.step)⟩
    · rw [if_neg c3] at H
      have c3b0 : decide (a0 < 0) = false := decide_eq_false c3
      clear c3
      (first | rw [c3b0] | (simp only [i64_w, i32_w]; rw [c3b0]) | skip)
      have H' := Aside0.mk H
      clear H
      go_wp2
      go_meet
      case rel => exact ⟨_, (decide (a0 > 1048576)), (by first | rfl | (simp; done) | (simp [*]; done)), H', ⟨by first | omega | exact Nat.le_refl _⟩, by repeat (first | exact Drawn0.refl _ | apply Drawn0.step)⟩
  case rest =>
    clear HC2
    try clear c2
    try clear p2
    try clear c3
    try clear c3b0
    obtain ⟨kq, x11_1, rfl, HA, HJ1, ⟨mc1, rfl⟩⟩ := hcut
    cases kq with
    | zero => exact absurd HA.out (by simp [fingerprint_Power.j0])
    | succ kj1 =>
      have H := HA.out
      clear HA
      simp only [fingerprint_Power.j0] at H
      by_cases c4 : x11_1 = true
      · subst c4
        have H1 : (some 0) = some r := by rw [if_pos rfl] at H; exact H
        clear H
        have H := H1
        clear H1
        obtain rfl := Option.some.inj H
        go_wp2
        go_ret
        exact ⟨by first | rfl | (simp; done) | (simp [*]; done), by repeat (first | exact Drawn0.refl _ | apply Drawn0.step)⟩
      · replace c4 := Bool.eq_false_iff.mpr c4
        subst c4
        have H1 : ((bits_Len.f (IntKind.u64.wrap (a0))).bind fun t144 => (fingerprint_Power.l0 kj1 a0 1 747382712868975713 t144 0)) = some r := by rw [if_neg (show ¬ (false = true) by decide)] at H; exact H
        clear H
        have H := H1
        clear H1
        replace H := Option.bind_eq_some_iff.mp H
        obtain ⟨t144, A50, H⟩ := H
        replace H : (fingerprint_Power.l0 kj1 a0 1 747382712868975713 t144 0) = some r := H
        have A5 := Aside0.mk A50
        clear A50
        have H' := Aside0.mk H
        clear H
        go_wp2_with (first | ((with_reducible refine gate_callee (f := 39) rfl ?_); refine goesL_ (some 14) rfl rfl Try.func39 (by kernel_rfl) rfl #[.int .u64 (IntKind.u64.wrap (a0))] rfl (by (try simp only [List.map_toArray, List.map_cons, List.map_nil]); first | done | rfl | (simp only [List.length_drop, List.length_take]; rfl)) ?_; (with_reducible refine (bits_Len.calls (IntKind.u64.wrap (a0)) t144 _ A5.out).mono ?_); rintro e w' ⟨rfl, ⟨nd, rfl⟩⟩; refine ⟨_, rfl, ?_⟩))
        go_loopg [3, 4, 15] kj1 (fun kq v3 v4 v15 w' => ∃ (x3_2 : Int) (x4_2 : Int) (x15_2 : Int), v3 = .int .u64 x3_2 ∧ v4 = .int .u64 x4_2 ∧ v15 = .int .i64 x15_2 ∧ Aside0 (fingerprint_Power.l0 kq a0 x3_2 x4_2 t144 x15_2 = some r) ∧ Aside0 (kq ≤ kj1) ∧ Drawn0 w w')
        case atStart => exact ⟨(1), (747382712868975713), (0), (by first | rfl | (simp; done) | (simp [*]; done)), (by first | rfl | (simp; done) | (simp [*]; done)), (by first | rfl | (simp; done) | (simp [*]; done)), H', ⟨Nat.le_refl _⟩, by repeat (first | exact Drawn0.refl _ | apply Drawn0.step)⟩
        case round =>
          clear H'
          try clear c1
          try clear c2
          try clear p2
          try clear c3
          try clear c3b0
          try clear c4
          try clear p2
          obtain ⟨x3_2, x4_2, x15_2, rfl, rfl, rfl, HA, HK2, ⟨m2, rfl⟩⟩ := hrel
          cases gk with
          | zero => exact absurd HA.out (by simp [fingerprint_Power.l0])
          | succ k2 =>
            have H := HA.out
            clear HA
            simp only [fingerprint_Power.l0] at H
            by_cases c6 : x15_2 < t144
            · rw [if_pos c6] at H
              have c6b0 : decide (x15_2 < t144) = true := decide_eq_true c6
              clear c6
              by_cases c7 : 0 ≤ x15_2
              · rw [if_pos c7] at H
                have c7b0 := eq_true c7
                have c7b1 : decide (0 ≤ x15_2) = true := decide_eq_true c7
                clear c7
                obtain ⟨ji8, hji8⟩ : ∃ j_ : Int, (shr .i64 a0 x15_2) = j_ := ⟨_, rfl⟩
                replace H : (if (Go.bits .and .i64 (ji8) 1) = 1 then ((fingerprint_mul.f x3_2 x4_2).bind fun t145 => ((fingerprint_mul.f x4_2 x4_2).bind fun t146 => (fingerprint_Power.l0 k2 a0 t145 t146 t144 (wrap64 (x15_2 + 1))))) else ((fingerprint_mul.f x4_2 x4_2).bind fun t147 => (fingerprint_Power.l0 k2 a0 x3_2 t147 t144 (wrap64 (x15_2 + 1))))) = some r := by first | (rw [hji8] at H; exact H) | (simp only [hji8] at H ⊢; exact H)
                have hji8_ : (a0 / 2 ^ min x15_2.toNat 64) = ji8 := hji8
                have hji8z : x15_2 ≤ 64 → (a0 / 2 ^ x15_2.toNat) = ji8 := shr_small hji8
                by_cases c9 : (Go.bits .and .i64 (ji8) 1) = 1
                · rw [if_pos c9] at H
                  have c9b0 : ((Go.bits .and .i64 (ji8) 1) == 1) = true := beq_iff_eq.mpr c9
                  have c9b1 : ((Go.bits .and .i64 (ji8) 1) != 1) = false := bne_eq_false_iff_eq.mpr c9
                  clear c9
                  replace H := Option.bind_eq_some_iff.mp H
                  obtain ⟨t145, A100, H⟩ := H
                  replace H : ((fingerprint_mul.f x4_2 x4_2).bind fun t146 => (fingerprint_Power.l0 k2 a0 t145 t146 t144 (wrap64 (x15_2 + 1)))) = some r := H
                  have A10 := Aside0.mk A100
                  clear A100
                  replace H := Option.bind_eq_some_iff.mp H
                  obtain ⟨t146, A110, H⟩ := H
                  replace H : (fingerprint_Power.l0 k2 a0 t145 t146 t144 (wrap64 (x15_2 + 1))) = some r := H
                  have A11 := Aside0.mk A110
                  clear A110
                  have H' := Aside0.mk H
                  clear H
                  go_wp2_with (first | ((with_reducible refine gate_callee (f := 36) rfl ?_); refine goesL_ (some 25) rfl rfl Try.func36 (by kernel_rfl) rfl #[.int .u64 x3_2, .int .u64 x4_2] rfl (by (try simp only [List.map_toArray, List.map_cons, List.map_nil]); first | done | rfl | (simp only [List.length_drop, List.length_take]; rfl)) ?_; (with_reducible refine (fingerprint_mul.calls x3_2 x4_2 t145 _ A10.out).mono ?_); rintro e w' ⟨rfl, ⟨nd, rfl⟩⟩; refine ⟨_, rfl, ?_⟩) | ((with_reducible refine gate_callee (f := 36) rfl ?_); refine goesL_ (some 28) rfl rfl Try.func36 (by kernel_rfl) rfl #[.int .u64 x4_2, .int .u64 x4_2] rfl (by (try simp only [List.map_toArray, List.map_cons, List.map_nil]); first | done | rfl | (simp only [List.length_drop, List.length_take]; rfl)) ?_; (with_reducible refine (fingerprint_mul.calls x4_2 x4_2 t146 _ A11.out).mono ?_); rintro e w' ⟨rfl, ⟨nd, rfl⟩⟩; refine ⟨_, rfl, ?_⟩))
                  go_roundg k2
                  case measure => have := HJ1.out; have := HK2.out; omega
                  case rel => exact ⟨(t145), (t146), (wrap64 (x15_2 + 1)), (by first | rfl | (simp; done) | (simp [*]; done)), (by first | rfl | (simp; done) | (simp [*]; done)), (by first | rfl | (simp; done) | (simp [*]; done)), H', ⟨by have := HJ1.out; have := HK2.out; omega⟩, by repeat (first | exact Drawn0.refl _ | apply Drawn0.step)⟩
                · rw [if_neg c9] at H
                  have c9b0 : ((Go.bits .and .i64 (ji8) 1) == 1) = false := beq_eq_false_iff_ne.mpr c9
                  have c9b1 : ((Go.bits .and .i64 (ji8) 1) != 1) = true := bne_iff_ne.mpr c9
                  replace H := Option.bind_eq_some_iff.mp H
                  obtain ⟨t147, A120, H⟩ := H
                  replace H : (fingerprint_Power.l0 k2 a0 x3_2 t147 t144 (wrap64 (x15_2 + 1))) = some r := H
                  have A12 := Aside0.mk A120
                  clear A120
                  have H' := Aside0.mk H
                  clear H
                  go_wp2_with (first | ((with_reducible refine gate_callee (f := 36) rfl ?_); refine goesL_ (some 28) rfl rfl Try.func36 (by kernel_rfl) rfl #[.int .u64 x4_2, .int .u64 x4_2] rfl (by (try simp only [List.map_toArray, List.map_cons, List.map_nil]); first | done | rfl | (simp only [List.length_drop, List.length_take]; rfl)) ?_; (with_reducible refine (fingerprint_mul.calls x4_2 x4_2 t147 _ A12.out).mono ?_); rintro e w' ⟨rfl, ⟨nd, rfl⟩⟩; refine ⟨_, rfl, ?_⟩))
                  go_roundg k2
                  case measure => have := HJ1.out; have := HK2.out; omega
                  case rel => exact ⟨(x3_2), (t147), (wrap64 (x15_2 + 1)), (by first | rfl | (simp; done) | (simp [*]; done)), (by first | rfl | (simp; done) | (simp [*]; done)), (by first | rfl | (simp; done) | (simp [*]; done)), H', ⟨by have := HJ1.out; have := HK2.out; omega⟩, by repeat (first | exact Drawn0.refl _ | apply Drawn0.step)⟩
              · rw [if_neg c7] at H
                exact absurd H (by simp)
            · rw [if_neg c6] at H
              have c6b0 : decide (x15_2 < t144) = false := decide_eq_false c6
              clear c6
              obtain rfl := Option.some.inj H
              go_wp2
              go_ret
              exact ⟨by first | rfl | (simp; done) | (simp [*]; done), by repeat (first | exact Drawn0.refl _ | apply Drawn0.step)⟩

/-! ### stockyardref22_Power: function 25 -/
mutual
def stockyardref22_Power.j0 : Nat → Int → Bool → Option (Int)
  | 0, _, _ => none
  | k + 1, x0, x10 => if x10 = true then (some 0) else (stockyardref22_Power.l0 k x0 1 747382712868975713)
def stockyardref22_Power.l0 : Nat → Int → Int → Int → Option (Int)
  | 0, _, _, _ => none
  | k + 1, x0, x3, x4 => if x0 > 0 then (if (Go.bits .and .i64 x0 1) = 1 then ((stockyardref22_Mul.f x3 x4).bind fun t148 => ((stockyardref22_Mul.f x4 x4).bind fun t149 => (stockyardref22_Power.l0 k (x0 / 2) t148 t149))) else ((stockyardref22_Mul.f x4 x4).bind fun t150 => (stockyardref22_Power.l0 k (x0 / 2) x3 t150))) else (some x3)
end
def stockyardref22_Power.f (k : Nat) (a0 : Int) : Option (Int) := if a0 < 0 then (stockyardref22_Power.j0 k a0 true) else (stockyardref22_Power.j0 k a0 (decide (a0 > 1048576)))
theorem stockyardref22_Power.mono_l : ∀ k, (∀ y0 y1, LeO (stockyardref22_Power.j0 k y0 y1) (stockyardref22_Power.j0 (k + 1) y0 y1)) ∧ (∀ y0 y1 y2, LeO (stockyardref22_Power.l0 k y0 y1 y2) (stockyardref22_Power.l0 (k + 1) y0 y1 y2))
  | 0 => ⟨fun _ _ r h => by simp [stockyardref22_Power.j0] at h, fun _ _ _ r h => by simp [stockyardref22_Power.l0] at h⟩
  | k + 1 => by
    obtain ⟨ih0, ih1⟩ := stockyardref22_Power.mono_l k
    refine ⟨?_, ?_⟩
    · intro y0 y1
      unfold stockyardref22_Power.j0
      repeat' first
      | (with_reducible exact ih0 _ _)
      | (with_reducible exact ih1 _ _ _)
      | (with_reducible exact LeO.refl _)
      | (with_reducible exact LeO.none _)
      | (with_reducible refine LeO.ite ?_ ?_)
      | (with_reducible refine LeO.bind ?_ (fun _ => ?_))
      | exact ih0 _ _
      | exact ih1 _ _ _
      | exact LeO.none _
      | refine LeO.ite ?_ ?_
      | refine LeO.bind ?_ (fun _ => ?_)
    · intro y0 y1 y2
      unfold stockyardref22_Power.l0
      repeat' first
      | (with_reducible exact ih0 _ _)
      | (with_reducible exact ih1 _ _ _)
      | (with_reducible exact LeO.refl _)
      | (with_reducible exact LeO.none _)
      | (with_reducible refine LeO.ite ?_ ?_)
      | (with_reducible refine LeO.bind ?_ (fun _ => ?_))
      | exact ih0 _ _
      | exact ih1 _ _ _
      | exact LeO.none _
      | refine LeO.ite ?_ ?_
      | refine LeO.bind ?_ (fun _ => ?_)
theorem stockyardref22_Power.mono : ∀ a0 k, LeO (stockyardref22_Power.f k a0) (stockyardref22_Power.f (k + 1) a0) := by
  intro a0 k
  obtain ⟨ih0, ih1⟩ := stockyardref22_Power.mono_l k
  unfold stockyardref22_Power.f
  repeat' first
      | (with_reducible exact ih0 _ _)
      | (with_reducible exact ih1 _ _ _)
      | (with_reducible exact LeO.refl _)
      | (with_reducible exact LeO.none _)
      | (with_reducible refine LeO.ite ?_ ?_)
      | (with_reducible refine LeO.bind ?_ (fun _ => ?_))
      | exact ih0 _ _
      | exact ih1 _ _ _
      | exact LeO.none _
      | refine LeO.ite ?_ ?_
      | refine LeO.bind ?_ (fun _ => ?_)
set_option maxHeartbeats 8000000 in
set_option maxRecDepth 100000 in
theorem stockyardref22_Power.calls (k : Nat) (a0 : Int) (r : Int) (w : World) (h : stockyardref22_Power.f k a0 = some r) :
    Calls Try.prog 25 #[.int .i64 a0] w fun e w' => e = .returned (.int .u64 r) ∧ Drawn0 w w' := by
  have H : (if a0 < 0 then (stockyardref22_Power.j0 k a0 true) else (stockyardref22_Power.j0 k a0 (decide (a0 > 1048576)))) = some r := h
  clear h
  have HC2 := Aside0.mk H
  clear H
  go_enter Try.func25, Try.ntmps25
  go_upto_region 1 with (fail)
  go_cut [10] (fun v10 wc => ∃ (kq : Nat) (x10_1 : Bool), v10 = .bool x10_1 ∧ Aside0 (stockyardref22_Power.j0 kq a0 x10_1 = some r) ∧ Aside0 (kq ≤ k) ∧ Drawn0 w wc)
  case first =>
    have H := HC2.out
    clear HC2
    by_cases c3 : a0 < 0
    · rw [if_pos c3] at H
      have c3b0 : decide (a0 < 0) = true := decide_eq_true c3
      clear c3
      (first | rw [c3b0] | (simp only [i64_w, i32_w]; rw [c3b0]) | skip)
      have H' := Aside0.mk H
      clear H
      go_wp2
      go_meet
      case rel => exact ⟨_, (true), (by first | rfl | (simp; done) | (simp [*]; done)), H', ⟨by first | omega | exact Nat.le_refl _⟩, by repeat (first | exact Drawn0.refl _ | apply Drawn0.step)⟩
    · rw [if_neg c3] at H
      have c3b0 : decide (a0 < 0) = false := decide_eq_false c3
      clear c3
      (first | rw [c3b0] | (simp only [i64_w, i32_w]; rw [c3b0]) | skip)
      have H' := Aside0.mk H
      clear H
      go_wp2
      go_meet
      case rel => exact ⟨_, (decide (a0 > 1048576)), (by first | rfl | (simp; done) | (simp [*]; done)), H', ⟨by first | omega | exact Nat.le_refl _⟩, by repeat (first | exact Drawn0.refl _ | apply Drawn0.step)⟩
  case rest =>
    clear HC2
    try clear c2
    try clear p2
    try clear c3
    try clear c3b0
    obtain ⟨kq, x10_1, rfl, HA, HJ1, ⟨mc1, rfl⟩⟩ := hcut
    cases kq with
    | zero => exact absurd HA.out (by simp [stockyardref22_Power.j0])
    | succ kj1 =>
      have H := HA.out
      clear HA
      simp only [stockyardref22_Power.j0] at H
      by_cases c4 : x10_1 = true
      · subst c4
        have H1 : (some 0) = some r := by rw [if_pos rfl] at H; exact H
        clear H
        have H := H1
        clear H1
        obtain rfl := Option.some.inj H
        go_wp2
        go_ret
        exact ⟨by first | rfl | (simp; done) | (simp [*]; done), by repeat (first | exact Drawn0.refl _ | apply Drawn0.step)⟩
      · replace c4 := Bool.eq_false_iff.mpr c4
        subst c4
        have H1 : (stockyardref22_Power.l0 kj1 a0 1 747382712868975713) = some r := by rw [if_neg (show ¬ (false = true) by decide)] at H; exact H
        clear H
        have H := H1
        clear H1
        have H' := Aside0.mk H
        clear H
        go_wp2
        go_loopg [0, 3, 4] kj1 (fun kq v0 v3 v4 w' => ∃ (x0_2 : Int) (x3_2 : Int) (x4_2 : Int), v0 = .int .i64 x0_2 ∧ v3 = .int .u64 x3_2 ∧ v4 = .int .u64 x4_2 ∧ Aside0 (stockyardref22_Power.l0 kq x0_2 x3_2 x4_2 = some r) ∧ Aside0 (kq ≤ kj1) ∧ Drawn0 w w')
        case atStart => exact ⟨(a0), (1), (747382712868975713), (by first | rfl | (simp; done) | (simp [*]; done)), (by first | rfl | (simp; done) | (simp [*]; done)), (by first | rfl | (simp; done) | (simp [*]; done)), H', ⟨Nat.le_refl _⟩, by repeat (first | exact Drawn0.refl _ | apply Drawn0.step)⟩
        case round =>
          clear H'
          try clear c1
          try clear c2
          try clear p2
          try clear c3
          try clear c3b0
          try clear c4
          try clear p2
          obtain ⟨x0_2, x3_2, x4_2, rfl, rfl, rfl, HA, HK2, ⟨m2, rfl⟩⟩ := hrel
          cases gk with
          | zero => exact absurd HA.out (by simp [stockyardref22_Power.l0])
          | succ k2 =>
            have H := HA.out
            clear HA
            simp only [stockyardref22_Power.l0] at H
            by_cases c5 : x0_2 > 0
            · rw [if_pos c5] at H
              have c5b0 : decide (0 < x0_2) = true := decide_eq_true c5
              clear c5
              by_cases c6 : (Go.bits .and .i64 x0_2 1) = 1
              · rw [if_pos c6] at H
                have c6b0 : ((Go.bits .and .i64 x0_2 1) == 1) = true := beq_iff_eq.mpr c6
                have c6b1 : ((Go.bits .and .i64 x0_2 1) != 1) = false := bne_eq_false_iff_eq.mpr c6
                clear c6
                replace H := Option.bind_eq_some_iff.mp H
                obtain ⟨t148, A70, H⟩ := H
                replace H : ((stockyardref22_Mul.f x4_2 x4_2).bind fun t149 => (stockyardref22_Power.l0 k2 (x0_2 / 2) t148 t149)) = some r := H
                have A7 := Aside0.mk A70
                clear A70
                replace H := Option.bind_eq_some_iff.mp H
                obtain ⟨t149, A80, H⟩ := H
                replace H : (stockyardref22_Power.l0 k2 (x0_2 / 2) t148 t149) = some r := H
                have A8 := Aside0.mk A80
                clear A80
                have H' := Aside0.mk H
                clear H
                go_wp2_with (first | ((with_reducible refine gate_callee (f := 38) rfl ?_); refine goesL_ (some 20) rfl rfl Try.func38 (by kernel_rfl) rfl #[.int .u64 x3_2, .int .u64 x4_2] rfl (by (try simp only [List.map_toArray, List.map_cons, List.map_nil]); first | done | rfl | (simp only [List.length_drop, List.length_take]; rfl)) ?_; (with_reducible refine (stockyardref22_Mul.calls x3_2 x4_2 t148 _ A7.out).mono ?_); rintro e w' ⟨rfl, ⟨nd, rfl⟩⟩; refine ⟨_, rfl, ?_⟩) | ((with_reducible refine gate_callee (f := 38) rfl ?_); refine goesL_ (some 23) rfl rfl Try.func38 (by kernel_rfl) rfl #[.int .u64 x4_2, .int .u64 x4_2] rfl (by (try simp only [List.map_toArray, List.map_cons, List.map_nil]); first | done | rfl | (simp only [List.length_drop, List.length_take]; rfl)) ?_; (with_reducible refine (stockyardref22_Mul.calls x4_2 x4_2 t149 _ A8.out).mono ?_); rintro e w' ⟨rfl, ⟨nd, rfl⟩⟩; refine ⟨_, rfl, ?_⟩))
                go_roundg k2
                case measure => have := HJ1.out; have := HK2.out; omega
                case rel => exact ⟨(x0_2 / 2), (t148), (t149), (by first | rfl | (simp; done) | (simp [*]; done)), (by first | rfl | (simp; done) | (simp [*]; done)), (by first | rfl | (simp; done) | (simp [*]; done)), H', ⟨by have := HJ1.out; have := HK2.out; omega⟩, by repeat (first | exact Drawn0.refl _ | apply Drawn0.step)⟩
              · rw [if_neg c6] at H
                have c6b0 : ((Go.bits .and .i64 x0_2 1) == 1) = false := beq_eq_false_iff_ne.mpr c6
                have c6b1 : ((Go.bits .and .i64 x0_2 1) != 1) = true := bne_iff_ne.mpr c6
                replace H := Option.bind_eq_some_iff.mp H
                obtain ⟨t150, A90, H⟩ := H
                replace H : (stockyardref22_Power.l0 k2 (x0_2 / 2) x3_2 t150) = some r := H
                have A9 := Aside0.mk A90
                clear A90
                have H' := Aside0.mk H
                clear H
                go_wp2_with (first | ((with_reducible refine gate_callee (f := 38) rfl ?_); refine goesL_ (some 23) rfl rfl Try.func38 (by kernel_rfl) rfl #[.int .u64 x4_2, .int .u64 x4_2] rfl (by (try simp only [List.map_toArray, List.map_cons, List.map_nil]); first | done | rfl | (simp only [List.length_drop, List.length_take]; rfl)) ?_; (with_reducible refine (stockyardref22_Mul.calls x4_2 x4_2 t150 _ A9.out).mono ?_); rintro e w' ⟨rfl, ⟨nd, rfl⟩⟩; refine ⟨_, rfl, ?_⟩))
                go_roundg k2
                case measure => have := HJ1.out; have := HK2.out; omega
                case rel => exact ⟨(x0_2 / 2), (x3_2), (t150), (by first | rfl | (simp; done) | (simp [*]; done)), (by first | rfl | (simp; done) | (simp [*]; done)), (by first | rfl | (simp; done) | (simp [*]; done)), H', ⟨by have := HJ1.out; have := HK2.out; omega⟩, by repeat (first | exact Drawn0.refl _ | apply Drawn0.step)⟩
            · rw [if_neg c5] at H
              have c5b0 : decide (0 < x0_2) = false := decide_eq_false c5
              clear c5
              obtain rfl := Option.some.inj H
              go_wp2
              go_ret
              exact ⟨by first | rfl | (simp; done) | (simp [*]; done), by repeat (first | exact Drawn0.refl _ | apply Drawn0.step)⟩

/-! ### stockyardlaw22_FingerprintPowers: function 7 -/
def stockyardlaw22_FingerprintPowers.f (k : Nat) (a0 : Int) : Option (Bool) := (stockyardmake_Fold.f a0 1048577).bind fun t151 => ((fingerprint_Power.f k 0).bind fun t152 => (if t152 = 1 then ((fingerprint_Power.f k a0).bind fun t153 => ((stockyardref22_Power.f k a0).bind fun t154 => (if t153 = t154 then ((fingerprint_Power.f k t151).bind fun t155 => ((stockyardref22_Power.f k t151).bind fun t156 => (some (t155 == t156)))) else (some false)))) else (some false)))
theorem stockyardlaw22_FingerprintPowers.mono : ∀ a0 k, LeO (stockyardlaw22_FingerprintPowers.f k a0) (stockyardlaw22_FingerprintPowers.f (k + 1) a0) := by
  intro a0 k
  unfold stockyardlaw22_FingerprintPowers.f
  repeat' first
      | (with_reducible exact fingerprint_Power.mono _ _)
      | (with_reducible exact stockyardref22_Power.mono _ _)
      | (with_reducible exact LeO.refl _)
      | (with_reducible exact LeO.none _)
      | (with_reducible refine LeO.ite ?_ ?_)
      | (with_reducible refine LeO.bind ?_ (fun _ => ?_))
      | exact fingerprint_Power.mono _ _
      | exact stockyardref22_Power.mono _ _
      | exact LeO.none _
      | refine LeO.ite ?_ ?_
      | refine LeO.bind ?_ (fun _ => ?_)
set_option maxHeartbeats 8000000 in
set_option maxRecDepth 100000 in
theorem stockyardlaw22_FingerprintPowers.calls (k : Nat) (a0 : Int) (r : Bool) (w : World) (h : stockyardlaw22_FingerprintPowers.f k a0 = some r) (hrt : r = true) :
    Calls Try.prog 7 #[.int .i64 a0] w fun e w' => e = .returned (.bool r) ∧ Drawn0 w w' := by
  have HRT := Aside0.mk hrt
  clear hrt
  have H : ((stockyardmake_Fold.f a0 1048577).bind fun t151 => ((fingerprint_Power.f k 0).bind fun t152 => (if t152 = 1 then ((fingerprint_Power.f k a0).bind fun t153 => ((stockyardref22_Power.f k a0).bind fun t154 => (if t153 = t154 then ((fingerprint_Power.f k t151).bind fun t155 => ((stockyardref22_Power.f k t151).bind fun t156 => (some (t155 == t156)))) else (some false)))) else (some false)))) = some r := h
  clear h
  replace H := Option.bind_eq_some_iff.mp H
  obtain ⟨t151, A20, H⟩ := H
  replace H : ((fingerprint_Power.f k 0).bind fun t152 => (if t152 = 1 then ((fingerprint_Power.f k a0).bind fun t153 => ((stockyardref22_Power.f k a0).bind fun t154 => (if t153 = t154 then ((fingerprint_Power.f k t151).bind fun t155 => ((stockyardref22_Power.f k t151).bind fun t156 => (some (t155 == t156)))) else (some false)))) else (some false))) = some r := H
  have A2 := Aside0.mk A20
  clear A20
  replace H := Option.bind_eq_some_iff.mp H
  obtain ⟨t152, A30, H⟩ := H
  replace H : (if t152 = 1 then ((fingerprint_Power.f k a0).bind fun t153 => ((stockyardref22_Power.f k a0).bind fun t154 => (if t153 = t154 then ((fingerprint_Power.f k t151).bind fun t155 => ((stockyardref22_Power.f k t151).bind fun t156 => (some (t155 == t156)))) else (some false)))) else (some false)) = some r := H
  have A3 := Aside0.mk A30
  clear A30
  by_cases c4 : t152 = 1
  · rw [if_pos c4] at H
    have c4b0 : (t152 == 1) = true := beq_iff_eq.mpr c4
    have c4b1 : (t152 != 1) = false := bne_eq_false_iff_eq.mpr c4
    clear c4
    replace H := Option.bind_eq_some_iff.mp H
    obtain ⟨t153, A50, H⟩ := H
    replace H : ((stockyardref22_Power.f k a0).bind fun t154 => (if t153 = t154 then ((fingerprint_Power.f k t151).bind fun t155 => ((stockyardref22_Power.f k t151).bind fun t156 => (some (t155 == t156)))) else (some false))) = some r := H
    have A5 := Aside0.mk A50
    clear A50
    replace H := Option.bind_eq_some_iff.mp H
    obtain ⟨t154, A60, H⟩ := H
    replace H : (if t153 = t154 then ((fingerprint_Power.f k t151).bind fun t155 => ((stockyardref22_Power.f k t151).bind fun t156 => (some (t155 == t156)))) else (some false)) = some r := H
    have A6 := Aside0.mk A60
    clear A60
    by_cases c7 : t153 = t154
    · rw [if_pos c7] at H
      have c7b0 : (t153 == t154) = true := beq_iff_eq.mpr c7
      have c7b1 : (t153 != t154) = false := bne_eq_false_iff_eq.mpr c7
      clear c7
      replace H := Option.bind_eq_some_iff.mp H
      obtain ⟨t155, A80, H⟩ := H
      replace H : ((stockyardref22_Power.f k t151).bind fun t156 => (some (t155 == t156))) = some r := H
      have A8 := Aside0.mk A80
      clear A80
      replace H := Option.bind_eq_some_iff.mp H
      obtain ⟨t156, A90, H⟩ := H
      replace H : (some (t155 == t156)) = some r := H
      have A9 := Aside0.mk A90
      clear A90
      obtain rfl := Option.some.inj H
      go_enter Try.func7, Try.ntmps7
      go_wp2_with (first | ((with_reducible refine gate_callee (f := 19) rfl ?_); refine goesL_ (some 5) rfl rfl Try.func19 (by kernel_rfl) rfl #[.int .i64 a0, .int .i64 1048577] rfl (by (try simp only [List.map_toArray, List.map_cons, List.map_nil]); first | done | rfl | (simp only [List.length_drop, List.length_take]; rfl)) ?_; (with_reducible refine (stockyardmake_Fold.calls a0 1048577 t151 _ A2.out).mono ?_); rintro e w' ⟨rfl, ⟨nd, rfl⟩⟩; refine ⟨_, rfl, ?_⟩) | ((with_reducible refine gate_callee (f := 24) rfl ?_); refine goesL_ (some 6) rfl rfl Try.func24 (by kernel_rfl) rfl #[.int .i64 0] rfl (by (try simp only [List.map_toArray, List.map_cons, List.map_nil]); first | done | rfl | (simp only [List.length_drop, List.length_take]; rfl)) ?_; (with_reducible refine (fingerprint_Power.calls k 0 t152 _ A3.out).mono ?_); rintro e w' ⟨rfl, ⟨nd, rfl⟩⟩; refine ⟨_, rfl, ?_⟩) | (go_at_call 24; (with_reducible refine (fingerprint_Power.calls k a0 t153 _ A5.out).mono ?_); rintro e w' ⟨rfl, ⟨nd, rfl⟩⟩) | (go_at_call 25; (with_reducible refine (stockyardref22_Power.calls k a0 t154 _ A6.out).mono ?_); rintro e w' ⟨rfl, ⟨nd, rfl⟩⟩) | (go_at_call 24; (with_reducible refine (fingerprint_Power.calls k t151 t155 _ A8.out).mono ?_); rintro e w' ⟨rfl, ⟨nd, rfl⟩⟩) | (go_at_call 25; (with_reducible refine (stockyardref22_Power.calls k t151 t156 _ A9.out).mono ?_); rintro e w' ⟨rfl, ⟨nd, rfl⟩⟩))
      go_ret
      exact ⟨by first | rfl | (simp; done) | (simp [*]; done), by repeat (first | exact Drawn0.refl _ | apply Drawn0.step)⟩
    · rw [if_neg c7] at H
      have c7b0 : (t153 == t154) = false := beq_eq_false_iff_ne.mpr c7
      have c7b1 : (t153 != t154) = true := bne_iff_ne.mpr c7
      exact absurd ((Option.some.inj H).trans HRT.out) (by decide)
  · rw [if_neg c4] at H
    have c4b0 : (t152 == 1) = false := beq_eq_false_iff_ne.mpr c4
    have c4b1 : (t152 != 1) = true := bne_iff_ne.mpr c4
    exact absurd ((Option.some.inj H).trans HRT.out) (by decide)

/-- THE ONE PURE STATEMENT of stockyardlaw22_FingerprintPowers: yours. -/
def stockyardlaw22_FingerprintPowers.Pure : Prop := ∀ (a0 : Int), (Lit.int .i64 a0).wf = true → ∃ k, stockyardlaw22_FingerprintPowers.f k a0 = some true
theorem stockyardlaw22_FingerprintPowers.walk (P : stockyardlaw22_FingerprintPowers.Pure) (a0 : Int) (w : World) (w0 : (Lit.int .i64 a0).wf = true) :
    Calls Try.prog 7 #[.int .i64 a0] w fun e w' => e = .returned (.bool true) ∧ Below w.heap.size w w' := by
  obtain ⟨k, h⟩ := P a0 w0
  refine (stockyardlaw22_FingerprintPowers.calls k a0 true w h rfl).mono ?_
  rintro e w' ⟨rfl, hd⟩
  exact ⟨rfl, hd.below⟩

end Go.Proofs.Ytbjadpeolkpmcaa.P
