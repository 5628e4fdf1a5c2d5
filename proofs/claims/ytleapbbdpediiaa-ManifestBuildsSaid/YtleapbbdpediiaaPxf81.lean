-- What this claim does not use is left out (shake.py).
import Derived.Test.YtleapbbdpediiaaPx0
import Derived.Test.YtleapbbdpediiaaPxf45
import Derived.Lib.BitFns
import Derived.Lib.Slices
import Derived.Lib.Small
import Derived.Lib.Strings
import Derived.Lib.Walk
-- Printed by a program (pr.py over the kit's print) out of the translation.
namespace Go.Proofs.Ytleapbbdpediiaa.P
open Go.RowKit Go.Proofs.YtleapbbdpediiaaW.PrintWords Go.Proofs.YtleapbbdpediiaaW.PrintLast Go.Proofs.YtleapbbdpediiaaW.PrintMore
attribute [local go_sem] max2_int min2_int max_two min_two max_three min_three max_four min_four   -- for this text's walks alone
set_option linter.unusedVariables false
set_option linter.unusedSimpArgs false

/-! ### bits_Len: function 81 -/
set_option maxRecDepth 100000 in
theorem len8tab_size : (Lib.len8tab.size : Int) = 256 := by
  have : Lib.len8tab.size = 256 := by decide
  omega
theorem len_wrap_add (k a b : Nat) (hk : k ≤ 56) (ha : a ≤ 8) (hb : b = k + a) : wrap64 ((k : Int) + wrap64 (a : Int)) = (b : Int) := by
  unfold wrap64
  omega
theorem len_wrap_wrap (a : Nat) (ha : a ≤ 8) : wrap64 (wrap64 (a : Int)) = (a : Int) := by
  unfold wrap64
  omega
theorem len8_get (y : Int) (h : y.toNat < Lib.len8tab.size) : ((Lib.len8tab[y.toNat]'h).toNat : Int) = Lib.len8 y := by
  unfold Lib.len8
  rw [getElem?_pos Lib.len8tab y.toNat h]
  rfl
set_option maxHeartbeats 4000000 in
set_option maxRecDepth 100000 in
theorem bits_Len64_any (x : Int) (w : World) (h0 : 0 ≤ x) (h1 : x ≤ 1048576) :
    Calls Try.prog 91 #[.int .u64 x] w fun e w' => e = .returned (.int .i64 (Lib.bitLen x.toNat)) ∧ w = w' := by
  have hs := len8tab_size
  go_enter Try.func91, Try.ntmps91
  go_wp2
  all_goals (go_ret; refine ⟨congrArg Ending.returned (congrArg (Value.int IntKind.i64) ?_), rfl⟩)
  all_goals first
    | (rw [len8_get (x / 65536) _, Lib.len8_of (x / 65536) (by omega) (by omega)]
       have e : (x / 65536).toNat = x.toNat / 65536 := by omega
       have l := Lib.bitLen_le8' (x / 65536) (by omega) (by omega)
       have s := Lib.bitLen_shift16 x.toNat (by omega) (by omega)
       rw [e] at l ⊢
       exact len_wrap_add 16 _ _ (by decide) l s)
    | (rw [len8_get (x / 256) _, Lib.len8_of (x / 256) (by omega) (by omega)]
       have e : (x / 256).toNat = x.toNat / 256 := by omega
       have l := Lib.bitLen_le8' (x / 256) (by omega) (by omega)
       have s := Lib.bitLen_shift8 x.toNat (by omega) (by omega)
       rw [e] at l ⊢
       exact len_wrap_add 8 _ _ (by decide) l s)
    | (rw [len8_get x _, Lib.len8_of x (by omega) (by omega)]
       exact len_wrap_wrap _ (Lib.bitLen_le8' x (by omega) (by omega)))
/-- How many bits a number has; told up to the greatest content. -/
def bits_Len.f (a0 : Int) : Option (Int) := if 0 ≤ a0 ∧ a0 ≤ 1048576 then some (Lib.bitLen a0.toNat : Int) else none
theorem bits_Len.calls (a0 : Int) (r : Int) (w : World) (h : bits_Len.f a0 = some r) :
    Calls Try.prog 81 #[.int .u64 a0] w fun e w' => e = .returned (.int .i64 r) ∧ Drawn0 w w' := by
  unfold bits_Len.f at h
  split at h
  · rename_i hb
    obtain ⟨h0, h1⟩ := hb
    obtain rfl := Option.some.inj h
    go_enter Try.func81, Try.ntmps81
    go_wp2_with (go_at_call 91; refine (bits_Len64_any _ _ h0 h1).mono ?_; rintro e w' ⟨rfl, rfl⟩)
    go_ret
    exact ⟨rfl, Drawn0.refl _⟩
  · exact absurd h (by simp)

/-! ### fingerprint_Power: function 69 -/
mutual
def fingerprint_Power.j0 : Nat → Int → Bool → Option (Int)
  | 0, _, _ => none
  | k + 1, x0, x11 => if x11 = true then (some 0) else ((bits_Len.f (IntKind.u64.wrap (x0))).bind fun t537 => (fingerprint_Power.l0 k x0 1 747382712868975713 t537 0))
def fingerprint_Power.l0 : Nat → Int → Int → Int → Int → Int → Option (Int)
  | 0, _, _, _, _, _ => none
  | k + 1, x0, x3, x4, x14, x15 => if x15 < x14 then (if 0 ≤ x15 then (if (Go.bits .and .i64 (shr .i64 x0 x15) 1) = 1 then ((fingerprint_mul.f x3 x4).bind fun t538 => ((fingerprint_mul.f x4 x4).bind fun t539 => (fingerprint_Power.l0 k x0 t538 t539 x14 (wrap64 (x15 + 1))))) else ((fingerprint_mul.f x4 x4).bind fun t540 => (fingerprint_Power.l0 k x0 x3 t540 x14 (wrap64 (x15 + 1))))) else (none)) else (some x3)
end
def fingerprint_Power.f (k : Nat) (a0 : Int) : Option (Int) := if a0 < 0 then (fingerprint_Power.j0 k a0 true) else (fingerprint_Power.j0 k a0 (decide (a0 > 1048576)))
set_option maxHeartbeats 8000000 in
set_option maxRecDepth 100000 in
theorem fingerprint_Power.calls (k : Nat) (a0 : Int) (r : Int) (w : World) (h : fingerprint_Power.f k a0 = some r) :
    Calls Try.prog 69 #[.int .i64 a0] w fun e w' => e = .returned (.int .u64 r) ∧ Drawn0 w w' := by
  have H : (if a0 < 0 then (fingerprint_Power.j0 k a0 true) else (fingerprint_Power.j0 k a0 (decide (a0 > 1048576)))) = some r := h
  clear h
  have HC2 := Aside0.mk H
  clear H
  go_enter Try.func69, Try.ntmps69
  go_upto_region 1 with (fail)
  go_cut [11] (fun v11 wc => ∃ (kq : Nat) (x11_1 : Bool), v11 = .bool x11_1 ∧ Aside0 (fingerprint_Power.j0 kq a0 x11_1 = some r) ∧ Aside0 (kq ≤ k) ∧ Drawn0 w wc)
  case first =>
    have H := HC2.out
    clear HC2
    by_cases c3 : a0 < 0
    · rw [if_pos c3] at H
      have c3b0 : decide (a0 < 0) = true := decide_eq_true c3
      clear c3
      (first | rw [c3b0] | (simp only [i64_w, i32_w]; rw [c3b0]) | skip)
      have H' := Aside0.mk H
      clear H
      go_wp2
      go_meet
      case rel => exact ⟨_, (true), (by first | rfl | (simp; done) | (simp [*]; done)), H', ⟨by first | omega | exact Nat.le_refl _⟩, by repeat (first | exact Drawn0.refl _ | apply Drawn0.step)⟩
    · rw [if_neg c3] at H
      have c3b0 : decide (a0 < 0) = false := decide_eq_false c3
      clear c3
      (first | rw [c3b0] | (simp only [i64_w, i32_w]; rw [c3b0]) | skip)
      have H' := Aside0.mk H
      clear H
      go_wp2
      go_meet
      case rel => exact ⟨_, (decide (a0 > 1048576)), (by first | rfl | (simp; done) | (simp [*]; done)), H', ⟨by first | omega | exact Nat.le_refl _⟩, by repeat (first | exact Drawn0.refl _ | apply Drawn0.step)⟩
  case rest =>
    clear HC2
    try clear p2
    try clear c3
    try clear c3b0
    obtain ⟨kq, x11_1, rfl, HA, HJ1, ⟨mc1, rfl⟩⟩ := hcut
    cases kq with
    | zero => exact absurd HA.out (by simp [fingerprint_Power.j0])
    | succ kj1 =>
      have H := HA.out
      clear HA
      simp only [fingerprint_Power.j0] at H
      by_cases c4 : x11_1 = true
      · subst c4
        have H1 : (some 0) = some r := by rw [if_pos rfl] at H; exact H
        clear H
        have H := H1
        clear H1
        obtain rfl := Option.some.inj H
        go_wp2
        go_ret
        exact ⟨by first | rfl | (simp; done) | (simp [*]; done), by repeat (first | exact Drawn0.refl _ | apply Drawn0.step)⟩
      · replace c4 := Bool.eq_false_iff.mpr c4
        subst c4
        have H1 : ((bits_Len.f (IntKind.u64.wrap (a0))).bind fun t537 => (fingerprint_Power.l0 kj1 a0 1 747382712868975713 t537 0)) = some r := by rw [if_neg (show ¬ (false = true) by decide)] at H; exact H
        clear H
        have H := H1
        clear H1
        replace H := Option.bind_eq_some_iff.mp H
        obtain ⟨t537, A50, H⟩ := H
        replace H : (fingerprint_Power.l0 kj1 a0 1 747382712868975713 t537 0) = some r := H
        have A5 := Aside0.mk A50
        clear A50
        have H' := Aside0.mk H
        clear H
        go_wp2_with (first | ((with_reducible refine gate_callee (f := 81) rfl ?_); refine goesL_ (some 14) rfl rfl Try.func81 (by kernel_rfl) rfl #[.int .u64 (IntKind.u64.wrap (a0))] rfl (by (try simp only [List.map_toArray, List.map_cons, List.map_nil]); first | done | rfl | (simp only [List.length_drop, List.length_take]; rfl)) ?_; (with_reducible refine (bits_Len.calls (IntKind.u64.wrap (a0)) t537 _ A5.out).mono ?_); rintro e w' ⟨rfl, ⟨nd, rfl⟩⟩; refine ⟨_, rfl, ?_⟩))
        go_loopg [3, 4, 15] kj1 (fun kq v3 v4 v15 w' => ∃ (x3_2 : Int) (x4_2 : Int) (x15_2 : Int), v3 = .int .u64 x3_2 ∧ v4 = .int .u64 x4_2 ∧ v15 = .int .i64 x15_2 ∧ Aside0 (fingerprint_Power.l0 kq a0 x3_2 x4_2 t537 x15_2 = some r) ∧ Aside0 (kq ≤ kj1) ∧ Drawn0 w w')
        case atStart => exact ⟨(1), (747382712868975713), (0), (by first | rfl | (simp; done) | (simp [*]; done)), (by first | rfl | (simp; done) | (simp [*]; done)), (by first | rfl | (simp; done) | (simp [*]; done)), H', ⟨Nat.le_refl _⟩, by repeat (first | exact Drawn0.refl _ | apply Drawn0.step)⟩
        case round =>
          clear H'
          try clear c1
          try clear p2
          try clear c3
          try clear c3b0
          try clear c4
          try clear p2
          obtain ⟨x3_2, x4_2, x15_2, rfl, rfl, rfl, HA, HK2, ⟨m2, rfl⟩⟩ := hrel
          cases gk with
          | zero => exact absurd HA.out (by simp [fingerprint_Power.l0])
          | succ k2 =>
            have H := HA.out
            clear HA
            simp only [fingerprint_Power.l0] at H
            by_cases c6 : x15_2 < t537
            · rw [if_pos c6] at H
              have c6b0 : decide (x15_2 < t537) = true := decide_eq_true c6
              clear c6
              by_cases c7 : 0 ≤ x15_2
              · rw [if_pos c7] at H
                have c7b0 := eq_true c7
                have c7b1 : decide (0 ≤ x15_2) = true := decide_eq_true c7
                clear c7
                obtain ⟨ji8, hji8⟩ : ∃ j_ : Int, (shr .i64 a0 x15_2) = j_ := ⟨_, rfl⟩
                replace H : (if (Go.bits .and .i64 (ji8) 1) = 1 then ((fingerprint_mul.f x3_2 x4_2).bind fun t538 => ((fingerprint_mul.f x4_2 x4_2).bind fun t539 => (fingerprint_Power.l0 k2 a0 t538 t539 t537 (wrap64 (x15_2 + 1))))) else ((fingerprint_mul.f x4_2 x4_2).bind fun t540 => (fingerprint_Power.l0 k2 a0 x3_2 t540 t537 (wrap64 (x15_2 + 1))))) = some r := by first | (rw [hji8] at H; exact H) | (simp only [hji8] at H ⊢; exact H)
                have hji8_ : (a0 / 2 ^ min x15_2.toNat 64) = ji8 := hji8
                have hji8z : x15_2 ≤ 64 → (a0 / 2 ^ x15_2.toNat) = ji8 := shr_small hji8
                by_cases c9 : (Go.bits .and .i64 (ji8) 1) = 1
                · rw [if_pos c9] at H
                  have c9b0 : ((Go.bits .and .i64 (ji8) 1) == 1) = true := beq_iff_eq.mpr c9
                  have c9b1 : ((Go.bits .and .i64 (ji8) 1) != 1) = false := bne_eq_false_iff_eq.mpr c9
                  clear c9
                  replace H := Option.bind_eq_some_iff.mp H
                  obtain ⟨t538, A100, H⟩ := H
                  replace H : ((fingerprint_mul.f x4_2 x4_2).bind fun t539 => (fingerprint_Power.l0 k2 a0 t538 t539 t537 (wrap64 (x15_2 + 1)))) = some r := H
                  have A10 := Aside0.mk A100
                  clear A100
                  replace H := Option.bind_eq_some_iff.mp H
                  obtain ⟨t539, A110, H⟩ := H
                  replace H : (fingerprint_Power.l0 k2 a0 t538 t539 t537 (wrap64 (x15_2 + 1))) = some r := H
                  have A11 := Aside0.mk A110
                  clear A110
                  have H' := Aside0.mk H
                  clear H
                  go_wp2_with (first | ((with_reducible refine gate_callee (f := 68) rfl ?_); refine goesL_ (some 25) rfl rfl Try.func68 (by kernel_rfl) rfl #[.int .u64 x3_2, .int .u64 x4_2] rfl (by (try simp only [List.map_toArray, List.map_cons, List.map_nil]); first | done | rfl | (simp only [List.length_drop, List.length_take]; rfl)) ?_; (with_reducible refine (fingerprint_mul.calls x3_2 x4_2 t538 _ A10.out).mono ?_); rintro e w' ⟨rfl, ⟨nd, rfl⟩⟩; refine ⟨_, rfl, ?_⟩) | ((with_reducible refine gate_callee (f := 68) rfl ?_); refine goesL_ (some 28) rfl rfl Try.func68 (by kernel_rfl) rfl #[.int .u64 x4_2, .int .u64 x4_2] rfl (by (try simp only [List.map_toArray, List.map_cons, List.map_nil]); first | done | rfl | (simp only [List.length_drop, List.length_take]; rfl)) ?_; (with_reducible refine (fingerprint_mul.calls x4_2 x4_2 t539 _ A11.out).mono ?_); rintro e w' ⟨rfl, ⟨nd, rfl⟩⟩; refine ⟨_, rfl, ?_⟩))
                  go_roundg k2
                  case measure => have := HJ1.out; have := HK2.out; omega
                  case rel => exact ⟨(t538), (t539), (wrap64 (x15_2 + 1)), (by first | rfl | (simp; done) | (simp [*]; done)), (by first | rfl | (simp; done) | (simp [*]; done)), (by first | rfl | (simp; done) | (simp [*]; done)), H', ⟨by have := HJ1.out; have := HK2.out; omega⟩, by repeat (first | exact Drawn0.refl _ | apply Drawn0.step)⟩
                · rw [if_neg c9] at H
                  have c9b0 : ((Go.bits .and .i64 (ji8) 1) == 1) = false := beq_eq_false_iff_ne.mpr c9
                  have c9b1 : ((Go.bits .and .i64 (ji8) 1) != 1) = true := bne_iff_ne.mpr c9
                  replace H := Option.bind_eq_some_iff.mp H
                  obtain ⟨t540, A120, H⟩ := H
                  replace H : (fingerprint_Power.l0 k2 a0 x3_2 t540 t537 (wrap64 (x15_2 + 1))) = some r := H
                  have A12 := Aside0.mk A120
                  clear A120
                  have H' := Aside0.mk H
                  clear H
                  go_wp2_with (first | ((with_reducible refine gate_callee (f := 68) rfl ?_); refine goesL_ (some 28) rfl rfl Try.func68 (by kernel_rfl) rfl #[.int .u64 x4_2, .int .u64 x4_2] rfl (by (try simp only [List.map_toArray, List.map_cons, List.map_nil]); first | done | rfl | (simp only [List.length_drop, List.length_take]; rfl)) ?_; (with_reducible refine (fingerprint_mul.calls x4_2 x4_2 t540 _ A12.out).mono ?_); rintro e w' ⟨rfl, ⟨nd, rfl⟩⟩; refine ⟨_, rfl, ?_⟩))
                  go_roundg k2
                  case measure => have := HJ1.out; have := HK2.out; omega
                  case rel => exact ⟨(x3_2), (t540), (wrap64 (x15_2 + 1)), (by first | rfl | (simp; done) | (simp [*]; done)), (by first | rfl | (simp; done) | (simp [*]; done)), (by first | rfl | (simp; done) | (simp [*]; done)), H', ⟨by have := HJ1.out; have := HK2.out; omega⟩, by repeat (first | exact Drawn0.refl _ | apply Drawn0.step)⟩
              · rw [if_neg c7] at H
                exact absurd H (by simp)
            · rw [if_neg c6] at H
              have c6b0 : decide (x15_2 < t537) = false := decide_eq_false c6
              clear c6
              obtain rfl := Option.some.inj H
              go_wp2
              go_ret
              exact ⟨by first | rfl | (simp; done) | (simp [*]; done), by repeat (first | exact Drawn0.refl _ | apply Drawn0.step)⟩

end Go.Proofs.Ytleapbbdpediiaa.P
