-- What this claim does not use is left out (shake.py).
import Derived.Test.YtleapbbdpediiaaFc
import Derived.LoopTactic
import Derived.Deep.DeepMust
import Derived.Outline
import Derived.Lib.Hide
/- codec.PutUint behind nothing: the encoding of a number. -/
namespace Go.Proofs.Ytleapbbdpediiaa.Pu
open Go.RowKit Go.Proofs.Ytleapbbdpediiaa.P Go.Proofs.Ytleapbbdpediiaa.Fp Go.Proofs.Ytleapbbdpediiaa.FM Go.Proofs.YtleapbbdpediiaaW.PrintWords Go.Proofs.YtleapbbdpediiaaW.PrintLast Go.Proofs.YtleapbbdpediiaaW.PrintMore
set_option linter.unusedVariables false
set_option linter.unusedSimpArgs false
/-- The groups of a number, the lowest first. -/
def venc : Nat → Int → List Int
  | 0, v => [v]
  | n + 1, v => if v < 128 then [v] else (v % 128 + 128) :: venc n (v / 128)
theorem venc_fuel : ∀ (n m : Nat) (v : Int), 0 ≤ v → v.toNat ≤ n → v.toNat ≤ m → venc n v = venc m v
  | 0, 0, v, _, _, _ => rfl
  | 0, m + 1, v, h0, h1, _ => by unfold venc; rw [if_pos (by omega)]
  | n + 1, 0, v, h0, _, h2 => by unfold venc; rw [if_pos (by omega)]
  | n + 1, m + 1, v, h0, h1, h2 => by
    unfold venc
    by_cases h : v < 128
    · rw [if_pos h, if_pos h]
    · rw [if_neg h, if_neg h, venc_fuel n m (v / 128) (by omega) (by omega) (by omega)]
def enc (v : Int) : List Int := venc v.toNat v
theorem enc_small {v : Int} (h0 : 0 ≤ v) (h : v < 128) : enc v = [v] := by
  unfold enc
  rw [venc_fuel v.toNat (v.toNat + 1) v h0 (by omega) (by omega)]
  unfold venc
  rw [if_pos h]
theorem enc_big {v : Int} (h : 128 ≤ v) : enc v = (v % 128 + 128) :: enc (v / 128) := by
  unfold enc
  rw [venc_fuel v.toNat (v.toNat + 1) v (by omega) (by omega) (by omega)]
  conv => lhs; unfold venc
  rw [if_neg (by omega), venc_fuel v.toNat (v / 128).toNat (v / 128) (by omega) (by omega) (by omega)]
theorem or128 {x : Int} (h0 : 0 ≤ x) (h1 : x < 256) : Go.bits .or .u8 x 128 = x % 128 + 128 := by
  obtain ⟨n, rfl⟩ := Int.eq_ofNat_of_zero_le h0
  have hn : n < 256 := by omega
  have key : ∀ m : Fin 256, Go.bits .or .u8 ((m : Nat) : Int) 128 = ((m : Nat) : Int) % 128 + 128 := by decide +kernel
  exact key ⟨n, hn⟩
theorem enc_len : ∀ (k : Nat) (v : Int), 0 ≤ v → v < 128 ^ (k + 1) → (enc v).length ≤ k + 1
  | 0, v, h0, h => by rw [enc_small h0 (by simpa using h)]; simp
  | k + 1, v, h0, h => by
    by_cases hv : v < 128
    · rw [enc_small h0 hv]; simp
    · rw [enc_big (by omega), List.length_cons]
      have := enc_len k (v / 128) (by omega) (by rw [Int.pow_succ] at h; omega)
      omega
/-- The encoding's bytes, where b is nothing. -/
def putF (l : List Int) (v : Int) : Option (List Int) := if l.length = 0 ∧ 0 ≤ v ∧ v < 18446744073709551616 then some (enc v) else none
theorem HB_size {w0 w : World} (h : Below w0.heap.size w0 w) : w0.heap.size ≤ w.heap.size := h.size
set_option maxHeartbeats 4000000 in
set_option maxRecDepth 100000 in
theorem put_c {A : Option Addr} {c : Nat} {v : Int} (w0 : World) (h0 : 0 ≤ v) (h1 : v < 18446744073709551616) :
    Calls Try.prog 58 #[.slice A 0 c, .int .u64 v] w0 fun e w' => ∃ u : Value, e = .returned u ∧ Kd.R (Kd.int .u8) 5 w' w0.heap.size (fun _ => True) u (enc v) ∧ Below w0.heap.size w0 w' := by
  have hcopy : ∀ (W : World) (A' : Option Addr) (c' : Nat), (Builtin.copy_ #[34, 34] 3 #[.slice A' 0 c', .slice A 0 c]).run Try.prog W = .ok (goInt 0) W := fun W A' c' =>
    run_copy_none W _ _ _ 5 A' A 0 c' 0 c Try.underlying34 (by kernel_rfl) rfl
  have Hcp := Lib.hid hcopy
  clear hcopy
  go_enter Try.func58, Try.ntmps58
  go_wp2_with ((with_reducible refine gate_dst (N := 11) rfl ?_); go_must (refine Mk0.R_make0 (Kd.int .u8) (w0 := w0) w0.heap.size 5 rfl (N := 11) rfl 34 _ _ rfl 10 rfl rfl Try.underlying34 (.int .u8 0) 1 info5 rfl (by decide) (by omega) 0 (ok := fun _ => True) (okp := fun _ => True) rfl (fun _ h => h) trivial (by omega) (by decide) (Below.refl _ _) (Nat.le_refl _) ?_); intro v5 w1 hR1 hB1 hg1 _; obtain ⟨A5, c5, rfl⟩ := Kd.R_slice hR1; have hcp := Hcp.out w1 A5 c5; have HR1 := Lib.hid hR1; have HB1 := Lib.hid hB1; clear hR1 hB1 hg1)
  have hn : ([] : List Int).length = 0 := rfl
  go_loopw [1, 5] (fun x y wr => ∃ (u : Int) (ys : List Int), x = .int .u64 u ∧ 0 ≤ u ∧ u ≤ v ∧ Hid (enc v = ys ++ enc u) ∧ Hid (Kd.R (Kd.int .u8) 5 wr w0.heap.size (fun _ => True) y ys) ∧ Hid (Below w0.heap.size w0 wr) ∧ ys.length ≤ 10) (fun x _ _ => (intOf x).toNat)
  case atStart => exact ⟨v, [], rfl, h0, Int.le_refl _, Lib.hid rfl, HR1, HB1, by simp⟩
  case round =>
    obtain ⟨u, ys, rfl, hu0, huv, hE, hR, hB, hl⟩ := hrel
    have hbs := HB_size hB.out
    by_cases h128 : 128 ≤ u
    · have hE2 := hE.out
      rw [enc_big h128] at hE2
      have hlen := enc_len 9 v h0 (by omega)
      rw [hE2] at hlen
      simp only [List.length_append, List.length_cons] at hlen
      have HE2 := Lib.hid hE2
      clear hE hE2
      go_wp2_with (at_builtin; go_must (refine Kd.R_append (Kd.int .u8) (w0 := w0) w0.heap.size rfl _ _ 34 5 _ 1 rfl Try.underlying34 info5 rfl (by decide) (by omega) u5 ys _ _ (fun _ => True) (fun _ => False) rfl rfl rfl (fun _ h => h.elim) (fun _ _ => trivial) hR.out hB.out hbs (by omega) ?_); intro v6 w6 hR6 hB6 _ _)
      rw [or128 (by omega) (by omega)] at hR6
      go_roundw
      case rel =>
        refine ⟨u / 128, ys ++ [u % 256 % 128 + 128], by go_num, by omega, by omega, Lib.hid ?_, Lib.hid hR6, Lib.hid hB6, by simp; omega⟩
        rw [HE2.out, List.append_assoc, List.singleton_append, show u % 256 % 128 = u % 128 by omega]
      case measure => simp [intOf]; omega
    · have hE2 := hE.out
      rw [enc_small hu0 (by omega)] at hE2
      have HE2 := Lib.hid hE2
      clear hE hE2
      go_wp2_with (at_builtin; go_must (refine Kd.R_append (Kd.int .u8) (w0 := w0) w0.heap.size rfl _ _ 34 5 _ 1 rfl Try.underlying34 info5 rfl (by decide) (by omega) u5 ys _ _ (fun _ => True) (fun _ => False) rfl rfl rfl (fun _ h => h.elim) (fun _ _ => trivial) hR.out hB.out hbs (by omega) ?_); intro v6 w6 hR6 hB6 _ _)
      go_ret
      exact ⟨_, rfl, by rw [HE2.out]; exact hR6, hB6⟩
end Go.Proofs.Ytleapbbdpediiaa.Pu
