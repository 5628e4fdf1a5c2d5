-- What this claim does not use is left out (shake.py).
import Derived.Test.YtleapbbdpediiaaFp
import Derived.Lib.BitFns
import Derived.Test.YtleapbbdpediiaaPxf30
import Derived.Test.YtleapbbdpediiaaPxf48
import Derived.Test.YtleapbbdpediiaaPxf49
import Derived.Test.YtleapbbdpediiaaPxf55
import Derived.Test.YtleapbbdpediiaaPxf63
import Derived.Test.YtleapbbdpediiaaPxf81
/- What Valid, Power, Join, Rest, Window, Prefixes and the helpers of the statements compute, in the words of Fm. -/
namespace Go.Proofs.Ytleapbbdpediiaa.Fp
open Go.RowKit Go.Proofs.Ytleapbbdpediiaa.P Go.Proofs.Ytleapbbdpediiaa.FM Go.Proofs.YtleapbbdpediiaaW.PrintWords Go.Proofs.YtleapbbdpediiaaW.PrintLast Go.Proofs.YtleapbbdpediiaaW.PrintMore
set_option linter.unusedVariables false

/-- An ID's two numbers are valid. -/
def vld (s n : Int) : Bool := decide (0 ≤ n) && decide (n ≤ 1048576) && decide (s < P) && (decide (0 < n) || s == 0)
theorem vld_iff {s n : Int} : vld s n = true ↔ 0 ≤ n ∧ n ≤ 1048576 ∧ s < P ∧ (0 < n ∨ s = 0) := by simp [vld, and_assoc]
theorem vld_false {s n : Int} : vld s n = false ↔ ¬ (0 ≤ n ∧ n ≤ 1048576 ∧ s < P ∧ (0 < n ∨ s = 0)) := by rw [← vld_iff]; simp
theorem valid_is (s n : Int) : fingerprint_Valid.f s n = some (vld s n) := by
  have hp := P_def
  unfold fingerprint_Valid.f
  split
  · rw [vld_false.2 (by omega)]
  · split
    · rw [vld_false.2 (by omega)]
    · split
      · rw [vld_false.2 (by omega)]
      · split
        · rw [vld_iff.2 (by omega)]
        · by_cases h : s = 0
          · rw [vld_iff.2 (by omega)]; simp [h]
          · rw [vld_false.2 (by omega)]; simp [h]
theorem sub_fold {a b : Int} (a0 : 0 ≤ a) (a1 : a < P) (b0 : 0 ≤ b) (b1 : b < P) : (a - b) % P = if a ≥ b then a - b else a + P - b := by
  split
  · exact emod_small (by omega) (by omega)
  · rw [← emod_small (x := a + P - b) (by omega) (by omega)]
    exact emod_P_eq ⟨-1, by omega⟩
theorem sub_is {a b : Int} (a0 : 0 ≤ a) (a1 : a < P) (b0 : 0 ≤ b) (b1 : b < P) : fingerprint_sub.f a b = some ((a - b) % P) := by
  have hp := P_def
  rw [sub_fold a0 a1 b0 b1]
  unfold fingerprint_sub.f
  split
  · rw [wrap_small (by omega) (by omega)]
  · rw [wrap_small (x := a + _) (by omega) (by omega), wrap_small (by omega) (by omega)]
    congr 1

/-! ### powers -/
theorem pw_double (i : Nat) : pw (2 ^ i) * pw (2 ^ i) % P = pw (2 ^ (i + 1)) := by rw [← pw_add, Nat.pow_succ]; congr 1; omega
theorem pw_one : pw (2 ^ 0) = B := by decide
theorem pw_bit (N i : Nat) : pw (N % 2 ^ (i + 1)) = if N / 2 ^ i % 2 = 1 then pw (N % 2 ^ i) * pw (2 ^ i) % P else pw (N % 2 ^ i) := by
  rw [Nat.mod_pow_succ]
  split
  · rename_i h
    rw [h, Nat.mul_one, pw_add]
  · rename_i h
    rw [show N / 2 ^ i % 2 = 0 by omega, Nat.mul_zero, Nat.add_zero]
theorem and1 {x : Int} (h0 : 0 ≤ x) (h1 : x < 9223372036854775808) : Go.bits .and .i64 x 1 = x % 2 :=
  bits_mask .i64 63 (by decide) (fun n h0 h1 => by rw [IntKind.wrap_i64]; omega) 1 (by decide) x h0 h1
theorem shr_is (N i : Nat) (hi : i ≤ 64) : shr .i64 (N : Int) (i : Int) = ((N / 2 ^ i : Nat) : Int) := by
  unfold shr
  rw [Int.toNat_natCast, Nat.min_eq_left (by simpa [IntKind.bits] using hi)]
  simp
theorem bitLenAux_lt (f x : Nat) (h : x < 2 ^ f) : x < 2 ^ Lib.bitLenAux f x ∧ Lib.bitLenAux f x ≤ f := by
  induction f generalizing x with
  | zero => simp only [Lib.bitLenAux]; omega
  | succ f ih =>
    unfold Lib.bitLenAux
    split
    · subst_vars; simp
    · have := ih (x / 2) (by rw [Nat.pow_succ] at h; omega)
      rw [Nat.add_comm, Nat.pow_succ]
      omega
theorem power_loop (N : Nat) (hN : N ≤ 1048576) (L : Nat) (hL : N < 2 ^ L) (h64 : L ≤ 64) (d : Nat) : ∀ (k i : Nat), i ≤ L → L - i = d → d < k →
    fingerprint_Power.l0 k (N : Int) (pw (N % 2 ^ i)) (pw (2 ^ i)) (L : Int) (i : Int) = some (pw N) := by
  induction d with
  | zero =>
    intro k i h0 h1 hk
    obtain ⟨k, rfl⟩ : ∃ m, k = m + 1 := ⟨k - 1, by omega⟩
    simp only [fingerprint_Power.l0]
    rw [if_neg (by omega), show i = L by omega, Nat.mod_eq_of_lt hL]
  | succ d ih =>
    intro k i h0 h1 hk
    obtain ⟨k, rfl⟩ : ∃ m, k = m + 1 := ⟨k - 1, by omega⟩
    have hr := pw_range (N % 2 ^ i)
    have hs := pw_range (2 ^ i)
    have hle : N / 2 ^ i ≤ N := Nat.div_le_self ..
    have hnext := ih k (i + 1) (by omega) (by omega) (by omega)
    rw [pw_bit] at hnext
    simp only [fingerprint_Power.l0]
    rw [if_pos (by omega), if_pos (by omega), shr_is N i (by omega)]
    generalize N / 2 ^ i = q at *
    rw [and1 (by omega) (by omega), mul_is hs.1 hs.2 hs.1 hs.2, pw_double, mul_is hr.1 hr.2 hs.1 hs.2]
    simp only [Option.bind_some]
    rw [show wrap64 ((i : Int) + 1) = ((i + 1 : Nat) : Int) by unfold wrap64; omega]
    split
    · rw [if_pos (by omega)] at hnext; exact hnext
    · rw [if_neg (by omega)] at hnext; exact hnext
/-- What both Powers come to. -/
def powS (n : Int) : Int := if 0 ≤ n ∧ n ≤ 1048576 then pw n.toNat else 0
theorem powS_nat {n : Int} (h0 : 0 ≤ n) (h1 : n ≤ 1048576) : powS n = pw n.toNat := if_pos ⟨h0, h1⟩
theorem power_is (n : Int) {k : Nat} (hk : 70 ≤ k) : fingerprint_Power.f k n = some (powS n) := by
  obtain ⟨k, rfl⟩ : ∃ m, k = m + 1 := ⟨k - 1, by omega⟩
  unfold fingerprint_Power.f powS
  by_cases h0 : n < 0
  · rw [if_pos h0, if_neg (by omega)]; simp [fingerprint_Power.j0]
  · rw [if_neg h0]
    by_cases h1 : n ≤ 1048576
    · obtain ⟨N, rfl⟩ := Int.eq_ofNat_of_zero_le (show 0 ≤ n by omega)
      have hb := bitLenAux_lt 64 N (by omega)
      rw [if_pos ⟨by omega, h1⟩]
      simp only [fingerprint_Power.j0]
      rw [if_neg (by simp; omega), wrap_small (by omega) (by omega)]
      unfold bits_Len.f
      rw [if_pos ⟨by omega, h1⟩]
      simp only [Option.bind_some, Int.toNat_natCast]
      have h := power_loop N (by omega) (Lib.bitLen N) hb.1 hb.2 (Lib.bitLen N) k 0 (by omega) (by omega) (by unfold Lib.bitLen; omega)
      rw [pw_one, Nat.pow_zero, Nat.mod_one, pw_zero] at h
      exact h
    · rw [if_neg (by omega)]
      simp only [fingerprint_Power.j0]
      rw [if_pos (by simp; omega)]

/-! ### joins -/
/-- What both Joins come to: the ID, the error. -/
def joinS (a m b n : Int) : Int × Int × Int :=
  if vld a m = true ∧ vld b n = true then (if m + n > 1048576 then (0, 0, 221) else ((a * pw n.toNat + b) % P, m + n, 0)) else (0, 0, 220)
theorem join_sum {a b : Int} {n : Nat} (a0 : 0 ≤ a) (a1 : a < P) (b0 : 0 ≤ b) (b1 : b < P) : (a * pw n % P + b) % P = (a * pw n + b) % P := by
  apply emod_P_eq
  obtain ⟨k, hk⟩ := ex_emod (a * pw n)
  exact ⟨-k, by rw [hk]; grind⟩
theorem join_is {a m b n : Int} (a0 : 0 ≤ a) (b0 : 0 ≤ b) {k : Nat} (hk : 71 ≤ k) : fingerprint_Join.f k a m b n = some (joinS a m b n) := by
  obtain ⟨k, rfl⟩ : ∃ m, k = m + 1 := ⟨k - 1, by omega⟩
  unfold fingerprint_Join.f joinS
  rw [valid_is, valid_is]
  simp only [Option.bind_some]
  by_cases ha : vld a m = true
  · by_cases hb : vld b n = true
    · rw [if_pos ha, if_pos ⟨ha, hb⟩, hb]
      obtain ⟨m0, m1, a1, _⟩ := vld_iff.1 ha
      obtain ⟨n0, n1, b1, _⟩ := vld_iff.1 hb
      have hp := pw_range n.toNat
      have hq := emod_nonneg (a * pw n.toNat)
      have hq' := emod_lt (a * pw n.toNat)
      simp only [fingerprint_Join.j0]
      rw [if_neg (by simp), show wrap64 (m + n) = m + n by unfold wrap64; omega]
      split
      · rfl
      · rw [power_is _ (by omega), powS_nat n0 n1, Option.bind_some, mul_is a0 a1 hp.1 hp.2, Option.bind_some, add_is hq b0 (by omega), join_sum a0 a1 b0 b1, Option.bind_some]
    · rw [if_pos ha, if_neg (by simp [hb])]
      simp only [fingerprint_Join.j0]
      rw [if_pos (by simpa using hb)]
  · rw [if_neg ha, if_neg (by simp [ha])]
    simp only [fingerprint_Join.j0]
    rw [if_pos trivial]

/-! ### folding a number into a range -/
def foldS (v n : Int) : Int := if n ≤ 1 then 0 else v % n
theorem fold_is {v n : Int} (hv : -9223372036854775808 ≤ v ∧ v ≤ 9223372036854775807) (hn : n ≤ 9223372036854775807) : stockyardmake_Fold.f v n = some (foldS v n) := by
  unfold stockyardmake_Fold.f foldS
  split
  · rfl
  · rename_i h
    rw [if_neg (by omega)]
    have hm := Int.emod_nonneg v (show n ≠ 0 by omega)
    have hl := Int.emod_lt_of_pos v (show 0 < n by omega)
    by_cases h0 : 0 ≤ v
    · rw [Int.tmod_eq_emod_of_nonneg h0, if_neg (by omega)]
    · have e : Int.tmod v n = -((-v) % n) := by
        rw [← Int.tmod_eq_emod_of_nonneg (show 0 ≤ -v by omega), Int.neg_tmod, Int.neg_neg]
      have hk := Int.emod_nonneg (-v) (show n ≠ 0 by omega)
      have hj := Int.emod_lt_of_pos (-v) (show 0 < n by omega)
      have h1 := Int.mul_ediv_add_emod v n
      have h2 := Int.mul_ediv_add_emod (-v) n
      have hs : v % n + (-v) % n = n * (-(v / n) - (-v) / n) := by grind
      have hq : -(v / n) - (-v) / n = 0 ∨ -(v / n) - (-v) / n = 1 := by
        generalize -(v / n) - (-v) / n = q at *
        rcases Int.lt_trichotomy q 0 with hq | hq | hq
        · have : n * q ≤ n * (-1) := Int.mul_le_mul_of_nonneg_left (by omega) (by omega)
          omega
        · exact .inl hq
        · by_cases hq2 : q < 2
          · omega
          · have : n * 2 ≤ n * q := Int.mul_le_mul_of_nonneg_left (show 2 ≤ q by omega) (by omega)
            omega
      rw [e]
      rcases hq with hq | hq
      · rw [hq] at hs
        rw [if_neg (by omega)]
        congr 1
        omega
      · rw [hq] at hs
        by_cases hz : (-v) % n = 0
        · omega
        · rw [if_pos (by omega)]
          congr 1
          unfold wrap64
          omega
theorem foldS_range {v n : Int} (hn : 1 ≤ n) : 0 ≤ foldS v n ∧ foldS v n < n := by
  unfold foldS
  split
  · omega
  · exact ⟨Int.emod_nonneg _ (by omega), Int.emod_lt_of_pos _ (by omega)⟩
end Go.Proofs.Ytleapbbdpediiaa.Fp
