-- What this claim does not use is left out (shake.py).
import Derived.Test.YtleapbbdpediiaaFp
import Derived.Lib.BitFns
import Derived.Test.YtleapbbdpediiaaPxf30
import Derived.Test.YtleapbbdpediiaaPx0
import Derived.Test.YtleapbbdpediiaaPxf45
import Derived.Test.YtleapbbdpediiaaPxf55
import Derived.Lib.Slices
import Derived.Lib.Small
import Derived.Lib.Strings
import Derived.Lib.Walk
import Derived.Test.YtleapbbdpediiaaPxf63
/- What Valid, Power, Join, Rest, Window, Prefixes and the helpers of the statements compute, in the words of Fm. -/
namespace Go.Proofs.Ytleapbbdpediiaa.Fp
open Go.RowKit Go.Proofs.Ytleapbbdpediiaa.P Go.Proofs.Ytleapbbdpediiaa.FM Go.Proofs.YtleapbbdpediiaaW.PrintWords Go.Proofs.YtleapbbdpediiaaW.PrintLast Go.Proofs.YtleapbbdpediiaaW.PrintMore
set_option linter.unusedVariables false

/-- An ID's two numbers are valid. -/
def vld (s n : Int) : Bool := decide (0 ≤ n) && decide (n ≤ 1048576) && decide (s < P) && (decide (0 < n) || s == 0)
theorem vld_iff {s n : Int} : vld s n = true ↔ 0 ≤ n ∧ n ≤ 1048576 ∧ s < P ∧ (0 < n ∨ s = 0) := by simp [vld, and_assoc]
theorem vld_false {s n : Int} : vld s n = false ↔ ¬ (0 ≤ n ∧ n ≤ 1048576 ∧ s < P ∧ (0 < n ∨ s = 0)) := by rw [← vld_iff]; simp
theorem valid_is (s n : Int) : fingerprint_Valid.f s n = some (vld s n) := by
  have hp := P_def
  unfold fingerprint_Valid.f
  split
  · rw [vld_false.2 (by omega)]
  · split
    · rw [vld_false.2 (by omega)]
    · split
      · rw [vld_false.2 (by omega)]
      · split
        · rw [vld_iff.2 (by omega)]
        · by_cases h : s = 0
          · rw [vld_iff.2 (by omega)]; simp [h]
          · rw [vld_false.2 (by omega)]; simp [h]
/-! ### powers -/
/-! ### joins -/
/-! ### folding a number into a range -/
def foldS (v n : Int) : Int := if n ≤ 1 then 0 else v % n
theorem fold_is {v n : Int} (hv : -9223372036854775808 ≤ v ∧ v ≤ 9223372036854775807) (hn : n ≤ 9223372036854775807) : stockyardmake_Fold.f v n = some (foldS v n) := by
  unfold stockyardmake_Fold.f foldS
  split
  · rfl
  · rename_i h
    rw [if_neg (by omega)]
    have hm := Int.emod_nonneg v (show n ≠ 0 by omega)
    have hl := Int.emod_lt_of_pos v (show 0 < n by omega)
    by_cases h0 : 0 ≤ v
    · rw [Int.tmod_eq_emod_of_nonneg h0, if_neg (by omega)]
    · have e : Int.tmod v n = -((-v) % n) := by
        rw [← Int.tmod_eq_emod_of_nonneg (show 0 ≤ -v by omega), Int.neg_tmod, Int.neg_neg]
      have hk := Int.emod_nonneg (-v) (show n ≠ 0 by omega)
      have hj := Int.emod_lt_of_pos (-v) (show 0 < n by omega)
      have h1 := Int.mul_ediv_add_emod v n
      have h2 := Int.mul_ediv_add_emod (-v) n
      have hs : v % n + (-v) % n = n * (-(v / n) - (-v) / n) := by grind
      have hq : -(v / n) - (-v) / n = 0 ∨ -(v / n) - (-v) / n = 1 := by
        generalize -(v / n) - (-v) / n = q at *
        rcases Int.lt_trichotomy q 0 with hq | hq | hq
        · have : n * q ≤ n * (-1) := Int.mul_le_mul_of_nonneg_left (by omega) (by omega)
          omega
        · exact .inl hq
        · by_cases hq2 : q < 2
          · omega
          · have : n * 2 ≤ n * q := Int.mul_le_mul_of_nonneg_left (show 2 ≤ q by omega) (by omega)
            omega
      rw [e]
      rcases hq with hq | hq
      · rw [hq] at hs
        rw [if_neg (by omega)]
        congr 1
        omega
      · rw [hq] at hs
        by_cases hz : (-v) % n = 0
        · omega
        · rw [if_pos (by omega)]
          congr 1
          unfold wrap64
          omega
theorem foldS_range {v n : Int} (hn : 1 ≤ n) : 0 ≤ foldS v n ∧ foldS v n < n := by
  unfold foldS
  split
  · omega
  · exact ⟨Int.emod_nonneg _ (by omega), Int.emod_lt_of_pos _ (by omega)⟩
end Go.Proofs.Ytleapbbdpediiaa.Fp
