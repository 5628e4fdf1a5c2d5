/- Rest: what both texts compute; its contract. -/
import Derived.Test.YtgfodmpdnhebjaaFc
import Derived.Test.YtgfodmpdnhebjaaPxf47
namespace Go.Proofs.Ytgfodmpdnhebjaa.Fp
open Go.RowKit Go.Proofs.Ytgfodmpdnhebjaa.P Go.Proofs.Ytgfodmpdnhebjaa.FM Go.Proofs.YtgfodmpdnhebjaaW.PrintWords Go.Proofs.YtgfodmpdnhebjaaW.PrintLast Go.Proofs.YtgfodmpdnhebjaaW.PrintMore
set_option linter.unusedVariables false
/-- What both Rests come to: the ID, the error. -/
def restS (a m b n : Int) : Int × Int × Int :=
  if vld a m = true ∧ vld b n = true then (if m - n < 0 then (0, 0, 221) else if m - n = 0 ∧ a ≠ b then (0, 0, 220) else ((a - b * pw (m - n).toNat) % P, m - n, 0)) else (0, 0, 220)
theorem rest_sum {a b : Int} {n : Nat} : (a - b * pw n % P) % P = (a - b * pw n) % P := by
  apply emod_P_eq
  obtain ⟨k, hk⟩ := ex_emod (b * pw n)
  exact ⟨k, by rw [hk]; grind⟩
theorem rest_is {a m b n : Int} (a0 : 0 ≤ a) (b0 : 0 ≤ b) {k : Nat} (hk : 72 ≤ k) : fingerprint_Rest.f k a m b n = some (restS a m b n) := by
  obtain ⟨k, rfl⟩ : ∃ m, k = m + 2 := ⟨k - 2, by omega⟩
  unfold fingerprint_Rest.f restS
  rw [valid_is, Option.bind_some, valid_is, Option.bind_some]
  by_cases ha : vld a m = true
  · by_cases hb : vld b n = true
    · rw [if_pos ha, if_pos ⟨ha, hb⟩, hb]
      obtain ⟨m0, m1, a1, _⟩ := vld_iff.1 ha
      obtain ⟨n0, n1, b1, _⟩ := vld_iff.1 hb
      have hp := pw_range (m - n).toNat
      have hq := emod_nonneg (b * pw (m - n).toNat)
      have hq' := emod_lt (b * pw (m - n).toNat)
      rw [show wrap64 (m - n) = m - n by unfold wrap64; omega]
      simp only [fingerprint_Rest.j0]
      rw [if_neg (by simp)]
      split
      · rfl
      · rename_i h0
        have tail : fingerprint_Rest.j1 (k + 1) (m - n) false a m b n = some ((a - b * pw (m - n).toNat) % P, m - n, 0) := by
          simp only [fingerprint_Rest.j1]
          rw [if_neg (by simp), power_is _ (by omega), powS_nat (by omega) (by omega), Option.bind_some, mul_is b0 b1 hp.1 hp.2, Option.bind_some, sub_is a0 a1 hq hq', rest_sum, Option.bind_some]
        split
        · rename_i h1
          by_cases he : a = b
          · rw [if_neg (by simp [he]), show (a != b) = false by simp [he]]
            exact tail
          · rw [if_pos ⟨h1, he⟩, show (a != b) = true by simp [he]]
            simp only [fingerprint_Rest.j1]
            rw [if_pos trivial]
        · rename_i h1
          rw [if_neg (by simp [h1])]
          exact tail
    · rw [if_pos ha, if_neg (by simp [hb])]
      simp only [fingerprint_Rest.j0]
      rw [if_pos (by simpa using hb)]
  · rw [if_neg ha, if_neg (by simp [ha])]
    simp only [fingerprint_Rest.j0]
    rw [if_pos trivial]
theorem rest_c {a m b n : Int} (w : World) (a0 : 0 ≤ a) (b0 : 0 ≤ b) : Calls Try.prog 47 #[.agg #[.int .u64 a, .int .i64 m], .agg #[.int .u64 b, .int .i64 n]] w fun e w' =>
    e = .returned (.tuple #[.agg #[.int .u64 (restS a m b n).1, .int .i64 (restS a m b n).2.1], .int .i64 (restS a m b n).2.2]) ∧ Below w.heap.size w w' :=
  fingerprint_Rest.calls 72 a m b n _ _ _ w (rest_is a0 b0 (by omega))
end Go.Proofs.Ytgfodmpdnhebjaa.Fp
