/- The walk of FingerprintInverse: Rest of a Join by its first part is the second part, and every Rest can be joined again. -/
import Derived.Test.YtbjadpeolkpmcaaGFingerprintInverse
import Derived.Test.YtbjadpeolkpmcaaFrest
import Derived.Test.YtbjadpeolkpmcaaPxf14
namespace Go.Proofs.Ytbjadpeolkpmcaa.Walk
open Go.RowKit Go.Proofs.Ytbjadpeolkpmcaa.P Go.Proofs.Ytbjadpeolkpmcaa.Fp Go.Proofs.Ytbjadpeolkpmcaa.FM Go.Proofs.YtbjadpeolkpmcaaW.PrintWords Go.Proofs.YtbjadpeolkpmcaaW.PrintLast
set_option linter.unusedVariables false
/-- Of valid IDs that fit together. -/
theorem joinS_ok {a m b n : Int} (ha : vld a m = true) (hb : vld b n = true) (h : m + n ≤ 1048576) : joinS a m b n = ((a * pw n.toNat + b) % P, m + n, 0) := by
  unfold joinS
  rw [if_pos ⟨ha, hb⟩, if_neg (by omega)]
theorem restS_ok {a m b n : Int} (ha : vld a m = true) (hb : vld b n = true) (h : n ≤ m) (he : m = n → a = b) : restS a m b n = ((a - b * pw (m - n).toNat) % P, m - n, 0) := by
  unfold restS
  rw [if_pos ⟨ha, hb⟩, if_neg (by omega), if_neg (by intro h; exact h.2 (he (by omega)))]
/-- The join of valid IDs is valid. -/
theorem join_valid {a m b n : Int} (a0 : 0 ≤ a) (b0 : 0 ≤ b) (ha : vld a m = true) (hb : vld b n = true) (h : m + n ≤ 1048576) : vld ((a * pw n.toNat + b) % P) (m + n) = true := by
  obtain ⟨m0, m1, a1, am⟩ := vld_iff.1 ha
  obtain ⟨n0, n1, b1, bn⟩ := vld_iff.1 hb
  refine vld_iff.2 ⟨by omega, h, emod_lt _, ?_⟩
  by_cases hz : 0 < m + n
  · exact .inl hz
  · obtain rfl : a = 0 := by omega
    obtain rfl : b = 0 := by omega
    exact .inr (by rw [Int.zero_mul]; decide)
theorem rest_valid {a m b n : Int} (a0 : 0 ≤ a) (b0 : 0 ≤ b) (ha : vld a m = true) (hb : vld b n = true) (h : n < m) : vld ((a - b * pw (m - n).toNat) % P) (m - n) = true := by
  obtain ⟨m0, m1, a1, am⟩ := vld_iff.1 ha
  obtain ⟨n0, n1, b1, bn⟩ := vld_iff.1 hb
  exact vld_iff.2 ⟨by omega, by omega, emod_lt _, .inl (by omega)⟩
theorem sum_sub {X y : Int} (y0 : 0 ≤ y) (y1 : y < P) : ((X + y) % P - X) % P = y := by
  refine Eq.trans (emod_P_eq ?_) (emod_small y0 y1)
  obtain ⟨k, hk⟩ := ex_emod (X + y)
  exact ⟨-k, by rw [hk]; grind⟩
theorem sub_sum {X y : Int} (y0 : 0 ≤ y) (y1 : y < P) : (X + (y - X) % P) % P = y := by
  refine Eq.trans (emod_P_eq ?_) (emod_small y0 y1)
  obtain ⟨k, hk⟩ := ex_emod (y - X)
  exact ⟨-k, by rw [hk]; grind⟩
theorem FingerprintInverse : Goal.FingerprintInverse := by
  intro a m b n w ha hm hb hn
  have ha := wf_u64 ha
  have hb := wf_u64 hb
  have hm := wf_i64 hm
  have hn := wf_i64 hn
  have hM := madeN_range (n := m) (m := 524288) (by omega)
  have hN := madeN_range (n := n) (m := 524288) (by omega)
  have vx := made_valid (s := a) (n := m) (m := 524288) (by omega)
  have vy := made_valid (s := b) (n := n) (m := 524288) (by omega)
  have rx := madeS_range (s := a) (n := m) (m := 524288)
  have ry := madeS_range (s := b) (n := n) (m := 524288)
  refine stockyardlaw22_FingerprintInverse.calls 100 a m b n true w ?_ rfl
  unfold stockyardlaw22_FingerprintInverse.f
  rw [made_is (m := 524288) ha.1 hm (by omega), Option.bind_some, made_is (m := 524288) hb.1 hn (by omega), Option.bind_some]
  clear ha hb hm hn
  generalize madeS a m 524288 = x at *
  generalize madeN a 524288 = xx at *
  generalize madeN m 524288 = p at *
  generalize madeS b n 524288 = y at *
  generalize madeN n 524288 = q at *
  have vxy := join_valid rx.1 ry.1 vx vy (by omega)
  have er : ((x * pw q.toNat + y) % P - x * pw q.toNat) % P = y := sum_sub ry.1 ry.2
  have e1 : restS ((x * pw q.toNat + y) % P) (p + q) x p = (y, q, 0) := by
    have e0 : p + q - p = q := by omega
    rw [restS_ok vxy vx (by omega), e0, er]
    intro h
    have hq : q = 0 := by omega
    have hy : y = 0 := by
      obtain ⟨_, _, _, h⟩ := vld_iff.1 vy
      omega
    subst hq hy
    rw [Int.toNat_zero, pw_zero, Int.mul_one, Int.add_zero, emod_small rx.1 rx.2]
  rw [join_is rx.1 ry.1 (by omega), Option.bind_some, joinS_ok vx vy (by omega)]
  rw [rest_is (emod_nonneg _) rx.1 (by omega), Option.bind_some, e1, known_is (by omega), Option.bind_some, if_pos rfl, if_pos rfl, if_pos rfl]
  rw [show (!(y == y) || (!(q == q))) = false by simp]
  show stockyardlaw22_FingerprintInverse.j0 (99 + 1) false x p y q = some true
  simp only [stockyardlaw22_FingerprintInverse.j0]
  rw [if_neg (by simp)]
  by_cases hc : q ≤ p
  · rw [if_pos hc]
  · have vr := rest_valid ry.1 rx.1 vy vx (by omega)
    rw [if_neg hc, rest_is ry.1 rx.1 (by omega), Option.bind_some, restS_ok vy vx (by omega) (by omega), join_is rx.1 (emod_nonneg _) (by omega), Option.bind_some, joinS_ok vx vr (by omega)]
    have e2 : (x * pw (q - p).toNat + (y - x * pw (q - p).toNat) % P) % P = y := sub_sum ry.1 ry.2
    have e3 : p + (q - p) = q := by omega
    rw [e2, e3]
    simp
end Go.Proofs.Ytbjadpeolkpmcaa.Walk
