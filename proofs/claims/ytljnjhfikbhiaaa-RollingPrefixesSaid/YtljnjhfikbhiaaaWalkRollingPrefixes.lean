/- The walk of RollingPrefixes: Sums returns, for each byte, the part of the string that ends with it, as Window finds it from the Prefixes. -/
import Derived.Test.YtljnjhfikbhiaaaRlaw
import Derived.Test.YtljnjhfikbhiaaaGRollingPrefixes
import Derived.Deep.RegionHeld3
import Derived.Lib.Hide
import Derived.Deep.DeepMust
namespace Go.Proofs.Ytljnjhfikbhiaaa.Walk
open Go.RowKit Go.Proofs.Ytljnjhfikbhiaaa.P Go.Proofs.Ytljnjhfikbhiaaa.Fp Go.Proofs.Ytljnjhfikbhiaaa.FM Go.Proofs.Ytljnjhfikbhiaaa.Roll Go.Proofs.YtljnjhfikbhiaaaW.PrintWords Go.Proofs.YtljnjhfikbhiaaaW.PrintLast
set_option linter.unusedVariables false
theorem prefS_pos (l : List Int) : ∀ x ∈ prefS l, 0 ≤ x := by
  intro x hx
  obtain ⟨i, hi, rfl⟩ := List.getElem_of_mem hx
  have := prefS_rd l i (by rw [prefS_length] at hi; omega)
  have h2 : rd (prefS l) (i : Int) = (prefS l)[i] := by simp [rd, List.getD_eq_getElem?_getD, hi]
  rw [← h2, this]
  exact (fp_range _).1
set_option maxHeartbeats 4000000 in
set_option maxRecDepth 100000 in
theorem RollingPrefixes : Goal.RollingPrefixes := by
  intro n B d b w0 hn0 hrb hcb hnb hwb
  have Hb := Lib.hid (IsBytes.of_wf hwb)
  have hi := wf_i64 hn0
  clear hwb hn0
  have s1 := szN_1 n
  have s2 := szN_2 n
  go_enter Try.func10, Try.ntmps10
  by_cases hs : 1048576 < b.length
  · have hs' : (1048576 : Int) < (b.length : Int) := by omega
    have B0 := Below.refl w0.heap.size w0
    go_wp2_with fail
    refine (size_c n _ hi).mono ?_
    rintro e w1 ⟨rfl, hd1⟩
    have hb1 := hd1.below
    clear hd1
    have B1 := stepB (by repeat (first | exact B0 | apply below_alloc)) hb1
    obtain ⟨c1, f1⟩ := bcell hb1
    have z1 := hb1.size
    try simp only [World.size_alloc] at c1 f1 z1
    try have z1_0_0 : w0.heap.size < w1.heap.size := by omega
    try have z1_0_1 : w0.heap.size + 1 < w1.heap.size := by omega
    try have z1_0_2 : w0.heap.size + 2 < w1.heap.size := by omega
    clear hb1
    go_wp2_with fail
    go_ret
    exact ⟨rfl, B1⟩
  · have hs' : ¬ (1048576 : Int) < (b.length : Int) := by omega
    have B0 := Below.refl w0.heap.size w0
    go_wp2_with fail
    refine (size_c n _ hi).mono ?_
    rintro e w1 ⟨rfl, hd1⟩
    have hb1 := hd1.below
    clear hd1
    have B1 := stepB (by repeat (first | exact B0 | apply below_alloc)) hb1
    obtain ⟨c1, f1⟩ := bcell hb1
    have z1 := hb1.size
    try simp only [World.size_alloc] at c1 f1 z1
    try have z1_0_0 : w0.heap.size < w1.heap.size := by omega
    try have z1_0_1 : w0.heap.size + 1 < w1.heap.size := by omega
    try have z1_0_2 : w0.heap.size + 2 < w1.heap.size := by omega
    clear hb1
    go_wp2_with fail
    refine (sums_c (szN n) _ (Kd.C_below hrb B1) hcb Hb.out (by omega) s1 s2).mono ?_
    rintro e w4 ⟨A4, c4, p4, rfl, hp4, hq4, hr4, hb4⟩
    have B4 := stepB B1 hb4
    have hpl : p4.length = b.length := by rw [hp4.out, S_length]
    clear hb4
    go_wp2_with fail
    refine (prefixes_r _ (Kd.C_below hrb B4) hcb Hb.out (by omega)).mono ?_
    rintro e w5 ⟨A5, c5, p5, rfl, hp5, hq5, hr5, hb5⟩
    have B5 := stepB B4 hb5
    have hr4 := Kd.C_below hr4 hb5
    have hpl5 : p5.length = b.length + 1 := by rw [hp5.out, prefS_length]
    have hpl5' : (p5.length : Int) = (b.length : Int) + 1 := by omega
    have Hpl5 := Lib.hid hpl5
    clear hb5 hpl5
    go_wp2_with fail
    refine (Roll.known_c _).mono ?_
    rintro e w6 ⟨rfl, hb6⟩
    have B6 := stepB B5 hb6
    have hr4 := Kd.C_below hr4 hb6
    have hr5 := Kd.C_below hr5 hb6
    clear hb6
    go_wp2_with fail
    have Hpl := Lib.hid hpl
    clear hpl
    go_loopw [9] (fun i wr => ∃ k : Nat, k ≤ b.length ∧ i = .int .i64 k ∧ Below w6.heap.size w6 wr) (fun i _ => b.length - (intOf i).toNat)
    case atStart => exact ⟨0, Nat.zero_le _, rfl, Below.refl _ _⟩
    case round =>
      obtain ⟨k, hk, rfl, hG⟩ := hrel
      have HB := stepB B6 hG
      by_cases hlt : k < b.length
      · have hwin : winS p5 (((k + 1 - szN n : Nat) : Int)) ((k : Int) + 1) = (fp (W (szN n) b (k + 1)), true) := by
          have := winS_part b (k + 1 - szN n) (k + 1) (by omega) (by omega) (by omega)
          rw [hp5.out]
          exact this
        have Hwin := Lib.hid hwin
        have em : max 0 ((k : Int) + 1 - (szN n : Int)) = ((k + 1 - szN n : Nat) : Int) := by omega
        have e1 : IntKind.i64.wrap ((k : Int) + 1) = (k : Int) + 1 := IntWalk.i64_in _ (by omega)
        have e2 : IntKind.i64.wrap ((k : Int) + 1 - (szN n : Int)) = (k : Int) + 1 - (szN n : Int) := IntWalk.i64_in _ (by omega)
        obtain ⟨ad4, rfl, had4, hcl4⟩ := C_cells hr4 (by rw [Hpl.out]; omega)
        have hload4 : w6.cell? (ad4.add k) = some (.int .u64 (fp (W (szN n) b (k + 1)))) := by
          rw [hcl4 k (by rw [Hpl.out]; exact hlt), hp4.out, S_rd hlt]
        have Hl4 := Lib.hid hload4
        have hr5' := Kd.C_below hr5 hG
        clear hcl4 hwin hload4 hpl5'
        go_wp2_with fail
        refine (window_c _ hr5' hq5 (by rw [hp5.out]; exact prefS_pos b) (by rw [Hpl5.out]; omega) Hwin.out).mono ?_
        rintro e w7 ⟨rfl, hd7⟩
        have hG7 := stepB hG hd7.below
        have l7 : w7.cell? (ad4.add k) = some (.int .u64 (fp (W (szN n) b (k + 1)))) := by
          rw [hG7.cell (p := ad4.add k) (by rw [add_block]; exact had4)]
          exact Hl4.out
        go_wp2_with fail
        go_roundw
        case rel => exact ⟨k + 1, by omega, by go_num, hG7⟩
        case measure => simp [intOf]; omega
      · obtain rfl : k = b.length := by omega
        go_wp2_with fail
        go_ret
        exact ⟨rfl, HB⟩
end Go.Proofs.Ytljnjhfikbhiaaa.Walk
