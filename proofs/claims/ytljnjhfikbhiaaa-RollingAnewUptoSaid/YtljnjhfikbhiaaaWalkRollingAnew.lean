/- The walk of RollingAnew: a roller that was reset returns for any bytes what a new one returns (arguments of bulk at most 1048576). -/
import Derived.Test.YtljnjhfikbhiaaaRlaw
import Derived.Test.YtljnjhfikbhiaaaGRollingAnew
import Derived.Deep.RegionHeld3
import Derived.Lib.Hide
import Derived.Deep.DeepMust
namespace Go.Proofs.Ytljnjhfikbhiaaa.Walk
open Go.RowKit Go.Proofs.Ytljnjhfikbhiaaa.P Go.Proofs.Ytljnjhfikbhiaaa.Fp Go.Proofs.Ytljnjhfikbhiaaa.FM Go.Proofs.Ytljnjhfikbhiaaa.Roll Go.Proofs.YtljnjhfikbhiaaaW.PrintWords Go.Proofs.YtljnjhfikbhiaaaW.PrintLast
set_option linter.unusedVariables false
set_option maxHeartbeats 4000000 in
set_option maxRecDepth 100000 in
theorem RollingAnew : Goal.RollingAnew := by
  intro n A c a B d b w0 hn0 hra hca hna hwa hrb hcb hnb hwb
  have Ha := Lib.hid (IsBytes.of_wf hwa)
  have Hb := Lib.hid (IsBytes.of_wf hwb)
  have hi := wf_i64 hn0
  clear hwa hwb hn0
  have s1 := szN_1 n
  have s2 := szN_2 n
  go_enter Try.func6, Try.ntmps6
  have B0 := Below.refl w0.heap.size w0
  go_wp2_with fail
  refine (size_c n _ hi).mono ?_
  rintro e w1 ⟨rfl, hd1⟩
  have hb1 := hd1.below
  clear hd1
  have B1 := stepB (by repeat (first | exact B0 | apply below_alloc)) hb1
  obtain ⟨c1, f1⟩ := bcell hb1
  have z1 := hb1.size
  try simp only [World.size_alloc] at c1 f1 z1
  try have z1_0_0 : w0.heap.size < w1.heap.size := by omega
  try have z1_0_1 : w0.heap.size + 1 < w1.heap.size := by omega
  try have z1_0_2 : w0.heap.size + 2 < w1.heap.size := by omega
  clear hb1
  go_wp2_with fail
  refine (pushed_c (szN n) _ (Kd.C_below hra B1) hca Ha.out (by omega) s1 s2).mono ?_
  rintro e w2 ⟨rfl, hR2, hb2⟩
  have HR2 := Lib.hid hR2
  have HR2lt := hR2.lt
  have B2 := stepB B1 hb2
  clear hR2 hb2
  go_wp2_with fail
  refine (size_c n _ hi).mono ?_
  rintro e w3 ⟨rfl, hd3⟩
  have HR3 := Lib.hid (HR2.out.below hd3.below)
  have HR3lt := HR3.out.lt
  have B3 := stepB B2 hd3.below
  clear hd3 HR2
  go_wp2_with fail
  refine (sums_f (szN n) _ (Kd.C_below hrb B3) hcb Hb.out (by omega) s1 s2).mono ?_
  rintro e w4 ⟨A4, c4, p4, rfl, hp4, hq4, hr4, hb4, hA4⟩
  have B4 := stepB B3 hb4
  have HR4 := Lib.hid (HR3.out.below hb4)
  have hpl : p4.length = b.length := by rw [hp4.out, S_length]
  clear HR3 hb4
  go_wp2_with fail
  refine (Roll.known_c _).mono ?_
  rintro e w5 ⟨rfl, hb5⟩
  have B5 := stepB B4 hb5
  have HR5 := Lib.hid (HR4.out.below hb5)
  have hr5 := Kd.C_below hr4 hb5
  clear HR4 hb5 hr4
  go_wp2_with fail
  refine (reset_m _ _ _ _ HR5.out).mono ?_
  rintro e w6 ⟨rfl, hR6, hg6⟩
  have g5 := HR5.out.lt
  go_wp2_with fail
  have g1 := HR5.out.lt
  have B6 := B5.grown hg6 B5.size (fun g hg => by cases hg; exact B1.size)
  have HR6 := Lib.hid hR6
  have hA : ∀ ad, A4 = some ad → w1.heap.size < ad.block := fun ad ha => by
    have := hA4 ad ha
    have := HR3lt
    omega
  go_loopw [10] (fun i wr => ∃ k : Nat, k ≤ b.length ∧ i = .int .i64 k ∧ Ro wr w1.heap.size (szN n) (W (szN n) b k) ∧ w5.grownBy wr (some w1.heap.size)) (fun i _ => b.length - (intOf i).toNat)
  case atStart => exact ⟨0, Nat.zero_le _, rfl, by rw [W_zero]; exact HR6.out, hg6⟩
  case round =>
    obtain ⟨k, hk, rfl, hR, hG⟩ := hrel
    have hR := Lib.hid hR
    have HB : Below w0.heap.size w0 wr := B5.grown hG B5.size (fun g hg => by cases hg; exact B1.size)
    by_cases hlt : k < b.length
    · obtain ⟨ad, rfl, had, hcl⟩ := C_cells hrb (by omega)
      have hload : wr.cell? (ad.add k) = some (.int .u8 (rd b k)) := by
        rw [HB.cell (p := ad.add k) (by rw [add_block]; exact had)]
        exact hcl k hlt
      obtain ⟨ad4, rfl, had4, hcl4⟩ := C_cells hr5 (by rw [hpl]; omega)
      have hA' := hA ad4 rfl
      have hload4 : wr.cell? (ad4.add k) = some (.int .u64 (fp (W (szN n) b (k + 1)))) := by
        rw [hG.cell_far (ad4.add k) (by rw [add_block]; exact had4) (by rw [add_block]; simp; omega), hcl4 k (by rw [hpl]; exact hlt), hp4.out, S_rd hlt]
      clear hcl hcl4
      have hx := rd_byte Hb.out (i := (k : Int)) (by omega) (by omega)
      have B1s := B1.size
      have ne1 : ad.block ≠ w1.heap.size := by omega
      have ne4 : ad4.block ≠ w1.heap.size := by omega
      have n1 : ad.block < wr.heap.size := by have := World.block_lt_of_cell? _ _ hload; rwa [add_block] at this
      have n4 : ad4.block < wr.heap.size := by have := World.block_lt_of_cell? _ _ hload4; rwa [add_block] at this
      go_wp2_with fail
      go_region_held3 (fun w' => w'.cell? (ad.add k) = some (.int .u8 (rd b k)) ∧ w'.cell? (ad4.add k) = some (.int .u64 (fp (W (szN n) b (k + 1))))) (go_keep) (first | (go_at_call 23; go_must (refine (push_c _ _ _ _ _ hx (by first | exact hR.out | exact hR.out.move rfl)).mono ?_); rintro e w7 ⟨rfl, hR7, hg7⟩; rw [W_succ s1 hlt] at *; have hR7 := Lib.hid hR7; have l7 : w7.cell? (ad.add k) = some (.int .u8 (rd b k)) := (by rw [hg7.cell_far (ad.add k) (by rw [add_block]; exact n1) (by rw [add_block]; simp; omega)]; exact hload); have l8 : w7.cell? (ad4.add k) = some (.int .u64 (fp (W (szN n) b (k + 1)))) := (by rw [hg7.cell_far (ad4.add k) (by rw [add_block]; exact n4) (by rw [add_block]; simp; omega)]; exact hload4)))
      all_goals go_wp2_with fail
      all_goals go_roundw
      case rel => exact ⟨k + 1, by omega, by go_num, hR7.out, Go.Lib.grownBy_trans hG ⟨hg7.os, hg7.tape, hg7.output, hg7.size, hg7.block⟩⟩
      case measure => simp [intOf]; omega
    · obtain rfl : k = b.length := by omega
      go_wp2_with fail
      go_ret
      exact ⟨rfl, HB⟩
end Go.Proofs.Ytljnjhfikbhiaaa.Walk
