/- The walk of RollingWide: a window as long as the string has the fingerprint of the whole string. -/
import Derived.Test.YtljnjhfikbhiaaaRlaw
import Derived.Test.YtljnjhfikbhiaaaGRollingWide
import Derived.Deep.RegionHeld3
import Derived.Lib.Hide
import Derived.Deep.DeepMust
namespace Go.Proofs.Ytljnjhfikbhiaaa.Walk
open Go.RowKit Go.Proofs.Ytljnjhfikbhiaaa.P Go.Proofs.Ytljnjhfikbhiaaa.Fp Go.Proofs.Ytljnjhfikbhiaaa.FM Go.Proofs.Ytljnjhfikbhiaaa.Roll Go.Proofs.YtljnjhfikbhiaaaW.PrintWords Go.Proofs.YtljnjhfikbhiaaaW.PrintLast
set_option linter.unusedVariables false
set_option maxHeartbeats 4000000 in
set_option maxRecDepth 100000 in
theorem RollingWide : Goal.RollingWide := by
  intro A c b w0 hr hc hn hw
  have Hb := Lib.hid (IsBytes.of_wf hw)
  clear hw
  by_cases h1 : b.length = 0 ∨ 64 < b.length
  · have hd : (b.length : Int) = 0 ∨ (64 : Int) < b.length := by omega
    go_enter Try.func7, Try.ntmps7
    rcases hd with hd | hd
    · go_wp2_with fail
      go_ret
      exact ⟨rfl, Below.refl _ _⟩
    · have hd' : ((b.length : Int) == 0) = false := by simp only [beq_eq_false_iff_ne]; omega
      go_wp2_with fail
      go_ret
      exact ⟨rfl, Below.refl _ _⟩
  · have e1 : ((b.length : Int) == 0) = false := by simp only [beq_eq_false_iff_ne]; omega
    have e2 : ¬ (64 : Int) < b.length := by omega
    have q0 : 0 < b.length := by omega
    have B0 := Below.refl w0.heap.size w0
    go_enter Try.func7, Try.ntmps7
    go_wp2_with fail
    refine (sums_c b.length _ hr hc Hb.out (by omega) (by omega) (by omega)).mono ?_
    rintro e w1 ⟨A1, c1, p1, rfl, hp1, hq1, hr1, hb1⟩
    have B1 := stepB B0 hb1
    have hpl : p1.length = b.length := by rw [hp1.out, S_length]
    obtain ⟨ad, rfl, had, hcl⟩ := C_cells hr1 (by omega)
    have l1 : w1.cell? (ad.add (b.length - 1)) = some (.int .u64 (fp b)) := by
      rw [hcl (b.length - 1) (by omega), hp1.out, S_rd (by omega), show b.length - 1 + 1 = b.length by omega, W_wide (Nat.le_refl _), List.take_length]
    have e3 : IntKind.i64.wrap ((b.length : Int) - 1) = ((b.length - 1 : Nat) : Int) := by rw [IntWalk.i64_in _ (by omega)]; omega
    have q3 : (0 : Int) ≤ ((b.length - 1 : Nat) : Int) := by omega
    have q4 : ((b.length - 1 : Nat) : Int) < (b.length : Int) := by omega
    rw [hpl]
    clear hcl hp1 hq1 hr1 hpl hb1
    go_wp2_with fail
    go_region_held3 (fun w' => w'.cell? (ad.add (b.length - 1)) = some (.int .u64 (fp b))) (go_keep) (first | (go_at_call 14; refine (Roll.known_c _).mono ?_; rintro e w2 ⟨rfl, hb2⟩; obtain ⟨c2, f2⟩ := bcell hb2; have B2 := stepB (by repeat (first | exact B1 | apply below_alloc | apply below_drew)) hb2; have l2 : w2.cell? (ad.add (b.length - 1)) = some (.int .u64 (fp b)) := (by rw [hb2.cell (p := ad.add (b.length - 1)) (by rw [add_block]; first | exact had | simpa using had)]; first | exact l1 | simpa using l1); clear hb2 c2 f2) | (go_at_call 24; go_must (refine (sum_c _ (Kd.C_below hr B2) hc Hb.out (by omega)).mono ?_); rintro e w3 ⟨rfl, hd3⟩; have hb3 := hd3.below; have l3 : w3.cell? (ad.add (b.length - 1)) = some (.int .u64 (fp b)) := (by rw [hb3.cell (p := ad.add (b.length - 1)) (World.block_lt_of_cell? _ _ l2)]; exact l2); have B3 := stepB B2 hb3; clear hb3 hd3))
    all_goals go_wp2_with fail
    all_goals go_ret
    all_goals exact ⟨by simp, B3⟩
end Go.Proofs.Ytljnjhfikbhiaaa.Walk
