/- The walk of RollingWindow: the fingerprint of the window is the fingerprint of the last bytes pushed. -/
import Derived.Test.YtljnjhfikbhiaaaRlaw
import Derived.Test.YtljnjhfikbhiaaaGRollingWindow
import Derived.Deep.RegionHeld3
import Derived.Lib.Hide
import Derived.Deep.DeepMust
namespace Go.Proofs.Ytljnjhfikbhiaaa.Walk
open Go.RowKit Go.Proofs.Ytljnjhfikbhiaaa.P Go.Proofs.Ytljnjhfikbhiaaa.Fp Go.Proofs.Ytljnjhfikbhiaaa.FM Go.Proofs.Ytljnjhfikbhiaaa.Roll Go.Proofs.YtljnjhfikbhiaaaW.PrintWords Go.Proofs.YtljnjhfikbhiaaaW.PrintLast
set_option linter.unusedVariables false
set_option maxHeartbeats 4000000 in
set_option maxRecDepth 100000 in
theorem RollingWindow : Goal.RollingWindow := by
  intro n A c b w0 hn0 hr hc hn hw
  have Hb := Lib.hid (IsBytes.of_wf hw)
  have hi := wf_i64 hn0
  clear hw hn0
  have s1 := szN_1 n
  have s2 := szN_2 n
  have B0 := Below.refl w0.heap.size w0
  go_enter Try.func9, Try.ntmps9
  go_wp2_with fail
  refine (size_c n _ hi).mono ?_
  rintro e w1 ⟨rfl, hd1⟩
  have hb1 := hd1.below
  clear hd1
  have B1 := stepB (by repeat (first | exact B0 | apply below_alloc)) hb1
  obtain ⟨c1, f1⟩ := bcell hb1
  have z1 := hb1.size
  try simp only [World.size_alloc] at c1 f1 z1
  try have z1_0_0 : w0.heap.size < w1.heap.size := by omega
  try have z1_0_1 : w0.heap.size + 1 < w1.heap.size := by omega
  try have z1_0_2 : w0.heap.size + 2 < w1.heap.size := by omega
  clear hb1
  go_wp2_with fail
  refine (pushed_c (szN n) _ (Kd.C_below hr B1) hc Hb.out (by omega) s1 s2).mono ?_
  rintro e w2 ⟨rfl, hR2, hb2⟩
  have HR2 := Lib.hid hR2
  have B2 := stepB B1 hb2
  clear hR2 hb2
  go_wp2_with fail
  refine (size_c n _ hi).mono ?_
  rintro e w3 ⟨rfl, hd3⟩
  have hb3 := hd3.below
  have B3 := stepB B2 hb3
  have hR3 := HR2.out.below hb3
  have HR3 := Lib.hid hR3
  clear hR3 hb3 hd3 HR2
  go_wp2_with fail
  have em : max 0 ((b.length : Int) - (szN n : Int)) = ((b.length - szN n : Nat) : Int) := by omega
  rw [em]
  have eW : (W (szN n) b b.length).length = b.length - (b.length - szN n) := by rw [W_length (Nat.le_refl _)]; omega
  have EW := Lib.hid eW
  clear em eW
  obtain ⟨i5, hi5, hz5, hs5, hy5⟩ := info_parts infoB
  obtain ⟨A6, c6, l6, e6, hc6, hr6, hcut⟩ := cut_f (Kd.int .u8) 22 5 Try.underlying22 hi5 hs5 A c b (b.length - szN n) (by omega) hc
  have hl6 : IsBytes l6 := by rw [e6.out]; exact fun x hx => Hb.out x (List.mem_of_mem_drop hx)
  have n6 : l6.length ≤ 140737488351232 := by rw [e6.out, List.length_drop]; omega
  have eI : IntKind.i64.wrap ((b.length : Int) - ((b.length - szN n : Nat) : Int)) = ((b.length - (b.length - szN n) : Nat) : Int) := by rw [IntWalk.i64_in _ (by omega)]; omega
  have Hl6 := Lib.hid hl6
  have g2 := HR3.out.lt
  clear hl6 hi5 hz5 hs5 hy5
  go_region_held3 (fun w' => True) (trivial) (first | (go_at_call 14; refine (Roll.known_c _).mono ?_; rintro e w4 ⟨rfl, hb4⟩; have B4 := stepB (by repeat (first | exact B3 | apply below_alloc | apply below_drew)) hb4; have HR4 := Lib.hid (Ro.below (w := _) (by first | exact HR3.out | exact HR3.out.move rfl) hb4); clear hb4) | (go_at_call 18; go_must (refine (len_m _ _ _ _ HR4.out).mono ?_); rintro e w5 ⟨rfl, rfl⟩; try rw [EW.out]) | (go_at_call 19; go_must (refine (sum_m _ _ _ _ HR4.out).mono ?_); rintro e w5 ⟨rfl, rfl⟩) | (go_at_call 24; go_must (refine (sum_c _ (hr6 _ (Kd.C_below hr B4)) hc6 Hl6.out (by omega)).mono ?_); rintro e w7 ⟨rfl, hd7⟩; have B7 := stepB B4 hd7.below))
  all_goals go_wp2_with fail
  all_goals go_ret
  all_goals refine ⟨?_, B7⟩
  all_goals rw [e6.out]
  all_goals simp [W]
end Go.Proofs.Ytljnjhfikbhiaaa.Walk
