/- The walk of RollingForgets: rollers that got the same bytes last agree, whatever was pushed ahead of them (arguments of bulk at most 1048576). -/
import Derived.Test.YtljnjhfikbhiaaaRlaw
import Derived.Test.YtljnjhfikbhiaaaGRollingForgets
import Derived.Deep.RegionHeld3
import Derived.Lib.Hide
import Derived.Deep.DeepMust
namespace Go.Proofs.Ytljnjhfikbhiaaa.Walk
open Go.RowKit Go.Proofs.Ytljnjhfikbhiaaa.P Go.Proofs.Ytljnjhfikbhiaaa.Fp Go.Proofs.Ytljnjhfikbhiaaa.FM Go.Proofs.Ytljnjhfikbhiaaa.Roll Go.Proofs.YtljnjhfikbhiaaaW.PrintWords Go.Proofs.YtljnjhfikbhiaaaW.PrintLast
set_option linter.unusedVariables false
theorem W_tail {n : Nat} {a t : List Int} (h : n ≤ t.length) : W n (a ++ t) (a ++ t).length = t.drop (t.length - n) := by
  rw [W, List.take_length, List.length_append, show a.length + t.length - n = a.length + (t.length - n) by omega, List.drop_append, List.drop_of_length_le (by omega), List.nil_append]
  congr 1
  omega
set_option maxHeartbeats 4000000 in
set_option maxRecDepth 100000 in
theorem RollingForgets : Goal.RollingForgets := by
  intro n A c a B d b T e t w0 hn0 hra hca hna hwa hrb hcb hnb hwb hrt hct hnt hwt
  have Ha := Lib.hid (IsBytes.of_wf hwa)
  have Hb := Lib.hid (IsBytes.of_wf hwb)
  have Ht := Lib.hid (IsBytes.of_wf hwt)
  have hi := wf_i64 hn0
  clear hwa hwb hwt hn0
  have s1 := szN_1 n
  have s2 := szN_2 n
  go_enter Try.func5, Try.ntmps5
  by_cases hs : t.length < szN n
  · have hs' : (t.length : Int) < (szN n : Int) := by omega
    have B0 := Below.refl w0.heap.size w0
    go_wp2_with fail
    refine (size_c n _ hi).mono ?_
    rintro e w1 ⟨rfl, hd1⟩
    have hb1 := hd1.below
    clear hd1
    have B1 := stepB (by repeat (first | exact B0 | apply below_alloc)) hb1
    obtain ⟨c1, f1⟩ := bcell hb1
    have z1 := hb1.size
    try simp only [World.size_alloc] at c1 f1 z1
    try have z1_0_0 : w0.heap.size < w1.heap.size := by omega
    try have z1_0_1 : w0.heap.size + 1 < w1.heap.size := by omega
    try have z1_0_2 : w0.heap.size + 2 < w1.heap.size := by omega
    clear hb1
    go_wp2_with fail
    go_ret
    exact ⟨rfl, by repeat (first | exact B1 | apply below_alloc | apply below_drew)⟩
  · have hs' : ¬ (t.length : Int) < (szN n : Int) := by omega
    have B0 := Below.refl w0.heap.size w0
    go_wp2_with fail
    refine (size_c n _ hi).mono ?_
    rintro e w1 ⟨rfl, hd1⟩
    have hb1 := hd1.below
    clear hd1
    have B1 := stepB (by repeat (first | exact B0 | apply below_alloc)) hb1
    obtain ⟨c1, f1⟩ := bcell hb1
    have z1 := hb1.size
    try simp only [World.size_alloc] at c1 f1 z1
    try have z1_0_0 : w0.heap.size < w1.heap.size := by omega
    try have z1_0_1 : w0.heap.size + 1 < w1.heap.size := by omega
    try have z1_0_2 : w0.heap.size + 2 < w1.heap.size := by omega
    clear hb1
    go_wp2_with fail
    have hl2 : IsBytes [a, t].flatten := by simp only [List.flatten_cons, List.flatten_nil, List.append_nil]; exact IsBytes.append Ha.out Ht.out
    have hf2 : [a, t].flatten = a ++ t := by simp
    have hn2 : [a, t].flatten.length < 140737488355328 := by rw [hf2, List.length_append]; omega
    refine (joined_r (A := some ⟨w1.heap.size, 0, none⟩) (c := 2) (L := [a, t]) (w1.alloc (.cells #[.slice A a.length c, .slice T t.length e] 22)) (two_C (cell_new _ _ _ _ 0) (cell_new _ _ _ _ 1) hca hct (Kd.C_below hra (below_alloc B1 _)) (Kd.C_below hrt (below_alloc B1 _))) (Nat.le_refl _) hn2 (by simp)).mono ?_
    rintro e2 w2 ⟨A2, d2, l2, rfl, q2, hc2, hr2, hb2⟩
    have hll2 : IsBytes l2 := by rw [q2.out]; exact hl2
    have hlq2 : l2 = a ++ t := by rw [q2.out, hf2]
    have hln2 : l2.length ≤ 140737488351232 := by rw [hlq2, List.length_append]; omega
    have Hll2 := Lib.hid hll2
    have Hlq2 := Lib.hid hlq2
    have B2 := stepB (below_alloc B1 _) hb2
    have hb2' := stepB ((Below.refl w1.heap.size w1).alloc (Nat.le_refl _) _) hb2
    clear hl2 hf2 hn2 hll2 hlq2 q2 hb2
    go_wp2_with fail
    refine (pushed_c (szN n) _ hr2 hc2 Hll2.out (by omega) s1 s2).mono ?_
    rintro e3 w3 ⟨rfl, hR3, hb3⟩
    rw [Hlq2.out, W_tail (by omega)] at hR3
    have HR3 := Lib.hid hR3
    have B3 := stepB B2 hb3
    clear hR3
    go_wp2_with fail
    clear hb3
    have hl4 : IsBytes [b, t].flatten := by simp only [List.flatten_cons, List.flatten_nil, List.append_nil]; exact IsBytes.append Hb.out Ht.out
    have hf4 : [b, t].flatten = b ++ t := by simp
    have hn4 : [b, t].flatten.length < 140737488355328 := by rw [hf4, List.length_append]; omega
    refine (joined_r (A := some ⟨w3.heap.size, 0, none⟩) (c := 2) (L := [b, t]) (w3.alloc (.cells #[.slice B b.length d, .slice T t.length e] 22)) (two_C (cell_new _ _ _ _ 0) (cell_new _ _ _ _ 1) hcb hct (Kd.C_below hrb (below_alloc B3 _)) (Kd.C_below hrt (below_alloc B3 _))) (Nat.le_refl _) hn4 (by simp)).mono ?_
    rintro e4 w4 ⟨A4, d4, l4, rfl, q4, hc4, hr4, hb4⟩
    have hll4 : IsBytes l4 := by rw [q4.out]; exact hl4
    have hlq4 : l4 = b ++ t := by rw [q4.out, hf4]
    have hln4 : l4.length ≤ 140737488351232 := by rw [hlq4, List.length_append]; omega
    have Hll4 := Lib.hid hll4
    have Hlq4 := Lib.hid hlq4
    have B4 := stepB (below_alloc B3 _) hb4
    have hb4' := stepB ((Below.refl w3.heap.size w3).alloc (Nat.le_refl _) _) hb4
    clear hl4 hf4 hn4 hll4 hlq4 q4 hb4
    go_wp2_with fail
    refine (pushed_c (szN n) _ hr4 hc4 Hll4.out (by omega) s1 s2).mono ?_
    rintro e5 w5 ⟨rfl, hR5, hb5⟩
    rw [Hlq4.out, W_tail (by omega)] at hR5
    have HR5 := Lib.hid hR5
    have B5 := stepB B4 hb5
    clear hR5
    go_wp2_with fail
    have HR6 := Lib.hid ((HR3.out.below hb4').below hb5)
    have hL : (t.drop (t.length - szN n)).length = szN n := by rw [List.length_drop]; omega
    have HL := Lib.hid hL
    clear HR3 hb4' hb5 hL
    refine (Roll.known_c _).mono ?_
    rintro e6 w6 ⟨rfl, hb6⟩
    have B6 := stepB B5 hb6
    have HRr := Lib.hid (HR6.out.below hb6)
    have HRs := Lib.hid (HR5.out.below hb6)
    clear hb6
    go_wp2_with fail
    refine (sum_m _ _ _ _ HRr.out).mono ?_
    rintro e7 w7 ⟨rfl, rfl⟩
    go_wp2_with fail
    refine (sum_m _ _ _ _ HRs.out).mono ?_
    rintro e8 w8 ⟨rfl, rfl⟩
    go_wp2_with fail
    refine (len_m _ _ _ _ HRr.out).mono ?_
    rintro e9 w9 ⟨rfl, rfl⟩
    rw [HL.out]
    go_wp2_with fail
    refine (len_m _ _ _ _ HRs.out).mono ?_
    rintro e10 w10 ⟨rfl, rfl⟩
    rw [HL.out]
    go_wp2_with fail
    go_ret
    exact ⟨by simp, B6⟩
end Go.Proofs.Ytljnjhfikbhiaaa.Walk
