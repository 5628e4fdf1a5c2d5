/- The walk of RollingSizes: New and Sums accept exactly the sizes from 1 to MaxWindow (arguments of bulk at most 1048576). -/
import Derived.Test.YtljnjhfikbhiaaaRlaw
import Derived.Test.YtljnjhfikbhiaaaGRollingSizes
import Derived.Deep.RegionHeld3
import Derived.Lib.Hide
import Derived.Deep.DeepMust
namespace Go.Proofs.Ytljnjhfikbhiaaa.Walk
open Go.RowKit Go.Proofs.Ytljnjhfikbhiaaa.P Go.Proofs.Ytljnjhfikbhiaaa.Fp Go.Proofs.Ytljnjhfikbhiaaa.FM Go.Proofs.Ytljnjhfikbhiaaa.Roll Go.Proofs.YtljnjhfikbhiaaaW.PrintWords Go.Proofs.YtljnjhfikbhiaaaW.PrintLast
set_option linter.unusedVariables false
set_option maxHeartbeats 4000000 in
set_option maxRecDepth 100000 in
theorem rnew_ok (n : Int) (w0 : World) (h1 : 1 ≤ n) (h2 : n ≤ 64) : Calls Try.prog 17 #[.int .i64 n] w0 fun e w' => e = .returned (.tuple #[.agg #[.int .i64 n, .slice none 0 0], .int .i64 0]) ∧ Below w0.heap.size w0 w' := by
  have q1 : ¬ n < 1 := by omega
  have q2 : ¬ 64 < n := by omega
  go_enter Try.func17, Try.ntmps17
  go_wp2_with fail
  exact bodyPost_ret (v := .tuple #[.agg #[.int .i64 n, .slice none 0 0], .int .i64 0]) (by simp [results, Try.results17, go_sem]) rfl ⟨rfl, by repeat (first | exact Below.refl _ _ | apply below_alloc)⟩
set_option maxHeartbeats 4000000 in
set_option maxRecDepth 100000 in
theorem rnew_no (n : Int) (w0 : World) (h : n < 1 ∨ 64 < n) : Calls Try.prog 17 #[.int .i64 n] w0 fun e w' => e = .returned (.tuple #[.agg #[.int .i64 0, .slice none 0 0], .int .i64 230]) ∧ Below w0.heap.size w0 w' := by
  go_enter Try.func17, Try.ntmps17
  rcases h with h | h
  · go_wp2_with fail
    exact bodyPost_ret (v := .tuple #[.agg #[.int .i64 0, .slice none 0 0], .int .i64 230]) (by simp [results, Try.results17, go_sem]) rfl ⟨rfl, by repeat (first | exact Below.refl _ _ | apply below_alloc)⟩
  · have q1 : ¬ n < 1 := by omega
    go_wp2_with fail
    exact bodyPost_ret (v := .tuple #[.agg #[.int .i64 0, .slice none 0 0], .int .i64 230]) (by simp [results, Try.results17, go_sem]) rfl ⟨rfl, by repeat (first | exact Below.refl _ _ | apply below_alloc)⟩
set_option maxHeartbeats 4000000 in
set_option maxRecDepth 100000 in
theorem RollingSizes : Goal.RollingSizes := by
  intro n B d b w0 hn0 hrb hcb hnb hwb
  have Hb := Lib.hid (IsBytes.of_wf hwb)
  have hi := wf_i64 hn0
  clear hwb hn0
  go_enter Try.func4, Try.ntmps4
  by_cases hs : n < 1 ∨ 64 < n
  · go_wp2_with fail
    refine (new_no n _ hs).mono ?_
    rintro e w1 ⟨rfl, rfl⟩
    go_wp2_with fail
    refine (sums_no n _ hs).mono ?_
    rintro e w2 ⟨rfl, rfl⟩
    go_wp2_with fail
    refine (rnew_no n _ hs).mono ?_
    rintro e w3 ⟨rfl, hb3⟩
    have B3 := stepB (Below.refl _ _) hb3
    go_wp2_with fail
    refine (Roll.known_c _).mono ?_
    rintro e w4 ⟨rfl, hb4⟩
    have B4 := stepB (below_alloc B3 _) hb4
    go_wp2_with fail
    go_ret
    exact ⟨rfl, B4⟩
  · obtain ⟨m, rfl⟩ : ∃ m : Nat, n = (m : Int) := ⟨n.toNat, by omega⟩
    go_wp2_with fail
    refine (new_ok m _ (by omega) (by omega)).mono ?_
    rintro e w1 ⟨rfl, hR1, hb1, hs1⟩
    have B1 := stepB (Below.refl _ _) hb1
    have HR1 := Lib.hid hR1
    clear hR1
    go_wp2_with fail
    refine (sums_c m _ (Kd.C_below hrb B1) hcb Hb.out (by omega) (by omega) (by omega)).mono ?_
    rintro e w2 ⟨A2, c2, p2, rfl, hp2, hq2, hr2, hb2⟩
    have B2 := stepB B1 hb2
    have HR2 := Lib.hid (HR1.out.below hb2)
    have hpl : (p2.length : Int) = (b.length : Int) := by rw [hp2.out, S_length]
    go_wp2_with fail
    refine (rnew_ok (m : Int) _ (by omega) (by omega)).mono ?_
    rintro e w3 ⟨rfl, hb3⟩
    have B3 := stepB B2 hb3
    have HR3 := Lib.hid (HR2.out.below hb3)
    clear hb1 hb2 hb3 HR1 HR2
    go_wp2_with fail
    refine (Roll.known_c _).mono ?_
    rintro e w4 ⟨rfl, hb4⟩
    have B4 := stepB (below_alloc B3 _) hb4
    have HR4 := Lib.hid (Ro.below (w := _) (HR3.out.below ((Below.refl _ _).alloc (Nat.le_refl _) _)) hb4)
    go_wp2_with fail
    refine (len_m _ _ _ _ HR4.out).mono ?_
    rintro e w5 ⟨rfl, rfl⟩
    go_wp2_with fail
    refine (sum_m _ _ _ _ HR4.out).mono ?_
    rintro e w6 ⟨rfl, rfl⟩
    go_wp2_with fail
    go_ret
    exact ⟨by simp [show fp [] = 0 from rfl], B4⟩
end Go.Proofs.Ytljnjhfikbhiaaa.Walk
