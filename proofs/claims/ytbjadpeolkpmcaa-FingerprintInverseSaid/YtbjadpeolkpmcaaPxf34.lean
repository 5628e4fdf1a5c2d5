-- Printed by a program (pr.py over the kit's print) out of the translation.
import Derived.Test.YtbjadpeolkpmcaaPx0
import Derived.Test.YtbjadpeolkpmcaaPxf16
import Derived.Test.YtbjadpeolkpmcaaPxf25
import Derived.Test.YtbjadpeolkpmcaaPxf38
import Derived.Test.YtbjadpeolkpmcaaPxf41
namespace Go.Proofs.Ytbjadpeolkpmcaa.P
open Go.RowKit Go.Proofs.YtbjadpeolkpmcaaW.PrintWords Go.Proofs.YtbjadpeolkpmcaaW.PrintLast Go.Proofs.YtbjadpeolkpmcaaW.PrintMore
attribute [local go_sem] max2_int min2_int max_two min_two max_three min_three max_four min_four   -- for this text's walks alone
set_option linter.unusedVariables false
set_option linter.unusedSimpArgs false

/-! ### stockyardref22_Rest: function 34 -/
def stockyardref22_Rest.j0 : Nat → Bool → Int → Int → Int → Int → Option (Int × Int × Int)
  | 0, _, _, _, _, _ => none
  | k + 1, x15, x311000, x311001, x312000, x312001 => if x15 = true then (some (0, 0, 220)) else (if (wrap64 (x311001 - x312001)) < 0 then (some (0, 0, 221)) else ((stockyardref22_Power.f k (wrap64 (x311001 - x312001))).bind fun t315 => ((stockyardref22_Mul.f x312000 t315).bind fun t316 => ((stockyardref22_Minus.f x311000 t316).bind fun t317 => (if (wrap64 (x311001 - x312001)) = 0 then (if t317 = 0 then (some (t317, wrap64 (x311001 - x312001), 0)) else (some (0, 0, 220))) else (some (t317, wrap64 (x311001 - x312001), 0)))))))
def stockyardref22_Rest.f (k : Nat) (a0_0 : Int) (a0_1 : Int) (a1_0 : Int) (a1_1 : Int) : Option (Int × Int × Int) := (stockyardref22_Valid.f a0_0 a0_1).bind fun t313 => (if t313 = true then ((stockyardref22_Valid.f a1_0 a1_1).bind fun t314 => (stockyardref22_Rest.j0 k (!t314) a0_0 a0_1 a1_0 a1_1)) else (stockyardref22_Rest.j0 k true a0_0 a0_1 a1_0 a1_1))
theorem stockyardref22_Rest.mono_l : ∀ k, (∀ y0 y1 y2 y3 y4, LeO (stockyardref22_Rest.j0 k y0 y1 y2 y3 y4) (stockyardref22_Rest.j0 (k + 1) y0 y1 y2 y3 y4))
  | 0 => fun _ _ _ _ _ r h => by simp [stockyardref22_Rest.j0] at h
  | k + 1 => by
    have ih0 := stockyardref22_Rest.mono_l k
    · intro y0 y1 y2 y3 y4
      unfold stockyardref22_Rest.j0
      repeat' first
      | (with_reducible exact ih0 _ _ _ _ _)
      | (with_reducible exact stockyardref22_Power.mono _ _)
      | (with_reducible exact LeO.refl _)
      | (with_reducible exact LeO.none _)
      | (with_reducible refine LeO.ite ?_ ?_)
      | (with_reducible refine LeO.bind ?_ (fun _ => ?_))
      | exact ih0 _ _ _ _ _
      | exact stockyardref22_Power.mono _ _
      | exact LeO.none _
      | refine LeO.ite ?_ ?_
      | refine LeO.bind ?_ (fun _ => ?_)
theorem stockyardref22_Rest.mono : ∀ a0 a1 a2 a3 k, LeO (stockyardref22_Rest.f k a0 a1 a2 a3) (stockyardref22_Rest.f (k + 1) a0 a1 a2 a3) := by
  intro a0 a1 a2 a3 k
  have ih0 := stockyardref22_Rest.mono_l k
  unfold stockyardref22_Rest.f
  repeat' first
      | (with_reducible exact ih0 _ _ _ _ _)
      | (with_reducible exact stockyardref22_Power.mono _ _)
      | (with_reducible exact LeO.refl _)
      | (with_reducible exact LeO.none _)
      | (with_reducible refine LeO.ite ?_ ?_)
      | (with_reducible refine LeO.bind ?_ (fun _ => ?_))
      | exact ih0 _ _ _ _ _
      | exact stockyardref22_Power.mono _ _
      | exact LeO.none _
      | refine LeO.ite ?_ ?_
      | refine LeO.bind ?_ (fun _ => ?_)
def stockyardref22_Rest.T6 : Bool × List (List Nat × List Nat) := (true, [([], []), ([0], [0]), ([], []), ([2], [2]), ([], []), ([4], [4]), ([3, 5, 5], [3, 5]), ([1, 6, 6], [1, 6]), ([], []), ([7, 8], [7, 8]), ([], []), ([10, 9, 7, 0, 1, 2, 3, 4, 5, 6, 7, 8, 9, 10], [9, 10])])
def stockyardref22_Rest.B6 : List Nat := [0, 1, 0, 4, 0, 16, 60, 127, 0, 511, 0, 2047]
theorem stockyardref22_Rest.tab6 : rtab .any (opsOf Try.f34 6) = stockyardref22_Rest.T6 := by kernel_rfl
theorem stockyardref22_Rest.bits6 : waitsOk stockyardref22_Rest.T6.2 stockyardref22_Rest.B6 = true := by kernel_rfl
set_option maxHeartbeats 8000000 in
set_option maxRecDepth 100000 in
theorem stockyardref22_Rest.calls (k : Nat) (a0_0 : Int) (a0_1 : Int) (a1_0 : Int) (a1_1 : Int) (r1 : Int) (r2 : Int) (r3 : Int) (w : World) (h : stockyardref22_Rest.f k a0_0 a0_1 a1_0 a1_1 = some (r1, r2, r3)) :
    Calls Try.prog 34 #[.agg #[.int .u64 a0_0, .int .i64 a0_1], .agg #[.int .u64 a1_0, .int .i64 a1_1]] w fun e w' => e = .returned (.tuple #[.agg #[.int .u64 r1, .int .i64 r2], .int .i64 r3]) ∧ Below w.heap.size w w' := by
  have hu24 := Try.underlying24
  have HB := Aside0.mk (Below.refl w.heap.size w)
  have H : ((stockyardref22_Valid.f a0_0 a0_1).bind fun t313 => (if t313 = true then ((stockyardref22_Valid.f a1_0 a1_1).bind fun t314 => (stockyardref22_Rest.j0 k (!t314) a0_0 a0_1 a1_0 a1_1)) else (stockyardref22_Rest.j0 k true a0_0 a0_1 a1_0 a1_1))) = some (r1, r2, r3) := h
  clear h
  have HC3 := Aside0.mk H
  clear H
  go_enter Try.func34, Try.ntmps34
  go_upto_region 1 with (first | ((with_reducible refine gate_dst (N := 2) rfl ?_); refine box_event ?hg (N := 2) ?hd (cs := #[.int .u64 a0_0, .int .i64 a0_1]) (t := 24) ?hr ?_; (case hd => rfl); (case hg => rfl); (case hr => first | (go_simp; done) | (go_simp; rfl)); intro gb310 hg w4 hbox hb; have n0_ := Aside0.mk (below_step (by repeat (first | (with_reducible first | exact HB.out | apply below_alloc | apply pw_below_drewN | apply below_drew1) | exact HB.out)) hb); have n1_ := Aside0.mk (hbox); have n2_ := Aside0.mk ((by rw [hg]; exact (below_size (by repeat (first | (with_reducible first | exact HB.out | apply below_alloc | apply pw_below_drewN | apply below_drew1) | exact HB.out))) : w.heap.size ≤ gb310)); have n3_ := Aside0.mk ((by rw [hg]; exact (below_size (by repeat (first | (with_reducible first | exact HB.out | apply below_alloc | apply pw_below_drewN | apply below_drew1) | exact HB.out))) : w.heap.size ≤ gb310)); clear HB; have HB := n0_; have BK310 := n1_; have GW310 := n2_; have GE310 := n3_; clear n0_ n1_ n2_ n3_; clear hb hbox hg) | ((with_reducible refine gate_dst (N := 3) rfl ?_); refine box_event ?hg (N := 3) ?hd (cs := #[.int .u64 a1_0, .int .i64 a1_1]) (t := 24) ?hr ?_; (case hd => rfl); (case hg => rfl); (case hr => first | (go_simp; done) | (go_simp; rfl)); intro gb311 hg w5 hbox hb; have n0_ := Aside0.mk (blk_below (g := gb310) (o := .cells #[.int .u64 a0_0, .int .i64 a0_1] 24 (0, 0)) (by (with_reducible repeat (first | refine blk_drewN ?_ _ | refine blk_drew ?_ | refine blk_alloc ?_ _)); exact BK310.out) hb); have n1_ := Aside0.mk (below_step (by repeat (first | (with_reducible first | exact HB.out | apply below_alloc | apply pw_below_drewN | apply below_drew1 | refine below_set ?_ GE310.out) | exact HB.out)) hb); have n2_ := Aside0.mk (hbox); have n3_ := Aside0.mk ((by rw [hg]; exact (below_size (by repeat (first | (with_reducible first | exact HB.out | apply below_alloc | apply pw_below_drewN | apply below_drew1 | refine below_set ?_ GE310.out) | exact HB.out))) : w.heap.size ≤ gb311)); have n4_ := Aside0.mk ((by rw [hg]; exact (below_size (by repeat (first | (with_reducible first | exact HB.out | apply below_alloc | apply pw_below_drewN | apply below_drew1 | refine below_set ?_ GE310.out) | exact HB.out))) : w.heap.size ≤ gb311)); have n5_ := Aside0.mk ((by rw [hg]; exact Nat.ne_of_lt (blk_lt (g := gb310) (o := .cells #[.int .u64 a0_0, .int .i64 a0_1] 24 (0, 0)) (by (with_reducible repeat (first | refine blk_drewN ?_ _ | refine blk_drew ?_ | refine blk_alloc ?_ _)); exact BK310.out)) : gb310 ≠ gb311)); have n6_ := Aside0.mk ((by rw [hg]; exact Nat.ne_of_gt (blk_lt (g := gb310) (o := .cells #[.int .u64 a0_0, .int .i64 a0_1] 24 (0, 0)) (by (with_reducible repeat (first | refine blk_drewN ?_ _ | refine blk_drew ?_ | refine blk_alloc ?_ _)); exact BK310.out)) : gb311 ≠ gb310)); clear BK310; clear HB; have BK310 := n0_; have HB := n1_; have BK311 := n2_; have GW311 := n3_; have GE311 := n4_; have NB310_311 := n5_; have NB311_310 := n6_; clear n0_ n1_ n2_ n3_ n4_ n5_ n6_; clear hb hbox hg) | ((with_reducible refine gate_dst (N := 4) rfl ?_); refine box_event ?hg (N := 4) ?hd (cs := #[.int .u64 0, .int .i64 0]) (t := 24) ?hr ?_; (case hd => rfl); (case hg => rfl); (case hr => first | (go_simp; done) | (go_simp; rfl)); intro gb312 hg w6 hbox hb; have n0_ := Aside0.mk (blk_below (g := gb310) (o := .cells #[.int .u64 a0_0, .int .i64 a0_1] 24 (0, 0)) (by (with_reducible repeat (first | refine blk_drewN ?_ _ | refine blk_drew ?_ | refine blk_alloc ?_ _)); exact BK310.out) hb); have n1_ := Aside0.mk (blk_below (g := gb311) (o := .cells #[.int .u64 a1_0, .int .i64 a1_1] 24 (0, 0)) (by (with_reducible repeat (first | refine blk_drewN ?_ _ | refine blk_drew ?_ | refine blk_alloc ?_ _)); exact BK311.out) hb); have n2_ := Aside0.mk (below_step (by repeat (first | (with_reducible first | exact HB.out | apply below_alloc | apply pw_below_drewN | apply below_drew1 | refine below_set ?_ GE310.out | refine below_set ?_ GE311.out) | exact HB.out)) hb); have n3_ := Aside0.mk (hbox); have n4_ := Aside0.mk ((by rw [hg]; exact (below_size (by repeat (first | (with_reducible first | exact HB.out | apply below_alloc | apply pw_below_drewN | apply below_drew1 | refine below_set ?_ GE310.out | refine below_set ?_ GE311.out) | exact HB.out))) : w.heap.size ≤ gb312)); have n5_ := Aside0.mk ((by rw [hg]; exact (below_size (by repeat (first | (with_reducible first | exact HB.out | apply below_alloc | apply pw_below_drewN | apply below_drew1 | refine below_set ?_ GE310.out | refine below_set ?_ GE311.out) | exact HB.out))) : w.heap.size ≤ gb312)); have n6_ := Aside0.mk ((by rw [hg]; exact Nat.ne_of_lt (blk_lt (g := gb310) (o := .cells #[.int .u64 a0_0, .int .i64 a0_1] 24 (0, 0)) (by (with_reducible repeat (first | refine blk_drewN ?_ _ | refine blk_drew ?_ | refine blk_alloc ?_ _)); exact BK310.out)) : gb310 ≠ gb312)); have n7_ := Aside0.mk ((by rw [hg]; exact Nat.ne_of_gt (blk_lt (g := gb310) (o := .cells #[.int .u64 a0_0, .int .i64 a0_1] 24 (0, 0)) (by (with_reducible repeat (first | refine blk_drewN ?_ _ | refine blk_drew ?_ | refine blk_alloc ?_ _)); exact BK310.out)) : gb312 ≠ gb310)); have n8_ := Aside0.mk ((by rw [hg]; exact Nat.ne_of_lt (blk_lt (g := gb311) (o := .cells #[.int .u64 a1_0, .int .i64 a1_1] 24 (0, 0)) (by (with_reducible repeat (first | refine blk_drewN ?_ _ | refine blk_drew ?_ | refine blk_alloc ?_ _)); exact BK311.out)) : gb311 ≠ gb312)); have n9_ := Aside0.mk ((by rw [hg]; exact Nat.ne_of_gt (blk_lt (g := gb311) (o := .cells #[.int .u64 a1_0, .int .i64 a1_1] 24 (0, 0)) (by (with_reducible repeat (first | refine blk_drewN ?_ _ | refine blk_drew ?_ | refine blk_alloc ?_ _)); exact BK311.out)) : gb312 ≠ gb311)); clear BK310; clear BK311; clear HB; have BK310 := n0_; have BK311 := n1_; have HB := n2_; have BK312 := n3_; have GW312 := n4_; have GE312 := n5_; have NB310_312 := n6_; have NB312_310 := n7_; have NB311_312 := n8_; have NB312_311 := n9_; clear n0_ n1_ n2_ n3_ n4_ n5_ n6_ n7_ n8_ n9_; clear hb hbox hg))
  (try simp only [Act.put, List.setIfInBounds_toArray, List.set_cons_zero, List.set_cons_succ])
  go_cut [15] (fun v15 wc => ∃ (kq : Nat) (x15_2 : Bool), v15 = .bool x15_2 ∧ Aside0 (stockyardref22_Rest.j0 kq x15_2 a0_0 a0_1 a1_0 a1_1 = some (r1, r2, r3)) ∧ Aside0 (kq ≤ k) ∧ Aside0 (wc.heap[gb310]? = some (.cells #[.int .u64 a0_0, .int .i64 a0_1] 24 (0, 0))) ∧ Aside0 (wc.heap[gb311]? = some (.cells #[.int .u64 a1_0, .int .i64 a1_1] 24 (0, 0))) ∧ Aside0 (wc.heap[gb312]? = some (.cells #[.int .u64 0, .int .i64 0] 24 (0, 0))) ∧ Aside0 (Below w.heap.size w wc))
  case first =>
    have H := HC3.out
    clear HC3
    replace H := Option.bind_eq_some_iff.mp H
    obtain ⟨t313, A70, H⟩ := H
    replace H : (if t313 = true then ((stockyardref22_Valid.f a1_0 a1_1).bind fun t314 => (stockyardref22_Rest.j0 k (!t314) a0_0 a0_1 a1_0 a1_1)) else (stockyardref22_Rest.j0 k true a0_0 a0_1 a1_0 a1_1)) = some (r1, r2, r3) := H
    have A7 := Aside0.mk A70
    clear A70
    by_cases c8 : t313 = true
    · subst c8
      have H1 : ((stockyardref22_Valid.f a1_0 a1_1).bind fun t314 => (stockyardref22_Rest.j0 k (!t314) a0_0 a0_1 a1_0 a1_1)) = some (r1, r2, r3) := by rw [if_pos rfl] at H; exact H
      clear H
      have H := H1
      clear H1
      replace H := Option.bind_eq_some_iff.mp H
      obtain ⟨t314, A90, H⟩ := H
      replace H : (stockyardref22_Rest.j0 k (!t314) a0_0 a0_1 a1_0 a1_1) = some (r1, r2, r3) := H
      have A9 := Aside0.mk A90
      clear A90
      have H' := Aside0.mk H
      clear H
      have hnb10 := NB310_311.out
      have hnc10 := NB311_310.out
      have hnb11 := NB310_312.out
      have hnc11 := NB312_310.out
      have hcz12_0 : w6.cell? ⟨gb310, 0, none⟩ = some (.int .u64 a0_0) := (blk_cell BK310.out 0).trans rfl
      have hcz12_1 : w6.cell? ⟨gb310, 1, none⟩ = some (.int .i64 a0_1) := (blk_cell BK310.out 1).trans rfl
      have hfz12_0 := blk_frozen BK310.out 0
      have hfz12_1 := blk_frozen BK310.out 1
      go_wp2_with (first | ((with_reducible refine gate_callee (f := 16) rfl ?_); refine goesL_ (some 9) rfl rfl Try.func16 (by kernel_rfl) rfl #[.agg #[.int .u64 a0_0, .int .i64 a0_1]] rfl (by (try simp only [List.map_toArray, List.map_cons, List.map_nil]); first | done | rfl | (simp only [List.length_drop, List.length_take]; rfl)) ?_; (with_reducible refine (stockyardref22_Valid.calls a0_0 a0_1 true _ A7.out).mono ?_); rintro e w13 ⟨rfl, hb⟩; refine ⟨_, rfl, ?_⟩; have n0_ := Aside0.mk (blk_below (g := gb310) (o := .cells #[.int .u64 a0_0, .int .i64 a0_1] 24 (0, 0)) (by (with_reducible repeat (first | refine blk_drewN ?_ _ | refine blk_drew ?_ | refine blk_alloc ?_ _)); exact BK310.out) hb); have n1_ := Aside0.mk (blk_below (g := gb311) (o := .cells #[.int .u64 a1_0, .int .i64 a1_1] 24 (0, 0)) (by (with_reducible repeat (first | refine blk_drewN ?_ _ | refine blk_drew ?_ | refine blk_alloc ?_ _)); exact BK311.out) hb); have n2_ := Aside0.mk (blk_below (g := gb312) (o := .cells #[.int .u64 0, .int .i64 0] 24 (0, 0)) (by (with_reducible repeat (first | refine blk_drewN ?_ _ | refine blk_drew ?_ | refine blk_alloc ?_ _)); exact BK312.out) hb); have n3_ := Aside0.mk (below_step (by repeat (first | (with_reducible first | exact HB.out | apply below_alloc | apply pw_below_drewN | apply below_drew1 | refine below_set ?_ GE310.out | refine below_set ?_ GE311.out | refine below_set ?_ GE312.out) | exact HB.out)) hb); clear BK310; clear BK311; clear BK312; clear HB; have BK310 := n0_; have BK311 := n1_; have BK312 := n2_; have HB := n3_; clear n0_ n1_ n2_ n3_; (try clear hb); (try clear hb2); (try clear hk); (try clear hi); have hnb14 := NB311_312.out; have hnc14 := NB312_311.out; have hcz15_0 : w13.cell? ⟨gb311, 0, none⟩ = some (.int .u64 a1_0) := (blk_cell BK311.out 0).trans rfl; have hcz15_1 : w13.cell? ⟨gb311, 1, none⟩ = some (.int .i64 a1_1) := (blk_cell BK311.out 1).trans rfl; have hfz15_0 := blk_frozen BK311.out 0; have hfz15_1 := blk_frozen BK311.out 1) | (go_at_call 16; (with_reducible refine (stockyardref22_Valid.calls a1_0 a1_1 t314 _ A9.out).mono ?_); rintro e w16 ⟨rfl, hb⟩; have n0_ := Aside0.mk (blk_below (g := gb310) (o := .cells #[.int .u64 a0_0, .int .i64 a0_1] 24 (0, 0)) (by (with_reducible repeat (first | refine blk_drewN ?_ _ | refine blk_drew ?_ | refine blk_alloc ?_ _)); exact BK310.out) hb); have n1_ := Aside0.mk (blk_below (g := gb311) (o := .cells #[.int .u64 a1_0, .int .i64 a1_1] 24 (0, 0)) (by (with_reducible repeat (first | refine blk_drewN ?_ _ | refine blk_drew ?_ | refine blk_alloc ?_ _)); exact BK311.out) hb); have n2_ := Aside0.mk (blk_below (g := gb312) (o := .cells #[.int .u64 0, .int .i64 0] 24 (0, 0)) (by (with_reducible repeat (first | refine blk_drewN ?_ _ | refine blk_drew ?_ | refine blk_alloc ?_ _)); exact BK312.out) hb); have n3_ := Aside0.mk (below_step (by repeat (first | (with_reducible first | exact HB.out | apply below_alloc | apply pw_below_drewN | apply below_drew1 | refine below_set ?_ GE310.out | refine below_set ?_ GE311.out | refine below_set ?_ GE312.out) | exact HB.out)) hb); clear BK310; clear BK311; clear BK312; clear HB; have BK310 := n0_; have BK311 := n1_; have BK312 := n2_; have HB := n3_; clear n0_ n1_ n2_ n3_; (try clear hb); (try clear hb2); (try clear hk); (try clear hi)))
      go_meet
      case rel => exact ⟨_, (!t314), (by first | rfl | (simp; done) | (simp [*]; done)), H', ⟨by first | omega | exact Nat.le_refl _⟩, ⟨by (with_reducible repeat (first | refine blk_drewN ?_ _ | refine blk_drew ?_ | refine blk_alloc ?_ _)); exact BK310.out⟩, ⟨by (with_reducible repeat (first | refine blk_drewN ?_ _ | refine blk_drew ?_ | refine blk_alloc ?_ _)); exact BK311.out⟩, ⟨by (with_reducible repeat (first | refine blk_drewN ?_ _ | refine blk_drew ?_ | refine blk_alloc ?_ _)); exact BK312.out⟩, ⟨by repeat (first | (with_reducible first | exact HB.out | apply below_alloc | apply pw_below_drewN | apply below_drew1 | refine below_set ?_ GE310.out | refine below_set ?_ GE311.out | refine below_set ?_ GE312.out) | exact HB.out)⟩⟩
    · replace c8 := Bool.eq_false_iff.mpr c8
      subst c8
      have H1 : (stockyardref22_Rest.j0 k true a0_0 a0_1 a1_0 a1_1) = some (r1, r2, r3) := by rw [if_neg (show ¬ (false = true) by decide)] at H; exact H
      clear H
      have H := H1
      clear H1
      have H' := Aside0.mk H
      clear H
      have hnb17 := NB310_311.out
      have hnc17 := NB311_310.out
      have hnb18 := NB310_312.out
      have hnc18 := NB312_310.out
      have hcz19_0 : w6.cell? ⟨gb310, 0, none⟩ = some (.int .u64 a0_0) := (blk_cell BK310.out 0).trans rfl
      have hcz19_1 : w6.cell? ⟨gb310, 1, none⟩ = some (.int .i64 a0_1) := (blk_cell BK310.out 1).trans rfl
      have hfz19_0 := blk_frozen BK310.out 0
      have hfz19_1 := blk_frozen BK310.out 1
      go_wp2_with (first | ((with_reducible refine gate_callee (f := 16) rfl ?_); refine goesL_ (some 9) rfl rfl Try.func16 (by kernel_rfl) rfl #[.agg #[.int .u64 a0_0, .int .i64 a0_1]] rfl (by (try simp only [List.map_toArray, List.map_cons, List.map_nil]); first | done | rfl | (simp only [List.length_drop, List.length_take]; rfl)) ?_; (with_reducible refine (stockyardref22_Valid.calls a0_0 a0_1 false _ A7.out).mono ?_); rintro e w20 ⟨rfl, hb⟩; refine ⟨_, rfl, ?_⟩; have n0_ := Aside0.mk (blk_below (g := gb310) (o := .cells #[.int .u64 a0_0, .int .i64 a0_1] 24 (0, 0)) (by (with_reducible repeat (first | refine blk_drewN ?_ _ | refine blk_drew ?_ | refine blk_alloc ?_ _)); exact BK310.out) hb); have n1_ := Aside0.mk (blk_below (g := gb311) (o := .cells #[.int .u64 a1_0, .int .i64 a1_1] 24 (0, 0)) (by (with_reducible repeat (first | refine blk_drewN ?_ _ | refine blk_drew ?_ | refine blk_alloc ?_ _)); exact BK311.out) hb); have n2_ := Aside0.mk (blk_below (g := gb312) (o := .cells #[.int .u64 0, .int .i64 0] 24 (0, 0)) (by (with_reducible repeat (first | refine blk_drewN ?_ _ | refine blk_drew ?_ | refine blk_alloc ?_ _)); exact BK312.out) hb); have n3_ := Aside0.mk (below_step (by repeat (first | (with_reducible first | exact HB.out | apply below_alloc | apply pw_below_drewN | apply below_drew1 | refine below_set ?_ GE310.out | refine below_set ?_ GE311.out | refine below_set ?_ GE312.out) | exact HB.out)) hb); clear BK310; clear BK311; clear BK312; clear HB; have BK310 := n0_; have BK311 := n1_; have BK312 := n2_; have HB := n3_; clear n0_ n1_ n2_ n3_; (try clear hb); (try clear hb2); (try clear hk); (try clear hi)))
      go_meet
      case rel => exact ⟨_, (true), (by first | rfl | (simp; done) | (simp [*]; done)), H', ⟨by first | omega | exact Nat.le_refl _⟩, ⟨by (with_reducible repeat (first | refine blk_drewN ?_ _ | refine blk_drew ?_ | refine blk_alloc ?_ _)); exact BK310.out⟩, ⟨by (with_reducible repeat (first | refine blk_drewN ?_ _ | refine blk_drew ?_ | refine blk_alloc ?_ _)); exact BK311.out⟩, ⟨by (with_reducible repeat (first | refine blk_drewN ?_ _ | refine blk_drew ?_ | refine blk_alloc ?_ _)); exact BK312.out⟩, ⟨by repeat (first | (with_reducible first | exact HB.out | apply below_alloc | apply pw_below_drewN | apply below_drew1 | refine below_set ?_ GE310.out | refine below_set ?_ GE311.out | refine below_set ?_ GE312.out) | exact HB.out)⟩⟩
  case rest =>
    clear HC3
    try clear c1
    try clear p2
    try clear c3
    try clear c8
    try clear c10
    try clear c11
    try clear c14
    try clear c16
    try clear c17
    try clear c18
    try clear hcz12_0
    try clear hcz12_1
    try clear hcz15_0
    try clear hcz15_1
    try clear hcz19_0
    try clear hcz19_1
    try clear hfz12_0
    try clear hfz12_1
    try clear hfz15_0
    try clear hfz15_1
    try clear hfz19_0
    try clear hfz19_1
    obtain ⟨kq, x15_2, rfl, HA, HJ2, BK310, BK311, BK312, HB⟩ := hcut
    cases kq with
    | zero => exact absurd HA.out (by simp [stockyardref22_Rest.j0])
    | succ kj2 =>
      have H := HA.out
      clear HA
      simp only [stockyardref22_Rest.j0] at H
      by_cases c21 : x15_2 = true
      · subst c21
        have H1 : (some (0, 0, 220)) = some (r1, r2, r3) := by rw [if_pos rfl] at H; exact H
        clear H
        have H := H1
        clear H1
        simp only [Option.some.injEq, Prod.mk.injEq] at H
        obtain ⟨rfl, rfl, rfl⟩ := H
        have hnb22 := NB312_310.out
        have hnc22 := NB310_312.out
        have hnb23 := NB312_311.out
        have hnc23 := NB311_312.out
        have hcz24_0 : wc.cell? ⟨gb312, 0, none⟩ = some (.int .u64 0) := (blk_cell BK312.out 0).trans rfl
        have hcz24_1 : wc.cell? ⟨gb312, 1, none⟩ = some (.int .i64 0) := (blk_cell BK312.out 1).trans rfl
        have hfz24_0 := blk_frozen BK312.out 0
        have hfz24_1 := blk_frozen BK312.out 1
        go_wp2
        refine bodyPost_ret (results_ct rfl _ _ gb312 24 #[.int .u64 0, .int .i64 0] (0, 0) _ rfl (by (with_reducible repeat (first | refine blk_drewN ?_ _ | refine blk_drew ?_ | refine blk_alloc ?_ _)); refine blk_put (cs := #[.int .u64 0, .int .i64 0]) ?_ 1 _ rfl; (with_reducible repeat (first | refine blk_drewN ?_ _ | refine blk_drew ?_ | refine blk_alloc ?_ _)); refine blk_put (cs := #[.int .u64 0, .int .i64 0]) ?_ 0 _ rfl; (with_reducible repeat (first | refine blk_drewN ?_ _ | refine blk_drew ?_ | refine blk_alloc ?_ _)); exact BK312.out) Try.underlying24 rfl (by kernel_rfl)) rfl ?_
        exact ⟨by first | rfl | (simp [errW_none, errW_some] <;> rfl) | (simp [*, errW_none, errW_some] <;> rfl), by repeat (first | (with_reducible first | exact HB.out | apply below_alloc | apply pw_below_drewN | apply below_drew1 | refine below_set ?_ GE310.out | refine below_set ?_ GE311.out | refine below_set ?_ GE312.out) | exact HB.out)⟩
      · replace c21 := Bool.eq_false_iff.mpr c21
        subst c21
        have H1 : (if (wrap64 (a0_1 - a1_1)) < 0 then (some (0, 0, 221)) else ((stockyardref22_Power.f kj2 (wrap64 (a0_1 - a1_1))).bind fun t315 => ((stockyardref22_Mul.f a1_0 t315).bind fun t316 => ((stockyardref22_Minus.f a0_0 t316).bind fun t317 => (if (wrap64 (a0_1 - a1_1)) = 0 then (if t317 = 0 then (some (t317, wrap64 (a0_1 - a1_1), 0)) else (some (0, 0, 220))) else (some (t317, wrap64 (a0_1 - a1_1), 0))))))) = some (r1, r2, r3) := by rw [if_neg (show ¬ (false = true) by decide)] at H; exact H
        clear H
        have H := H1
        clear H1
        by_cases c25 : (wrap64 (a0_1 - a1_1)) < 0
        · rw [if_pos c25] at H
          have c25b0 : decide ((wrap64 (a0_1 - a1_1)) < 0) = true := decide_eq_true c25
          clear c25
          simp only [Option.some.injEq, Prod.mk.injEq] at H
          obtain ⟨rfl, rfl, rfl⟩ := H
          have hnb26 := NB310_311.out
          have hnc26 := NB311_310.out
          have hnb27 := NB310_312.out
          have hnc27 := NB312_310.out
          have hcz28_0 : wc.cell? ⟨gb310, 0, none⟩ = some (.int .u64 a0_0) := (blk_cell BK310.out 0).trans rfl
          have hcz28_1 : wc.cell? ⟨gb310, 1, none⟩ = some (.int .i64 a0_1) := (blk_cell BK310.out 1).trans rfl
          have hfz28_0 := blk_frozen BK310.out 0
          have hfz28_1 := blk_frozen BK310.out 1
          have hnb29 := NB311_312.out
          have hnc29 := NB312_311.out
          have hcz30_0 : wc.cell? ⟨gb311, 0, none⟩ = some (.int .u64 a1_0) := (blk_cell BK311.out 0).trans rfl
          have hcz30_1 : wc.cell? ⟨gb311, 1, none⟩ = some (.int .i64 a1_1) := (blk_cell BK311.out 1).trans rfl
          have hfz30_0 := blk_frozen BK311.out 0
          have hfz30_1 := blk_frozen BK311.out 1
          have hcz31_0 : wc.cell? ⟨gb312, 0, none⟩ = some (.int .u64 0) := (blk_cell BK312.out 0).trans rfl
          have hcz31_1 : wc.cell? ⟨gb312, 1, none⟩ = some (.int .i64 0) := (blk_cell BK312.out 1).trans rfl
          have hfz31_0 := blk_frozen BK312.out 0
          have hfz31_1 := blk_frozen BK312.out 1
          go_wp2
          refine bodyPost_ret (results_ct rfl _ _ gb312 24 #[.int .u64 0, .int .i64 0] (0, 0) _ rfl (by (with_reducible repeat (first | refine blk_drewN ?_ _ | refine blk_drew ?_ | refine blk_alloc ?_ _)); refine blk_put (cs := #[.int .u64 0, .int .i64 0]) ?_ 1 _ rfl; (with_reducible repeat (first | refine blk_drewN ?_ _ | refine blk_drew ?_ | refine blk_alloc ?_ _)); refine blk_put (cs := #[.int .u64 0, .int .i64 0]) ?_ 0 _ rfl; (with_reducible repeat (first | refine blk_drewN ?_ _ | refine blk_drew ?_ | refine blk_alloc ?_ _)); exact BK312.out) Try.underlying24 rfl (by kernel_rfl)) rfl ?_
          exact ⟨by first | rfl | (simp [errW_none, errW_some] <;> rfl) | (simp [*, errW_none, errW_some] <;> rfl), by repeat (first | (with_reducible first | exact HB.out | apply below_alloc | apply pw_below_drewN | apply below_drew1 | refine below_set ?_ GE310.out | refine below_set ?_ GE311.out | refine below_set ?_ GE312.out) | exact HB.out)⟩
        · rw [if_neg c25] at H
          have c25b0 : decide ((wrap64 (a0_1 - a1_1)) < 0) = false := decide_eq_false c25
          clear c25
          replace H := Option.bind_eq_some_iff.mp H
          obtain ⟨t315, A320, H⟩ := H
          replace H : ((stockyardref22_Mul.f a1_0 t315).bind fun t316 => ((stockyardref22_Minus.f a0_0 t316).bind fun t317 => (if (wrap64 (a0_1 - a1_1)) = 0 then (if t317 = 0 then (some (t317, wrap64 (a0_1 - a1_1), 0)) else (some (0, 0, 220))) else (some (t317, wrap64 (a0_1 - a1_1), 0))))) = some (r1, r2, r3) := H
          have A32 := Aside0.mk A320
          clear A320
          replace H := Option.bind_eq_some_iff.mp H
          obtain ⟨t316, A330, H⟩ := H
          replace H : ((stockyardref22_Minus.f a0_0 t316).bind fun t317 => (if (wrap64 (a0_1 - a1_1)) = 0 then (if t317 = 0 then (some (t317, wrap64 (a0_1 - a1_1), 0)) else (some (0, 0, 220))) else (some (t317, wrap64 (a0_1 - a1_1), 0)))) = some (r1, r2, r3) := H
          have A33 := Aside0.mk A330
          clear A330
          replace H := Option.bind_eq_some_iff.mp H
          obtain ⟨t317, A340, H⟩ := H
          replace H : (if (wrap64 (a0_1 - a1_1)) = 0 then (if t317 = 0 then (some (t317, wrap64 (a0_1 - a1_1), 0)) else (some (0, 0, 220))) else (some (t317, wrap64 (a0_1 - a1_1), 0))) = some (r1, r2, r3) := H
          have A34 := Aside0.mk A340
          clear A340
          by_cases c35 : (wrap64 (a0_1 - a1_1)) = 0
          · rw [if_pos c35] at H
            have c35b0 : ((wrap64 (a0_1 - a1_1)) == 0) = true := beq_iff_eq.mpr c35
            have c35b1 : ((wrap64 (a0_1 - a1_1)) != 0) = false := bne_eq_false_iff_eq.mpr c35
            clear c35
            by_cases c36 : t317 = 0
            · rw [if_pos c36] at H
              have c36b0 : (t317 == 0) = true := beq_iff_eq.mpr c36
              have c36b1 : (t317 != 0) = false := bne_eq_false_iff_eq.mpr c36
              clear c36
              simp only [Option.some.injEq, Prod.mk.injEq] at H
              obtain ⟨rfl, rfl, rfl⟩ := H
              have hnb37 := NB310_311.out
              have hnc37 := NB311_310.out
              have hnb38 := NB310_312.out
              have hnc38 := NB312_310.out
              have hcz39_0 : wc.cell? ⟨gb310, 0, none⟩ = some (.int .u64 a0_0) := (blk_cell BK310.out 0).trans rfl
              have hcz39_1 : wc.cell? ⟨gb310, 1, none⟩ = some (.int .i64 a0_1) := (blk_cell BK310.out 1).trans rfl
              have hfz39_0 := blk_frozen BK310.out 0
              have hfz39_1 := blk_frozen BK310.out 1
              have hnb40 := NB311_312.out
              have hnc40 := NB312_311.out
              have hcz41_0 : wc.cell? ⟨gb311, 0, none⟩ = some (.int .u64 a1_0) := (blk_cell BK311.out 0).trans rfl
              have hcz41_1 : wc.cell? ⟨gb311, 1, none⟩ = some (.int .i64 a1_1) := (blk_cell BK311.out 1).trans rfl
              have hfz41_0 := blk_frozen BK311.out 0
              have hfz41_1 := blk_frozen BK311.out 1
              try go_wp2
              have n0_ := Aside0.mk (blk_drew BK310.out)
              have n1_ := Aside0.mk (blk_drew BK311.out)
              have n2_ := Aside0.mk (blk_drew BK312.out)
              have n3_ := Aside0.mk (below_drew1 HB.out)
              clear BK310
              clear BK311
              clear BK312
              clear HB
              have BK310 := n0_
              have BK311 := n1_
              have BK312 := n2_
              have HB := n3_
              clear n0_ n1_ n2_ n3_
              refine start_ (n := 12) (S := fun w' => w'.cell? ⟨gb310, 0, none⟩ = some (.int .u64 a0_0) ∧ w'.cell? ⟨gb310, 1, none⟩ = some (.int .i64 a0_1) ∧ w'.cell? ⟨gb311, 0, none⟩ = some (.int .u64 a1_0) ∧ w'.cell? ⟨gb311, 1, none⟩ = some (.int .i64 a1_1)) (ds := []) #[false, false, false, false, false, false, false, false, false, false, false, false] (by kernel_rfl) rfl rfl ⟨(blk_cell BK310.out 0).trans rfl, (blk_cell BK310.out 1).trans rfl, (blk_cell BK311.out 0).trans rfl, (blk_cell BK311.out 1).trans rfl⟩ (fun hHeld => ?_); refine with_tabW stockyardref22_Rest.tab6 stockyardref22_Rest.bits6 (fun HT_ HW_ => ?_)
              generalize wc.drew = w42 at BK310 BK311 BK312 HB hHeld ⊢
              refine pure_ (i := 0) (N := some 25) (v := ?_) (a' := ?_) #[true, false, false, false, false, false, false, false, false, false, false, false] rfl rfl (any_of HT_.out (by kernel_rfl)) (fun _ _ _ h => h) (Or.inl ⟨by rfl, ?_⟩) ?_ ?_
              rotate_left
              · intro w'
                go_simp
                with_reducible rfl
              rotate_left
              · simp only [Act.put, List.setIfInBounds_toArray, List.set_cons_zero, List.set_cons_succ, i64_w, i32_w]
                rfl
              refine pure_ (i := 2) (N := some 27) (v := ?_) (a' := ?_) #[true, false, true, false, false, false, false, false, false, false, false, false] rfl rfl (any_of HT_.out (by kernel_rfl)) (fun _ _ _ h => h) (Or.inl ⟨by rfl, ?_⟩) ?_ ?_
              rotate_left
              · intro w'
                go_simp
                with_reducible rfl
              rotate_left
              · simp only [Act.put, List.setIfInBounds_toArray, List.set_cons_zero, List.set_cons_succ, i64_w, i32_w]
                rfl
              refine pure_ (i := 4) (N := some 29) (v := ?_) (a' := ?_) #[true, false, true, false, true, false, false, false, false, false, false, false] rfl rfl (any_of HT_.out (by kernel_rfl)) (fun _ _ _ h => h) (Or.inl ⟨by rfl, ?_⟩) ?_ ?_
              rotate_left
              · intro w'
                go_simp
                with_reducible rfl
              rotate_left
              · simp only [Act.put, List.setIfInBounds_toArray, List.set_cons_zero, List.set_cons_succ, i64_w, i32_w]
                rfl
              refine pure_ (i := 8) (N := some 33) (v := ?_) (a' := ?_) #[true, false, true, false, true, false, false, false, true, false, false, false] rfl rfl (any_of HT_.out (by kernel_rfl)) (fun _ _ _ h => h) (Or.inl ⟨by rfl, ?_⟩) ?_ ?_
              rotate_left
              · intro w'
                go_simp
                with_reducible rfl
              rotate_left
              · simp only [Act.put, List.setIfInBounds_toArray, List.set_cons_zero, List.set_cons_succ, i64_w, i32_w]
                rfl
              refine take_ (i := 1) (N := some 26) (v := ?_) (a' := ?_) #[true, true, true, false, true, false, false, false, true, false, false, false] rfl rfl (take_ofW HT_.out HW_.out (by kernel_rfl)) (fun _ _ _ h => h) (Or.inl ⟨by rfl, ?_⟩) hHeld ?_ ?_
              rotate_left
              · rintro w' ⟨s0, s1, s2, s3⟩
                go_simp
                with_reducible rfl
              rotate_left
              · simp only [Act.put, List.setIfInBounds_toArray, List.set_cons_zero, List.set_cons_succ, i64_w, i32_w]
                rfl
              refine take_ (i := 3) (N := some 28) (v := ?_) (a' := ?_) #[true, true, true, true, true, false, false, false, true, false, false, false] rfl rfl (take_ofW HT_.out HW_.out (by kernel_rfl)) (fun _ _ _ h => h) (Or.inl ⟨by rfl, ?_⟩) hHeld ?_ ?_
              rotate_left
              · rintro w' ⟨s0, s1, s2, s3⟩
                go_simp
                with_reducible rfl
              rotate_left
              · simp only [Act.put, List.setIfInBounds_toArray, List.set_cons_zero, List.set_cons_succ, i64_w, i32_w]
                rfl
              refine join_ (σ := Nat) 1 #[true, true, true, true, true, true, true, true, true, true, true, false] (fun s_ => [(30, .int .u64 t315), (31, .int .u64 t316), (32, .int .u64 t317), (7, .pointer (some ⟨s_, 0, none⟩)), (34, .agg #[.int .u64 t317, .int .i64 (wrap64 (a0_1 - a1_1))])]) (fun s_ w' => (w'.cell? ⟨gb310, 0, none⟩ = some (.int .u64 a0_0) ∧ w'.cell? ⟨gb310, 1, none⟩ = some (.int .i64 a0_1) ∧ w'.cell? ⟨gb311, 0, none⟩ = some (.int .u64 a1_0) ∧ w'.cell? ⟨gb311, 1, none⟩ = some (.int .i64 a1_1)) ∧ (w'.heap[gb310]? = some (.cells #[.int .u64 a0_0, .int .i64 a0_1] 24 (0, 0))) ∧ (w'.heap[gb311]? = some (.cells #[.int .u64 a1_0, .int .i64 a1_1] 24 (0, 0))) ∧ (w'.heap[gb312]? = some (.cells #[.int .u64 0, .int .i64 0] 24 (0, 0))) ∧ (w'.heap[s_]? = some (.cells #[.int .u64 0, .int .i64 0] 24 (0, 0))) ∧ (w.heap.size ≤ s_) ∧ (w.heap.size ≤ s_) ∧ (gb310 ≠ s_) ∧ (s_ ≠ gb310) ∧ (gb311 ≠ s_) ∧ (s_ ≠ gb311) ∧ (gb312 ≠ s_) ∧ (s_ ≠ gb312) ∧ (Below w.heap.size w w')) ?_ ?_
              rotate_left
              · intro hCont
                refine two_ (i := 5) (j := 10) (Ni := some 30) (Nj := some 7) #[true, true, true, true, true, true, false, false, true, false, false, false] #[true, true, true, true, true, false, false, false, true, false, true, false] rfl rfl rfl rfl (two_of HT_.out (by kernel_rfl)) (by decide) (by decide) (fun K hK => ?_) (fun K hK => ?_)
                · skip
                  refine goes_ Try.func25 (by kernel_rfl) rfl #[.int .i64 (wrap64 (a0_1 - a1_1))] (by rfl) rfl rfl (by (try simp only [List.map_toArray, List.map_cons, List.map_nil]); first | done | rfl | (simp only [List.length_drop, List.length_take]; rfl)) ?_
                  with_reducible refine (stockyardref22_Power.calls kj2 (wrap64 (a0_1 - a1_1)) t315 _ A32.out).mono ?_
                  rintro e w' ⟨rfl, ⟨nd, rfl⟩⟩
                  refine ⟨_, rfl, ?_⟩
                  refine hK.out _ _ ⟨(blk_cell BK310.out 0).trans rfl, (blk_cell BK310.out 1).trans rfl, (blk_cell BK311.out 0).trans rfl, (blk_cell BK311.out 1).trans rfl⟩ (fun hHeld => ?_)
                  clear hK K
                  refine norm_ (a' := ?_) ?_ ?_
                  rotate_left
                  · show Act.put _ (some 30) _ = _
                    simp only [Act.put, List.setIfInBounds_toArray, List.set_cons_zero, List.set_cons_succ, i64_w, i32_w]
                    rfl
                  refine two_ (i := 6) (j := 10) (Ni := some 31) (Nj := some 7) #[true, true, true, true, true, true, true, false, true, false, false, false] #[true, true, true, true, true, true, false, false, true, false, true, false] rfl rfl rfl rfl (two_of HT_.out (by kernel_rfl)) (by decide) (by decide) (fun K hK => ?_) (fun K hK => ?_)
                  · skip
                    refine goes_ Try.func38 (by kernel_rfl) rfl #[.int .u64 a1_0, .int .u64 t315] (by rfl) rfl rfl (by (try simp only [List.map_toArray, List.map_cons, List.map_nil]); first | done | rfl | (simp only [List.length_drop, List.length_take]; rfl)) ?_
                    with_reducible refine (stockyardref22_Mul.calls a1_0 t315 t316 _ A33.out).mono ?_
                    rintro e w' ⟨rfl, ⟨nd, rfl⟩⟩
                    refine ⟨_, rfl, ?_⟩
                    refine hK.out _ _ ⟨(blk_cell BK310.out 0).trans rfl, (blk_cell BK310.out 1).trans rfl, (blk_cell BK311.out 0).trans rfl, (blk_cell BK311.out 1).trans rfl⟩ (fun hHeld => ?_)
                    clear hK K
                    refine norm_ (a' := ?_) ?_ ?_
                    rotate_left
                    · show Act.put _ (some 31) _ = _
                      simp only [Act.put, List.setIfInBounds_toArray, List.set_cons_zero, List.set_cons_succ, i64_w, i32_w]
                      rfl
                    refine two_ (i := 7) (j := 10) (Ni := some 32) (Nj := some 7) #[true, true, true, true, true, true, true, true, true, false, false, false] #[true, true, true, true, true, true, true, false, true, false, true, false] rfl rfl rfl rfl (two_of HT_.out (by kernel_rfl)) (by decide) (by decide) (fun K hK => ?_) (fun K hK => ?_)
                    · skip
                      refine goes_ Try.func41 (by kernel_rfl) rfl #[.int .u64 a0_0, .int .u64 t316] (by rfl) rfl rfl (by (try simp only [List.map_toArray, List.map_cons, List.map_nil]); first | done | rfl | (simp only [List.length_drop, List.length_take]; rfl)) ?_
                      with_reducible refine (stockyardref22_Minus.calls a0_0 t316 t317 _ A34.out).mono ?_
                      rintro e w' ⟨rfl, ⟨nd, rfl⟩⟩
                      refine ⟨_, rfl, ?_⟩
                      refine hK.out _ _ ⟨(blk_cell BK310.out 0).trans rfl, (blk_cell BK310.out 1).trans rfl, (blk_cell BK311.out 0).trans rfl, (blk_cell BK311.out 1).trans rfl⟩ (fun hHeld => ?_)
                      clear hK K
                      refine norm_ (a' := ?_) ?_ ?_
                      rotate_left
                      · show Act.put _ (some 32) _ = _
                        simp only [Act.put, List.setIfInBounds_toArray, List.set_cons_zero, List.set_cons_succ, i64_w, i32_w]
                        rfl
                      refine pure_ (i := 9) (N := some 34) (v := ?_) (a' := ?_) #[true, true, true, true, true, true, true, true, true, true, false, false] rfl rfl (any_of HT_.out (by kernel_rfl)) (fun _ _ _ h => h) (Or.inl ⟨by rfl, ?_⟩) ?_ ?_
                      rotate_left
                      · intro w'
                        go_simp
                        with_reducible rfl
                      rotate_left
                      · simp only [Act.put, List.setIfInBounds_toArray, List.set_cons_zero, List.set_cons_succ, i64_w, i32_w]
                        rfl
                      refine one_ (i := 10) (N := some 7) #[true, true, true, true, true, true, true, true, true, true, true, false] rfl rfl (one_of HT_.out (by kernel_rfl)) (by decide) (fun K hK => ?_)
                      refine box_step ?hg (N := 7) ?hd (cs := #[.int .u64 0, .int .i64 0]) (t := 24) ?hr ?_; (case hd => rfl); (case hg => rfl); (case hr => first | (go_simp; done) | (go_simp; rfl))
                      intro gb318 hg w43 hbox hb
                      have n0_ := Aside0.mk (blk_below (g := gb310) (o := .cells #[.int .u64 a0_0, .int .i64 a0_1] 24 (0, 0)) (by (with_reducible repeat (first | refine blk_drewN ?_ _ | refine blk_drew ?_ | refine blk_alloc ?_ _)); exact BK310.out) hb)
                      have n1_ := Aside0.mk (blk_below (g := gb311) (o := .cells #[.int .u64 a1_0, .int .i64 a1_1] 24 (0, 0)) (by (with_reducible repeat (first | refine blk_drewN ?_ _ | refine blk_drew ?_ | refine blk_alloc ?_ _)); exact BK311.out) hb)
                      have n2_ := Aside0.mk (blk_below (g := gb312) (o := .cells #[.int .u64 0, .int .i64 0] 24 (0, 0)) (by (with_reducible repeat (first | refine blk_drewN ?_ _ | refine blk_drew ?_ | refine blk_alloc ?_ _)); exact BK312.out) hb)
                      have n3_ := Aside0.mk (below_step (by repeat (first | (with_reducible first | exact HB.out | apply below_alloc | apply pw_below_drewN | apply below_drew1 | refine below_set ?_ GE310.out | refine below_set ?_ GE311.out | refine below_set ?_ GE312.out) | exact HB.out)) hb)
                      have n4_ := Aside0.mk (hbox)
                      have n5_ := Aside0.mk ((by rw [hg]; exact (below_size (by repeat (first | (with_reducible first | exact HB.out | apply below_alloc | apply pw_below_drewN | apply below_drew1 | refine below_set ?_ GE310.out | refine below_set ?_ GE311.out | refine below_set ?_ GE312.out) | exact HB.out))) : w.heap.size ≤ gb318))
                      have n6_ := Aside0.mk ((by rw [hg]; exact (below_size (by repeat (first | (with_reducible first | exact HB.out | apply below_alloc | apply pw_below_drewN | apply below_drew1 | refine below_set ?_ GE310.out | refine below_set ?_ GE311.out | refine below_set ?_ GE312.out) | exact HB.out))) : w.heap.size ≤ gb318))
                      have n7_ := Aside0.mk ((by rw [hg]; exact Nat.ne_of_lt (blk_lt (g := gb310) (o := .cells #[.int .u64 a0_0, .int .i64 a0_1] 24 (0, 0)) (by (with_reducible repeat (first | refine blk_drewN ?_ _ | refine blk_drew ?_ | refine blk_alloc ?_ _)); exact BK310.out)) : gb310 ≠ gb318))
                      have n8_ := Aside0.mk ((by rw [hg]; exact Nat.ne_of_gt (blk_lt (g := gb310) (o := .cells #[.int .u64 a0_0, .int .i64 a0_1] 24 (0, 0)) (by (with_reducible repeat (first | refine blk_drewN ?_ _ | refine blk_drew ?_ | refine blk_alloc ?_ _)); exact BK310.out)) : gb318 ≠ gb310))
                      have n9_ := Aside0.mk ((by rw [hg]; exact Nat.ne_of_lt (blk_lt (g := gb311) (o := .cells #[.int .u64 a1_0, .int .i64 a1_1] 24 (0, 0)) (by (with_reducible repeat (first | refine blk_drewN ?_ _ | refine blk_drew ?_ | refine blk_alloc ?_ _)); exact BK311.out)) : gb311 ≠ gb318))
                      have n10_ := Aside0.mk ((by rw [hg]; exact Nat.ne_of_gt (blk_lt (g := gb311) (o := .cells #[.int .u64 a1_0, .int .i64 a1_1] 24 (0, 0)) (by (with_reducible repeat (first | refine blk_drewN ?_ _ | refine blk_drew ?_ | refine blk_alloc ?_ _)); exact BK311.out)) : gb318 ≠ gb311))
                      have n11_ := Aside0.mk ((by rw [hg]; exact Nat.ne_of_lt (blk_lt (g := gb312) (o := .cells #[.int .u64 0, .int .i64 0] 24 (0, 0)) (by (with_reducible repeat (first | refine blk_drewN ?_ _ | refine blk_drew ?_ | refine blk_alloc ?_ _)); exact BK312.out)) : gb312 ≠ gb318))
                      have n12_ := Aside0.mk ((by rw [hg]; exact Nat.ne_of_gt (blk_lt (g := gb312) (o := .cells #[.int .u64 0, .int .i64 0] 24 (0, 0)) (by (with_reducible repeat (first | refine blk_drewN ?_ _ | refine blk_drew ?_ | refine blk_alloc ?_ _)); exact BK312.out)) : gb318 ≠ gb312))
                      clear BK310
                      clear BK311
                      clear BK312
                      clear HB
                      have BK310 := n0_
                      have BK311 := n1_
                      have BK312 := n2_
                      have HB := n3_
                      have BK318 := n4_
                      have GW318 := n5_
                      have GE318 := n6_
                      have NB310_318 := n7_
                      have NB318_310 := n8_
                      have NB311_318 := n9_
                      have NB318_311 := n10_
                      have NB312_318 := n11_
                      have NB318_312 := n12_
                      clear n0_ n1_ n2_ n3_ n4_ n5_ n6_ n7_ n8_ n9_ n10_ n11_ n12_
                      clear hb hbox hg
                      refine hK.out _ _ ⟨(blk_cell BK310.out 0).trans rfl, (blk_cell BK310.out 1).trans rfl, (blk_cell BK311.out 0).trans rfl, (blk_cell BK311.out 1).trans rfl⟩ (fun hHeld => ?_)
                      clear hK K
                      refine norm_ (a' := ?_) ?_ ?_
                      rotate_left
                      · show Act.put _ (some 7) _ = _
                        simp only [Act.put, List.setIfInBounds_toArray, List.set_cons_zero, List.set_cons_succ, i64_w, i32_w]
                        rfl
                      exact norm_ (by simp only [putAll, Act.put, List.setIfInBounds_toArray, List.set_cons_zero, List.set_cons_succ]) (hCont (gb318) _ ⟨hHeld, (by (with_reducible repeat (first | refine blk_drewN ?_ _ | refine blk_drew ?_ | refine blk_alloc ?_ _)); exact BK310.out), (by (with_reducible repeat (first | refine blk_drewN ?_ _ | refine blk_drew ?_ | refine blk_alloc ?_ _)); exact BK311.out), (by (with_reducible repeat (first | refine blk_drewN ?_ _ | refine blk_drew ?_ | refine blk_alloc ?_ _)); exact BK312.out), (by (with_reducible repeat (first | refine blk_drewN ?_ _ | refine blk_drew ?_ | refine blk_alloc ?_ _)); exact BK318.out), GW318.out, GE318.out, NB310_318.out, NB318_310.out, NB311_318.out, NB318_311.out, NB312_318.out, NB318_312.out, (by repeat (first | (with_reducible first | exact HB.out | apply below_alloc | apply pw_below_drewN | apply below_drew1 | refine below_set ?_ GE310.out | refine below_set ?_ GE311.out | refine below_set ?_ GE312.out | refine below_set ?_ GE318.out) | exact HB.out))⟩)
                    · skip
                      refine box_step ?hg (N := 7) ?hd (cs := #[.int .u64 0, .int .i64 0]) (t := 24) ?hr ?_; (case hd => rfl); (case hg => rfl); (case hr => first | (go_simp; done) | (go_simp; rfl))
                      intro gb318 hg w43 hbox hb
                      have n0_ := Aside0.mk (blk_below (g := gb310) (o := .cells #[.int .u64 a0_0, .int .i64 a0_1] 24 (0, 0)) (by (with_reducible repeat (first | refine blk_drewN ?_ _ | refine blk_drew ?_ | refine blk_alloc ?_ _)); exact BK310.out) hb)
                      have n1_ := Aside0.mk (blk_below (g := gb311) (o := .cells #[.int .u64 a1_0, .int .i64 a1_1] 24 (0, 0)) (by (with_reducible repeat (first | refine blk_drewN ?_ _ | refine blk_drew ?_ | refine blk_alloc ?_ _)); exact BK311.out) hb)
                      have n2_ := Aside0.mk (blk_below (g := gb312) (o := .cells #[.int .u64 0, .int .i64 0] 24 (0, 0)) (by (with_reducible repeat (first | refine blk_drewN ?_ _ | refine blk_drew ?_ | refine blk_alloc ?_ _)); exact BK312.out) hb)
                      have n3_ := Aside0.mk (below_step (by repeat (first | (with_reducible first | exact HB.out | apply below_alloc | apply pw_below_drewN | apply below_drew1 | refine below_set ?_ GE310.out | refine below_set ?_ GE311.out | refine below_set ?_ GE312.out) | exact HB.out)) hb)
                      have n4_ := Aside0.mk (hbox)
                      have n5_ := Aside0.mk ((by rw [hg]; exact (below_size (by repeat (first | (with_reducible first | exact HB.out | apply below_alloc | apply pw_below_drewN | apply below_drew1 | refine below_set ?_ GE310.out | refine below_set ?_ GE311.out | refine below_set ?_ GE312.out) | exact HB.out))) : w.heap.size ≤ gb318))
                      have n6_ := Aside0.mk ((by rw [hg]; exact (below_size (by repeat (first | (with_reducible first | exact HB.out | apply below_alloc | apply pw_below_drewN | apply below_drew1 | refine below_set ?_ GE310.out | refine below_set ?_ GE311.out | refine below_set ?_ GE312.out) | exact HB.out))) : w.heap.size ≤ gb318))
                      have n7_ := Aside0.mk ((by rw [hg]; exact Nat.ne_of_lt (blk_lt (g := gb310) (o := .cells #[.int .u64 a0_0, .int .i64 a0_1] 24 (0, 0)) (by (with_reducible repeat (first | refine blk_drewN ?_ _ | refine blk_drew ?_ | refine blk_alloc ?_ _)); exact BK310.out)) : gb310 ≠ gb318))
                      have n8_ := Aside0.mk ((by rw [hg]; exact Nat.ne_of_gt (blk_lt (g := gb310) (o := .cells #[.int .u64 a0_0, .int .i64 a0_1] 24 (0, 0)) (by (with_reducible repeat (first | refine blk_drewN ?_ _ | refine blk_drew ?_ | refine blk_alloc ?_ _)); exact BK310.out)) : gb318 ≠ gb310))
                      have n9_ := Aside0.mk ((by rw [hg]; exact Nat.ne_of_lt (blk_lt (g := gb311) (o := .cells #[.int .u64 a1_0, .int .i64 a1_1] 24 (0, 0)) (by (with_reducible repeat (first | refine blk_drewN ?_ _ | refine blk_drew ?_ | refine blk_alloc ?_ _)); exact BK311.out)) : gb311 ≠ gb318))
                      have n10_ := Aside0.mk ((by rw [hg]; exact Nat.ne_of_gt (blk_lt (g := gb311) (o := .cells #[.int .u64 a1_0, .int .i64 a1_1] 24 (0, 0)) (by (with_reducible repeat (first | refine blk_drewN ?_ _ | refine blk_drew ?_ | refine blk_alloc ?_ _)); exact BK311.out)) : gb318 ≠ gb311))
                      have n11_ := Aside0.mk ((by rw [hg]; exact Nat.ne_of_lt (blk_lt (g := gb312) (o := .cells #[.int .u64 0, .int .i64 0] 24 (0, 0)) (by (with_reducible repeat (first | refine blk_drewN ?_ _ | refine blk_drew ?_ | refine blk_alloc ?_ _)); exact BK312.out)) : gb312 ≠ gb318))
                      have n12_ := Aside0.mk ((by rw [hg]; exact Nat.ne_of_gt (blk_lt (g := gb312) (o := .cells #[.int .u64 0, .int .i64 0] 24 (0, 0)) (by (with_reducible repeat (first | refine blk_drewN ?_ _ | refine blk_drew ?_ | refine blk_alloc ?_ _)); exact BK312.out)) : gb318 ≠ gb312))
                      clear BK310
                      clear BK311
                      clear BK312
                      clear HB
                      have BK310 := n0_
                      have BK311 := n1_
                      have BK312 := n2_
                      have HB := n3_
                      have BK318 := n4_
                      have GW318 := n5_
                      have GE318 := n6_
                      have NB310_318 := n7_
                      have NB318_310 := n8_
                      have NB311_318 := n9_
                      have NB318_311 := n10_
                      have NB312_318 := n11_
                      have NB318_312 := n12_
                      clear n0_ n1_ n2_ n3_ n4_ n5_ n6_ n7_ n8_ n9_ n10_ n11_ n12_
                      clear hb hbox hg
                      refine hK.out _ _ ⟨(blk_cell BK310.out 0).trans rfl, (blk_cell BK310.out 1).trans rfl, (blk_cell BK311.out 0).trans rfl, (blk_cell BK311.out 1).trans rfl⟩ (fun hHeld => ?_)
                      clear hK K
                      refine norm_ (a' := ?_) ?_ ?_
                      rotate_left
                      · show Act.put _ (some 7) _ = _
                        simp only [Act.put, List.setIfInBounds_toArray, List.set_cons_zero, List.set_cons_succ, i64_w, i32_w]
                        rfl
                      refine one_ (i := 7) (N := some 32) #[true, true, true, true, true, true, true, true, true, false, true, false] rfl rfl (one_of HT_.out (by kernel_rfl)) (by decide) (fun K hK => ?_)
                      refine goes_ Try.func41 (by kernel_rfl) rfl #[.int .u64 a0_0, .int .u64 t316] (by rfl) rfl rfl (by (try simp only [List.map_toArray, List.map_cons, List.map_nil]); first | done | rfl | (simp only [List.length_drop, List.length_take]; rfl)) ?_
                      with_reducible refine (stockyardref22_Minus.calls a0_0 t316 t317 _ A34.out).mono ?_
                      rintro e w' ⟨rfl, ⟨nd, rfl⟩⟩
                      refine ⟨_, rfl, ?_⟩
                      refine hK.out _ _ ⟨(blk_cell BK310.out 0).trans rfl, (blk_cell BK310.out 1).trans rfl, (blk_cell BK311.out 0).trans rfl, (blk_cell BK311.out 1).trans rfl⟩ (fun hHeld => ?_)
                      clear hK K
                      refine norm_ (a' := ?_) ?_ ?_
                      rotate_left
                      · show Act.put _ (some 32) _ = _
                        simp only [Act.put, List.setIfInBounds_toArray, List.set_cons_zero, List.set_cons_succ, i64_w, i32_w]
                        rfl
                      refine pure_ (i := 9) (N := some 34) (v := ?_) (a' := ?_) #[true, true, true, true, true, true, true, true, true, true, true, false] rfl rfl (any_of HT_.out (by kernel_rfl)) (fun _ _ _ h => h) (Or.inl ⟨by rfl, ?_⟩) ?_ ?_
                      rotate_left
                      · intro w'
                        go_simp
                        with_reducible rfl
                      rotate_left
                      · simp only [Act.put, List.setIfInBounds_toArray, List.set_cons_zero, List.set_cons_succ, i64_w, i32_w]
                        rfl
                      exact norm_ (by simp only [putAll, Act.put, List.setIfInBounds_toArray, List.set_cons_zero, List.set_cons_succ]) (hCont (gb318) _ ⟨hHeld, (by (with_reducible repeat (first | refine blk_drewN ?_ _ | refine blk_drew ?_ | refine blk_alloc ?_ _)); exact BK310.out), (by (with_reducible repeat (first | refine blk_drewN ?_ _ | refine blk_drew ?_ | refine blk_alloc ?_ _)); exact BK311.out), (by (with_reducible repeat (first | refine blk_drewN ?_ _ | refine blk_drew ?_ | refine blk_alloc ?_ _)); exact BK312.out), (by (with_reducible repeat (first | refine blk_drewN ?_ _ | refine blk_drew ?_ | refine blk_alloc ?_ _)); exact BK318.out), GW318.out, GE318.out, NB310_318.out, NB318_310.out, NB311_318.out, NB318_311.out, NB312_318.out, NB318_312.out, (by repeat (first | (with_reducible first | exact HB.out | apply below_alloc | apply pw_below_drewN | apply below_drew1 | refine below_set ?_ GE310.out | refine below_set ?_ GE311.out | refine below_set ?_ GE312.out | refine below_set ?_ GE318.out) | exact HB.out))⟩)
                  · skip
                    refine box_step ?hg (N := 7) ?hd (cs := #[.int .u64 0, .int .i64 0]) (t := 24) ?hr ?_; (case hd => rfl); (case hg => rfl); (case hr => first | (go_simp; done) | (go_simp; rfl))
                    intro gb318 hg w43 hbox hb
                    have n0_ := Aside0.mk (blk_below (g := gb310) (o := .cells #[.int .u64 a0_0, .int .i64 a0_1] 24 (0, 0)) (by (with_reducible repeat (first | refine blk_drewN ?_ _ | refine blk_drew ?_ | refine blk_alloc ?_ _)); exact BK310.out) hb)
                    have n1_ := Aside0.mk (blk_below (g := gb311) (o := .cells #[.int .u64 a1_0, .int .i64 a1_1] 24 (0, 0)) (by (with_reducible repeat (first | refine blk_drewN ?_ _ | refine blk_drew ?_ | refine blk_alloc ?_ _)); exact BK311.out) hb)
                    have n2_ := Aside0.mk (blk_below (g := gb312) (o := .cells #[.int .u64 0, .int .i64 0] 24 (0, 0)) (by (with_reducible repeat (first | refine blk_drewN ?_ _ | refine blk_drew ?_ | refine blk_alloc ?_ _)); exact BK312.out) hb)
                    have n3_ := Aside0.mk (below_step (by repeat (first | (with_reducible first | exact HB.out | apply below_alloc | apply pw_below_drewN | apply below_drew1 | refine below_set ?_ GE310.out | refine below_set ?_ GE311.out | refine below_set ?_ GE312.out) | exact HB.out)) hb)
                    have n4_ := Aside0.mk (hbox)
                    have n5_ := Aside0.mk ((by rw [hg]; exact (below_size (by repeat (first | (with_reducible first | exact HB.out | apply below_alloc | apply pw_below_drewN | apply below_drew1 | refine below_set ?_ GE310.out | refine below_set ?_ GE311.out | refine below_set ?_ GE312.out) | exact HB.out))) : w.heap.size ≤ gb318))
                    have n6_ := Aside0.mk ((by rw [hg]; exact (below_size (by repeat (first | (with_reducible first | exact HB.out | apply below_alloc | apply pw_below_drewN | apply below_drew1 | refine below_set ?_ GE310.out | refine below_set ?_ GE311.out | refine below_set ?_ GE312.out) | exact HB.out))) : w.heap.size ≤ gb318))
                    have n7_ := Aside0.mk ((by rw [hg]; exact Nat.ne_of_lt (blk_lt (g := gb310) (o := .cells #[.int .u64 a0_0, .int .i64 a0_1] 24 (0, 0)) (by (with_reducible repeat (first | refine blk_drewN ?_ _ | refine blk_drew ?_ | refine blk_alloc ?_ _)); exact BK310.out)) : gb310 ≠ gb318))
                    have n8_ := Aside0.mk ((by rw [hg]; exact Nat.ne_of_gt (blk_lt (g := gb310) (o := .cells #[.int .u64 a0_0, .int .i64 a0_1] 24 (0, 0)) (by (with_reducible repeat (first | refine blk_drewN ?_ _ | refine blk_drew ?_ | refine blk_alloc ?_ _)); exact BK310.out)) : gb318 ≠ gb310))
                    have n9_ := Aside0.mk ((by rw [hg]; exact Nat.ne_of_lt (blk_lt (g := gb311) (o := .cells #[.int .u64 a1_0, .int .i64 a1_1] 24 (0, 0)) (by (with_reducible repeat (first | refine blk_drewN ?_ _ | refine blk_drew ?_ | refine blk_alloc ?_ _)); exact BK311.out)) : gb311 ≠ gb318))
                    have n10_ := Aside0.mk ((by rw [hg]; exact Nat.ne_of_gt (blk_lt (g := gb311) (o := .cells #[.int .u64 a1_0, .int .i64 a1_1] 24 (0, 0)) (by (with_reducible repeat (first | refine blk_drewN ?_ _ | refine blk_drew ?_ | refine blk_alloc ?_ _)); exact BK311.out)) : gb318 ≠ gb311))
                    have n11_ := Aside0.mk ((by rw [hg]; exact Nat.ne_of_lt (blk_lt (g := gb312) (o := .cells #[.int .u64 0, .int .i64 0] 24 (0, 0)) (by (with_reducible repeat (first | refine blk_drewN ?_ _ | refine blk_drew ?_ | refine blk_alloc ?_ _)); exact BK312.out)) : gb312 ≠ gb318))
                    have n12_ := Aside0.mk ((by rw [hg]; exact Nat.ne_of_gt (blk_lt (g := gb312) (o := .cells #[.int .u64 0, .int .i64 0] 24 (0, 0)) (by (with_reducible repeat (first | refine blk_drewN ?_ _ | refine blk_drew ?_ | refine blk_alloc ?_ _)); exact BK312.out)) : gb318 ≠ gb312))
                    clear BK310
                    clear BK311
                    clear BK312
                    clear HB
                    have BK310 := n0_
                    have BK311 := n1_
                    have BK312 := n2_
                    have HB := n3_
                    have BK318 := n4_
                    have GW318 := n5_
                    have GE318 := n6_
                    have NB310_318 := n7_
                    have NB318_310 := n8_
                    have NB311_318 := n9_
                    have NB318_311 := n10_
                    have NB312_318 := n11_
                    have NB318_312 := n12_
                    clear n0_ n1_ n2_ n3_ n4_ n5_ n6_ n7_ n8_ n9_ n10_ n11_ n12_
                    clear hb hbox hg
                    refine hK.out _ _ ⟨(blk_cell BK310.out 0).trans rfl, (blk_cell BK310.out 1).trans rfl, (blk_cell BK311.out 0).trans rfl, (blk_cell BK311.out 1).trans rfl⟩ (fun hHeld => ?_)
                    clear hK K
                    refine norm_ (a' := ?_) ?_ ?_
                    rotate_left
                    · show Act.put _ (some 7) _ = _
                      simp only [Act.put, List.setIfInBounds_toArray, List.set_cons_zero, List.set_cons_succ, i64_w, i32_w]
                      rfl
                    refine one_ (i := 6) (N := some 31) #[true, true, true, true, true, true, true, false, true, false, true, false] rfl rfl (one_of HT_.out (by kernel_rfl)) (by decide) (fun K hK => ?_)
                    refine goes_ Try.func38 (by kernel_rfl) rfl #[.int .u64 a1_0, .int .u64 t315] (by rfl) rfl rfl (by (try simp only [List.map_toArray, List.map_cons, List.map_nil]); first | done | rfl | (simp only [List.length_drop, List.length_take]; rfl)) ?_
                    with_reducible refine (stockyardref22_Mul.calls a1_0 t315 t316 _ A33.out).mono ?_
                    rintro e w' ⟨rfl, ⟨nd, rfl⟩⟩
                    refine ⟨_, rfl, ?_⟩
                    refine hK.out _ _ ⟨(blk_cell BK310.out 0).trans rfl, (blk_cell BK310.out 1).trans rfl, (blk_cell BK311.out 0).trans rfl, (blk_cell BK311.out 1).trans rfl⟩ (fun hHeld => ?_)
                    clear hK K
                    refine norm_ (a' := ?_) ?_ ?_
                    rotate_left
                    · show Act.put _ (some 31) _ = _
                      simp only [Act.put, List.setIfInBounds_toArray, List.set_cons_zero, List.set_cons_succ, i64_w, i32_w]
                      rfl
                    refine one_ (i := 7) (N := some 32) #[true, true, true, true, true, true, true, true, true, false, true, false] rfl rfl (one_of HT_.out (by kernel_rfl)) (by decide) (fun K hK => ?_)
                    refine goes_ Try.func41 (by kernel_rfl) rfl #[.int .u64 a0_0, .int .u64 t316] (by rfl) rfl rfl (by (try simp only [List.map_toArray, List.map_cons, List.map_nil]); first | done | rfl | (simp only [List.length_drop, List.length_take]; rfl)) ?_
                    with_reducible refine (stockyardref22_Minus.calls a0_0 t316 t317 _ A34.out).mono ?_
                    rintro e w' ⟨rfl, ⟨nd, rfl⟩⟩
                    refine ⟨_, rfl, ?_⟩
                    refine hK.out _ _ ⟨(blk_cell BK310.out 0).trans rfl, (blk_cell BK310.out 1).trans rfl, (blk_cell BK311.out 0).trans rfl, (blk_cell BK311.out 1).trans rfl⟩ (fun hHeld => ?_)
                    clear hK K
                    refine norm_ (a' := ?_) ?_ ?_
                    rotate_left
                    · show Act.put _ (some 32) _ = _
                      simp only [Act.put, List.setIfInBounds_toArray, List.set_cons_zero, List.set_cons_succ, i64_w, i32_w]
                      rfl
                    refine pure_ (i := 9) (N := some 34) (v := ?_) (a' := ?_) #[true, true, true, true, true, true, true, true, true, true, true, false] rfl rfl (any_of HT_.out (by kernel_rfl)) (fun _ _ _ h => h) (Or.inl ⟨by rfl, ?_⟩) ?_ ?_
                    rotate_left
                    · intro w'
                      go_simp
                      with_reducible rfl
                    rotate_left
                    · simp only [Act.put, List.setIfInBounds_toArray, List.set_cons_zero, List.set_cons_succ, i64_w, i32_w]
                      rfl
                    exact norm_ (by simp only [putAll, Act.put, List.setIfInBounds_toArray, List.set_cons_zero, List.set_cons_succ]) (hCont (gb318) _ ⟨hHeld, (by (with_reducible repeat (first | refine blk_drewN ?_ _ | refine blk_drew ?_ | refine blk_alloc ?_ _)); exact BK310.out), (by (with_reducible repeat (first | refine blk_drewN ?_ _ | refine blk_drew ?_ | refine blk_alloc ?_ _)); exact BK311.out), (by (with_reducible repeat (first | refine blk_drewN ?_ _ | refine blk_drew ?_ | refine blk_alloc ?_ _)); exact BK312.out), (by (with_reducible repeat (first | refine blk_drewN ?_ _ | refine blk_drew ?_ | refine blk_alloc ?_ _)); exact BK318.out), GW318.out, GE318.out, NB310_318.out, NB318_310.out, NB311_318.out, NB318_311.out, NB312_318.out, NB318_312.out, (by repeat (first | (with_reducible first | exact HB.out | apply below_alloc | apply pw_below_drewN | apply below_drew1 | refine below_set ?_ GE310.out | refine below_set ?_ GE311.out | refine below_set ?_ GE312.out | refine below_set ?_ GE318.out) | exact HB.out))⟩)
                · skip
                  refine box_step ?hg (N := 7) ?hd (cs := #[.int .u64 0, .int .i64 0]) (t := 24) ?hr ?_; (case hd => rfl); (case hg => rfl); (case hr => first | (go_simp; done) | (go_simp; rfl))
                  intro gb318 hg w43 hbox hb
                  have n0_ := Aside0.mk (blk_below (g := gb310) (o := .cells #[.int .u64 a0_0, .int .i64 a0_1] 24 (0, 0)) (by (with_reducible repeat (first | refine blk_drewN ?_ _ | refine blk_drew ?_ | refine blk_alloc ?_ _)); exact BK310.out) hb)
                  have n1_ := Aside0.mk (blk_below (g := gb311) (o := .cells #[.int .u64 a1_0, .int .i64 a1_1] 24 (0, 0)) (by (with_reducible repeat (first | refine blk_drewN ?_ _ | refine blk_drew ?_ | refine blk_alloc ?_ _)); exact BK311.out) hb)
                  have n2_ := Aside0.mk (blk_below (g := gb312) (o := .cells #[.int .u64 0, .int .i64 0] 24 (0, 0)) (by (with_reducible repeat (first | refine blk_drewN ?_ _ | refine blk_drew ?_ | refine blk_alloc ?_ _)); exact BK312.out) hb)
                  have n3_ := Aside0.mk (below_step (by repeat (first | (with_reducible first | exact HB.out | apply below_alloc | apply pw_below_drewN | apply below_drew1 | refine below_set ?_ GE310.out | refine below_set ?_ GE311.out | refine below_set ?_ GE312.out) | exact HB.out)) hb)
                  have n4_ := Aside0.mk (hbox)
                  have n5_ := Aside0.mk ((by rw [hg]; exact (below_size (by repeat (first | (with_reducible first | exact HB.out | apply below_alloc | apply pw_below_drewN | apply below_drew1 | refine below_set ?_ GE310.out | refine below_set ?_ GE311.out | refine below_set ?_ GE312.out) | exact HB.out))) : w.heap.size ≤ gb318))
                  have n6_ := Aside0.mk ((by rw [hg]; exact (below_size (by repeat (first | (with_reducible first | exact HB.out | apply below_alloc | apply pw_below_drewN | apply below_drew1 | refine below_set ?_ GE310.out | refine below_set ?_ GE311.out | refine below_set ?_ GE312.out) | exact HB.out))) : w.heap.size ≤ gb318))
                  have n7_ := Aside0.mk ((by rw [hg]; exact Nat.ne_of_lt (blk_lt (g := gb310) (o := .cells #[.int .u64 a0_0, .int .i64 a0_1] 24 (0, 0)) (by (with_reducible repeat (first | refine blk_drewN ?_ _ | refine blk_drew ?_ | refine blk_alloc ?_ _)); exact BK310.out)) : gb310 ≠ gb318))
                  have n8_ := Aside0.mk ((by rw [hg]; exact Nat.ne_of_gt (blk_lt (g := gb310) (o := .cells #[.int .u64 a0_0, .int .i64 a0_1] 24 (0, 0)) (by (with_reducible repeat (first | refine blk_drewN ?_ _ | refine blk_drew ?_ | refine blk_alloc ?_ _)); exact BK310.out)) : gb318 ≠ gb310))
                  have n9_ := Aside0.mk ((by rw [hg]; exact Nat.ne_of_lt (blk_lt (g := gb311) (o := .cells #[.int .u64 a1_0, .int .i64 a1_1] 24 (0, 0)) (by (with_reducible repeat (first | refine blk_drewN ?_ _ | refine blk_drew ?_ | refine blk_alloc ?_ _)); exact BK311.out)) : gb311 ≠ gb318))
                  have n10_ := Aside0.mk ((by rw [hg]; exact Nat.ne_of_gt (blk_lt (g := gb311) (o := .cells #[.int .u64 a1_0, .int .i64 a1_1] 24 (0, 0)) (by (with_reducible repeat (first | refine blk_drewN ?_ _ | refine blk_drew ?_ | refine blk_alloc ?_ _)); exact BK311.out)) : gb318 ≠ gb311))
                  have n11_ := Aside0.mk ((by rw [hg]; exact Nat.ne_of_lt (blk_lt (g := gb312) (o := .cells #[.int .u64 0, .int .i64 0] 24 (0, 0)) (by (with_reducible repeat (first | refine blk_drewN ?_ _ | refine blk_drew ?_ | refine blk_alloc ?_ _)); exact BK312.out)) : gb312 ≠ gb318))
                  have n12_ := Aside0.mk ((by rw [hg]; exact Nat.ne_of_gt (blk_lt (g := gb312) (o := .cells #[.int .u64 0, .int .i64 0] 24 (0, 0)) (by (with_reducible repeat (first | refine blk_drewN ?_ _ | refine blk_drew ?_ | refine blk_alloc ?_ _)); exact BK312.out)) : gb318 ≠ gb312))
                  clear BK310
                  clear BK311
                  clear BK312
                  clear HB
                  have BK310 := n0_
                  have BK311 := n1_
                  have BK312 := n2_
                  have HB := n3_
                  have BK318 := n4_
                  have GW318 := n5_
                  have GE318 := n6_
                  have NB310_318 := n7_
                  have NB318_310 := n8_
                  have NB311_318 := n9_
                  have NB318_311 := n10_
                  have NB312_318 := n11_
                  have NB318_312 := n12_
                  clear n0_ n1_ n2_ n3_ n4_ n5_ n6_ n7_ n8_ n9_ n10_ n11_ n12_
                  clear hb hbox hg
                  refine hK.out _ _ ⟨(blk_cell BK310.out 0).trans rfl, (blk_cell BK310.out 1).trans rfl, (blk_cell BK311.out 0).trans rfl, (blk_cell BK311.out 1).trans rfl⟩ (fun hHeld => ?_)
                  clear hK K
                  refine norm_ (a' := ?_) ?_ ?_
                  rotate_left
                  · show Act.put _ (some 7) _ = _
                    simp only [Act.put, List.setIfInBounds_toArray, List.set_cons_zero, List.set_cons_succ, i64_w, i32_w]
                    rfl
                  refine one_ (i := 5) (N := some 30) #[true, true, true, true, true, true, false, false, true, false, true, false] rfl rfl (one_of HT_.out (by kernel_rfl)) (by decide) (fun K hK => ?_)
                  refine goes_ Try.func25 (by kernel_rfl) rfl #[.int .i64 (wrap64 (a0_1 - a1_1))] (by rfl) rfl rfl (by (try simp only [List.map_toArray, List.map_cons, List.map_nil]); first | done | rfl | (simp only [List.length_drop, List.length_take]; rfl)) ?_
                  with_reducible refine (stockyardref22_Power.calls kj2 (wrap64 (a0_1 - a1_1)) t315 _ A32.out).mono ?_
                  rintro e w' ⟨rfl, ⟨nd, rfl⟩⟩
                  refine ⟨_, rfl, ?_⟩
                  refine hK.out _ _ ⟨(blk_cell BK310.out 0).trans rfl, (blk_cell BK310.out 1).trans rfl, (blk_cell BK311.out 0).trans rfl, (blk_cell BK311.out 1).trans rfl⟩ (fun hHeld => ?_)
                  clear hK K
                  refine norm_ (a' := ?_) ?_ ?_
                  rotate_left
                  · show Act.put _ (some 30) _ = _
                    simp only [Act.put, List.setIfInBounds_toArray, List.set_cons_zero, List.set_cons_succ, i64_w, i32_w]
                    rfl
                  refine one_ (i := 6) (N := some 31) #[true, true, true, true, true, true, true, false, true, false, true, false] rfl rfl (one_of HT_.out (by kernel_rfl)) (by decide) (fun K hK => ?_)
                  refine goes_ Try.func38 (by kernel_rfl) rfl #[.int .u64 a1_0, .int .u64 t315] (by rfl) rfl rfl (by (try simp only [List.map_toArray, List.map_cons, List.map_nil]); first | done | rfl | (simp only [List.length_drop, List.length_take]; rfl)) ?_
                  with_reducible refine (stockyardref22_Mul.calls a1_0 t315 t316 _ A33.out).mono ?_
                  rintro e w' ⟨rfl, ⟨nd, rfl⟩⟩
                  refine ⟨_, rfl, ?_⟩
                  refine hK.out _ _ ⟨(blk_cell BK310.out 0).trans rfl, (blk_cell BK310.out 1).trans rfl, (blk_cell BK311.out 0).trans rfl, (blk_cell BK311.out 1).trans rfl⟩ (fun hHeld => ?_)
                  clear hK K
                  refine norm_ (a' := ?_) ?_ ?_
                  rotate_left
                  · show Act.put _ (some 31) _ = _
                    simp only [Act.put, List.setIfInBounds_toArray, List.set_cons_zero, List.set_cons_succ, i64_w, i32_w]
                    rfl
                  refine one_ (i := 7) (N := some 32) #[true, true, true, true, true, true, true, true, true, false, true, false] rfl rfl (one_of HT_.out (by kernel_rfl)) (by decide) (fun K hK => ?_)
                  refine goes_ Try.func41 (by kernel_rfl) rfl #[.int .u64 a0_0, .int .u64 t316] (by rfl) rfl rfl (by (try simp only [List.map_toArray, List.map_cons, List.map_nil]); first | done | rfl | (simp only [List.length_drop, List.length_take]; rfl)) ?_
                  with_reducible refine (stockyardref22_Minus.calls a0_0 t316 t317 _ A34.out).mono ?_
                  rintro e w' ⟨rfl, ⟨nd, rfl⟩⟩
                  refine ⟨_, rfl, ?_⟩
                  refine hK.out _ _ ⟨(blk_cell BK310.out 0).trans rfl, (blk_cell BK310.out 1).trans rfl, (blk_cell BK311.out 0).trans rfl, (blk_cell BK311.out 1).trans rfl⟩ (fun hHeld => ?_)
                  clear hK K
                  refine norm_ (a' := ?_) ?_ ?_
                  rotate_left
                  · show Act.put _ (some 32) _ = _
                    simp only [Act.put, List.setIfInBounds_toArray, List.set_cons_zero, List.set_cons_succ, i64_w, i32_w]
                    rfl
                  refine pure_ (i := 9) (N := some 34) (v := ?_) (a' := ?_) #[true, true, true, true, true, true, true, true, true, true, true, false] rfl rfl (any_of HT_.out (by kernel_rfl)) (fun _ _ _ h => h) (Or.inl ⟨by rfl, ?_⟩) ?_ ?_
                  rotate_left
                  · intro w'
                    go_simp
                    with_reducible rfl
                  rotate_left
                  · simp only [Act.put, List.setIfInBounds_toArray, List.set_cons_zero, List.set_cons_succ, i64_w, i32_w]
                    rfl
                  exact norm_ (by simp only [putAll, Act.put, List.setIfInBounds_toArray, List.set_cons_zero, List.set_cons_succ]) (hCont (gb318) _ ⟨hHeld, (by (with_reducible repeat (first | refine blk_drewN ?_ _ | refine blk_drew ?_ | refine blk_alloc ?_ _)); exact BK310.out), (by (with_reducible repeat (first | refine blk_drewN ?_ _ | refine blk_drew ?_ | refine blk_alloc ?_ _)); exact BK311.out), (by (with_reducible repeat (first | refine blk_drewN ?_ _ | refine blk_drew ?_ | refine blk_alloc ?_ _)); exact BK312.out), (by (with_reducible repeat (first | refine blk_drewN ?_ _ | refine blk_drew ?_ | refine blk_alloc ?_ _)); exact BK318.out), GW318.out, GE318.out, NB310_318.out, NB318_310.out, NB311_318.out, NB318_311.out, NB312_318.out, NB318_312.out, (by repeat (first | (with_reducible first | exact HB.out | apply below_alloc | apply pw_below_drewN | apply below_drew1 | refine below_set ?_ GE310.out | refine below_set ?_ GE311.out | refine below_set ?_ GE312.out | refine below_set ?_ GE318.out) | exact HB.out))⟩)
              rintro gb318 w44 ⟨hS_, h0_, h1_, h2_, h3_, h4_, h5_, h6_, h7_, h8_, h9_, h10_, h11_, h12_⟩
              have n0_ : Aside0 (w44.heap[gb310]? = some (.cells #[.int .u64 a0_0, .int .i64 a0_1] 24 (0, 0))) := ⟨h0_⟩
              have n1_ : Aside0 (w44.heap[gb311]? = some (.cells #[.int .u64 a1_0, .int .i64 a1_1] 24 (0, 0))) := ⟨h1_⟩
              have n2_ : Aside0 (w44.heap[gb312]? = some (.cells #[.int .u64 0, .int .i64 0] 24 (0, 0))) := ⟨h2_⟩
              have n3_ : Aside0 (w44.heap[gb318]? = some (.cells #[.int .u64 0, .int .i64 0] 24 (0, 0))) := ⟨h3_⟩
              have n4_ : Aside0 (w.heap.size ≤ gb318) := ⟨h4_⟩
              have n5_ : Aside0 (w.heap.size ≤ gb318) := ⟨h5_⟩
              have n6_ : Aside0 (gb310 ≠ gb318) := ⟨h6_⟩
              have n7_ : Aside0 (gb318 ≠ gb310) := ⟨h7_⟩
              have n8_ : Aside0 (gb311 ≠ gb318) := ⟨h8_⟩
              have n9_ : Aside0 (gb318 ≠ gb311) := ⟨h9_⟩
              have n10_ : Aside0 (gb312 ≠ gb318) := ⟨h10_⟩
              have n11_ : Aside0 (gb318 ≠ gb312) := ⟨h11_⟩
              have n12_ : Aside0 (Below w.heap.size w w44) := ⟨h12_⟩
              clear BK310
              clear BK311
              clear BK312
              clear HB
              clear h0_ h1_ h2_ h3_ h4_ h5_ h6_ h7_ h8_ h9_ h10_ h11_ h12_
              have BK310 := n0_
              have BK311 := n1_
              have BK312 := n2_
              have BK318 := n3_
              have GW318 := n4_
              have GE318 := n5_
              have NB310_318 := n6_
              have NB318_310 := n7_
              have NB311_318 := n8_
              have NB318_311 := n9_
              have NB312_318 := n10_
              have NB318_312 := n11_
              have HB := n12_
              clear n0_ n1_ n2_ n3_ n4_ n5_ n6_ n7_ n8_ n9_ n10_ n11_ n12_
              have hHeld : w44.cell? ⟨gb310, 0, none⟩ = some (.int .u64 a0_0) ∧ w44.cell? ⟨gb310, 1, none⟩ = some (.int .i64 a0_1) ∧ w44.cell? ⟨gb311, 0, none⟩ = some (.int .u64 a1_0) ∧ w44.cell? ⟨gb311, 1, none⟩ = some (.int .i64 a1_1) := hS_
              refine norm_ (a' := ?_) ?_ ?_
              rotate_left
              · simp only [putAll, Act.put, List.setIfInBounds_toArray, List.set_cons_zero, List.set_cons_succ]
                rfl
              refine one_ (i := 11) (N := none) #[true, true, true, true, true, true, true, true, true, true, true, true] rfl rfl (one_of HT_.out (by kernel_rfl)) (by decide) (fun K hK => ?_)
              have hs45 : w44.cell? ⟨gb318, 0, none⟩ = some (.int .u64 0) := (blk_cell BK318.out 0).trans rfl
              have hfs45 := blk_frozen BK318.out 0
              have hns45_0 := NB310_318.out
              have hns45_1 := NB311_318.out
              have hns45_2 := NB312_318.out
              have hms45_0 := NB318_310.out
              have hms45_1 := NB318_311.out
              have hms45_2 := NB318_312.out
              have hs46 : w44.cell? ⟨gb318, 1, none⟩ = some (.int .i64 0) := (blk_cell BK318.out 1).trans rfl
              have hfs46 := blk_frozen BK318.out 1
              have hns46_0 := NB310_318.out
              have hns46_1 := NB311_318.out
              have hns46_2 := NB312_318.out
              have hms46_0 := NB318_310.out
              have hms46_1 := NB318_311.out
              have hms46_2 := NB318_312.out
              refine skip_ (w1 := ?_) (by rfl) rfl ?_ ?_
              rotate_left
              · go_simp
                rfl
              refine hK.out _ _ ⟨((cell_far (p := ⟨gb318, _, none⟩) NB310_318.out _).trans (((cell_far (p := ⟨gb318, _, none⟩) NB310_318.out _).trans (hHeld.1)))), ((cell_far (p := ⟨gb318, _, none⟩) NB310_318.out _).trans (((cell_far (p := ⟨gb318, _, none⟩) NB310_318.out _).trans (hHeld.2.1)))), ((cell_far (p := ⟨gb318, _, none⟩) NB311_318.out _).trans (((cell_far (p := ⟨gb318, _, none⟩) NB311_318.out _).trans (hHeld.2.2.1)))), ((cell_far (p := ⟨gb318, _, none⟩) NB311_318.out _).trans (((cell_far (p := ⟨gb318, _, none⟩) NB311_318.out _).trans (hHeld.2.2.2))))⟩ (fun hHeld => ?_)
              clear hK K
              refine done_ (done_of HT_.out (by kernel_rfl)) ?_
              have hnb47 := NB318_310.out
              have hnc47 := NB310_318.out
              have hnb48 := NB318_311.out
              have hnc48 := NB311_318.out
              have hnb49 := NB318_312.out
              have hnc49 := NB312_318.out
              have hcz50_0 : w44.cell? ⟨gb318, 0, none⟩ = some (.int .u64 0) := (blk_cell BK318.out 0).trans rfl
              have hcz50_1 : w44.cell? ⟨gb318, 1, none⟩ = some (.int .i64 0) := (blk_cell BK318.out 1).trans rfl
              have hfz50_0 := blk_frozen BK318.out 0
              have hfz50_1 := blk_frozen BK318.out 1
              have hcz51_0 : w44.cell? ⟨gb312, 0, none⟩ = some (.int .u64 0) := (blk_cell BK312.out 0).trans rfl
              have hcz51_1 : w44.cell? ⟨gb312, 1, none⟩ = some (.int .i64 0) := (blk_cell BK312.out 1).trans rfl
              have hfz51_0 := blk_frozen BK312.out 0
              have hfz51_1 := blk_frozen BK312.out 1
              try go_wp2
              refine bodyPost_ret (results_ct rfl _ _ gb312 24 #[.int .u64 t317, .int .i64 (wrap64 (a0_1 - a1_1))] (0, 0) _ rfl (by (with_reducible repeat (first | refine blk_drewN ?_ _ | refine blk_drew ?_ | refine blk_alloc ?_ _)); refine blk_put (cs := #[.int .u64 t317, .int .i64 0]) ?_ 1 _ rfl; (with_reducible repeat (first | refine blk_drewN ?_ _ | refine blk_drew ?_ | refine blk_alloc ?_ _)); refine blk_put (cs := #[.int .u64 0, .int .i64 0]) ?_ 0 _ rfl; (with_reducible repeat (first | refine blk_drewN ?_ _ | refine blk_drew ?_ | refine blk_alloc ?_ _)); refine blk_far ?_ NB312_318.out _; (with_reducible repeat (first | refine blk_drewN ?_ _ | refine blk_drew ?_ | refine blk_alloc ?_ _)); refine blk_far ?_ NB312_318.out _; (with_reducible repeat (first | refine blk_drewN ?_ _ | refine blk_drew ?_ | refine blk_alloc ?_ _)); exact BK312.out) Try.underlying24 rfl (by kernel_rfl)) rfl ?_
              exact ⟨by first | rfl | (simp [errW_none, errW_some] <;> rfl) | (simp [*, errW_none, errW_some] <;> rfl), by repeat (first | (with_reducible first | exact HB.out | apply below_alloc | apply pw_below_drewN | apply below_drew1 | refine below_set ?_ GE310.out | refine below_set ?_ GE311.out | refine below_set ?_ GE312.out | refine below_set ?_ GE318.out) | exact HB.out)⟩
            · rw [if_neg c36] at H
              have c36b0 : (t317 == 0) = false := beq_eq_false_iff_ne.mpr c36
              have c36b1 : (t317 != 0) = true := bne_iff_ne.mpr c36
              simp only [Option.some.injEq, Prod.mk.injEq] at H
              obtain ⟨rfl, rfl, rfl⟩ := H
              have hnb52 := NB310_311.out
              have hnc52 := NB311_310.out
              have hnb53 := NB310_312.out
              have hnc53 := NB312_310.out
              have hcz54_0 : wc.cell? ⟨gb310, 0, none⟩ = some (.int .u64 a0_0) := (blk_cell BK310.out 0).trans rfl
              have hcz54_1 : wc.cell? ⟨gb310, 1, none⟩ = some (.int .i64 a0_1) := (blk_cell BK310.out 1).trans rfl
              have hfz54_0 := blk_frozen BK310.out 0
              have hfz54_1 := blk_frozen BK310.out 1
              have hnb55 := NB311_312.out
              have hnc55 := NB312_311.out
              have hcz56_0 : wc.cell? ⟨gb311, 0, none⟩ = some (.int .u64 a1_0) := (blk_cell BK311.out 0).trans rfl
              have hcz56_1 : wc.cell? ⟨gb311, 1, none⟩ = some (.int .i64 a1_1) := (blk_cell BK311.out 1).trans rfl
              have hfz56_0 := blk_frozen BK311.out 0
              have hfz56_1 := blk_frozen BK311.out 1
              try go_wp2
              have n0_ := Aside0.mk (blk_drew BK310.out)
              have n1_ := Aside0.mk (blk_drew BK311.out)
              have n2_ := Aside0.mk (blk_drew BK312.out)
              have n3_ := Aside0.mk (below_drew1 HB.out)
              clear BK310
              clear BK311
              clear BK312
              clear HB
              have BK310 := n0_
              have BK311 := n1_
              have BK312 := n2_
              have HB := n3_
              clear n0_ n1_ n2_ n3_
              refine start_ (n := 12) (S := fun w' => w'.cell? ⟨gb310, 0, none⟩ = some (.int .u64 a0_0) ∧ w'.cell? ⟨gb310, 1, none⟩ = some (.int .i64 a0_1) ∧ w'.cell? ⟨gb311, 0, none⟩ = some (.int .u64 a1_0) ∧ w'.cell? ⟨gb311, 1, none⟩ = some (.int .i64 a1_1)) (ds := []) #[false, false, false, false, false, false, false, false, false, false, false, false] (by kernel_rfl) rfl rfl ⟨(blk_cell BK310.out 0).trans rfl, (blk_cell BK310.out 1).trans rfl, (blk_cell BK311.out 0).trans rfl, (blk_cell BK311.out 1).trans rfl⟩ (fun hHeld => ?_); refine with_tabW stockyardref22_Rest.tab6 stockyardref22_Rest.bits6 (fun HT_ HW_ => ?_)
              generalize wc.drew = w57 at BK310 BK311 BK312 HB hHeld ⊢
              refine pure_ (i := 0) (N := some 25) (v := ?_) (a' := ?_) #[true, false, false, false, false, false, false, false, false, false, false, false] rfl rfl (any_of HT_.out (by kernel_rfl)) (fun _ _ _ h => h) (Or.inl ⟨by rfl, ?_⟩) ?_ ?_
              rotate_left
              · intro w'
                go_simp
                with_reducible rfl
              rotate_left
              · simp only [Act.put, List.setIfInBounds_toArray, List.set_cons_zero, List.set_cons_succ, i64_w, i32_w]
                rfl
              refine pure_ (i := 2) (N := some 27) (v := ?_) (a' := ?_) #[true, false, true, false, false, false, false, false, false, false, false, false] rfl rfl (any_of HT_.out (by kernel_rfl)) (fun _ _ _ h => h) (Or.inl ⟨by rfl, ?_⟩) ?_ ?_
              rotate_left
              · intro w'
                go_simp
                with_reducible rfl
              rotate_left
              · simp only [Act.put, List.setIfInBounds_toArray, List.set_cons_zero, List.set_cons_succ, i64_w, i32_w]
                rfl
              refine pure_ (i := 4) (N := some 29) (v := ?_) (a' := ?_) #[true, false, true, false, true, false, false, false, false, false, false, false] rfl rfl (any_of HT_.out (by kernel_rfl)) (fun _ _ _ h => h) (Or.inl ⟨by rfl, ?_⟩) ?_ ?_
              rotate_left
              · intro w'
                go_simp
                with_reducible rfl
              rotate_left
              · simp only [Act.put, List.setIfInBounds_toArray, List.set_cons_zero, List.set_cons_succ, i64_w, i32_w]
                rfl
              refine pure_ (i := 8) (N := some 33) (v := ?_) (a' := ?_) #[true, false, true, false, true, false, false, false, true, false, false, false] rfl rfl (any_of HT_.out (by kernel_rfl)) (fun _ _ _ h => h) (Or.inl ⟨by rfl, ?_⟩) ?_ ?_
              rotate_left
              · intro w'
                go_simp
                with_reducible rfl
              rotate_left
              · simp only [Act.put, List.setIfInBounds_toArray, List.set_cons_zero, List.set_cons_succ, i64_w, i32_w]
                rfl
              refine take_ (i := 1) (N := some 26) (v := ?_) (a' := ?_) #[true, true, true, false, true, false, false, false, true, false, false, false] rfl rfl (take_ofW HT_.out HW_.out (by kernel_rfl)) (fun _ _ _ h => h) (Or.inl ⟨by rfl, ?_⟩) hHeld ?_ ?_
              rotate_left
              · rintro w' ⟨s0, s1, s2, s3⟩
                go_simp
                with_reducible rfl
              rotate_left
              · simp only [Act.put, List.setIfInBounds_toArray, List.set_cons_zero, List.set_cons_succ, i64_w, i32_w]
                rfl
              refine take_ (i := 3) (N := some 28) (v := ?_) (a' := ?_) #[true, true, true, true, true, false, false, false, true, false, false, false] rfl rfl (take_ofW HT_.out HW_.out (by kernel_rfl)) (fun _ _ _ h => h) (Or.inl ⟨by rfl, ?_⟩) hHeld ?_ ?_
              rotate_left
              · rintro w' ⟨s0, s1, s2, s3⟩
                go_simp
                with_reducible rfl
              rotate_left
              · simp only [Act.put, List.setIfInBounds_toArray, List.set_cons_zero, List.set_cons_succ, i64_w, i32_w]
                rfl
              refine join_ (σ := Nat) 1 #[true, true, true, true, true, true, true, true, true, true, true, false] (fun s_ => [(30, .int .u64 t315), (31, .int .u64 t316), (32, .int .u64 t317), (7, .pointer (some ⟨s_, 0, none⟩)), (34, .agg #[.int .u64 t317, .int .i64 (wrap64 (a0_1 - a1_1))])]) (fun s_ w' => (w'.cell? ⟨gb310, 0, none⟩ = some (.int .u64 a0_0) ∧ w'.cell? ⟨gb310, 1, none⟩ = some (.int .i64 a0_1) ∧ w'.cell? ⟨gb311, 0, none⟩ = some (.int .u64 a1_0) ∧ w'.cell? ⟨gb311, 1, none⟩ = some (.int .i64 a1_1)) ∧ (w'.heap[gb310]? = some (.cells #[.int .u64 a0_0, .int .i64 a0_1] 24 (0, 0))) ∧ (w'.heap[gb311]? = some (.cells #[.int .u64 a1_0, .int .i64 a1_1] 24 (0, 0))) ∧ (w'.heap[gb312]? = some (.cells #[.int .u64 0, .int .i64 0] 24 (0, 0))) ∧ (w'.heap[s_]? = some (.cells #[.int .u64 0, .int .i64 0] 24 (0, 0))) ∧ (w.heap.size ≤ s_) ∧ (w.heap.size ≤ s_) ∧ (gb310 ≠ s_) ∧ (s_ ≠ gb310) ∧ (gb311 ≠ s_) ∧ (s_ ≠ gb311) ∧ (gb312 ≠ s_) ∧ (s_ ≠ gb312) ∧ (Below w.heap.size w w')) ?_ ?_
              rotate_left
              · intro hCont
                refine two_ (i := 5) (j := 10) (Ni := some 30) (Nj := some 7) #[true, true, true, true, true, true, false, false, true, false, false, false] #[true, true, true, true, true, false, false, false, true, false, true, false] rfl rfl rfl rfl (two_of HT_.out (by kernel_rfl)) (by decide) (by decide) (fun K hK => ?_) (fun K hK => ?_)
                · skip
                  refine goes_ Try.func25 (by kernel_rfl) rfl #[.int .i64 (wrap64 (a0_1 - a1_1))] (by rfl) rfl rfl (by (try simp only [List.map_toArray, List.map_cons, List.map_nil]); first | done | rfl | (simp only [List.length_drop, List.length_take]; rfl)) ?_
                  with_reducible refine (stockyardref22_Power.calls kj2 (wrap64 (a0_1 - a1_1)) t315 _ A32.out).mono ?_
                  rintro e w' ⟨rfl, ⟨nd, rfl⟩⟩
                  refine ⟨_, rfl, ?_⟩
                  refine hK.out _ _ ⟨(blk_cell BK310.out 0).trans rfl, (blk_cell BK310.out 1).trans rfl, (blk_cell BK311.out 0).trans rfl, (blk_cell BK311.out 1).trans rfl⟩ (fun hHeld => ?_)
                  clear hK K
                  refine norm_ (a' := ?_) ?_ ?_
                  rotate_left
                  · show Act.put _ (some 30) _ = _
                    simp only [Act.put, List.setIfInBounds_toArray, List.set_cons_zero, List.set_cons_succ, i64_w, i32_w]
                    rfl
                  refine two_ (i := 6) (j := 10) (Ni := some 31) (Nj := some 7) #[true, true, true, true, true, true, true, false, true, false, false, false] #[true, true, true, true, true, true, false, false, true, false, true, false] rfl rfl rfl rfl (two_of HT_.out (by kernel_rfl)) (by decide) (by decide) (fun K hK => ?_) (fun K hK => ?_)
                  · skip
                    refine goes_ Try.func38 (by kernel_rfl) rfl #[.int .u64 a1_0, .int .u64 t315] (by rfl) rfl rfl (by (try simp only [List.map_toArray, List.map_cons, List.map_nil]); first | done | rfl | (simp only [List.length_drop, List.length_take]; rfl)) ?_
                    with_reducible refine (stockyardref22_Mul.calls a1_0 t315 t316 _ A33.out).mono ?_
                    rintro e w' ⟨rfl, ⟨nd, rfl⟩⟩
                    refine ⟨_, rfl, ?_⟩
                    refine hK.out _ _ ⟨(blk_cell BK310.out 0).trans rfl, (blk_cell BK310.out 1).trans rfl, (blk_cell BK311.out 0).trans rfl, (blk_cell BK311.out 1).trans rfl⟩ (fun hHeld => ?_)
                    clear hK K
                    refine norm_ (a' := ?_) ?_ ?_
                    rotate_left
                    · show Act.put _ (some 31) _ = _
                      simp only [Act.put, List.setIfInBounds_toArray, List.set_cons_zero, List.set_cons_succ, i64_w, i32_w]
                      rfl
                    refine two_ (i := 7) (j := 10) (Ni := some 32) (Nj := some 7) #[true, true, true, true, true, true, true, true, true, false, false, false] #[true, true, true, true, true, true, true, false, true, false, true, false] rfl rfl rfl rfl (two_of HT_.out (by kernel_rfl)) (by decide) (by decide) (fun K hK => ?_) (fun K hK => ?_)
                    · skip
                      refine goes_ Try.func41 (by kernel_rfl) rfl #[.int .u64 a0_0, .int .u64 t316] (by rfl) rfl rfl (by (try simp only [List.map_toArray, List.map_cons, List.map_nil]); first | done | rfl | (simp only [List.length_drop, List.length_take]; rfl)) ?_
                      with_reducible refine (stockyardref22_Minus.calls a0_0 t316 t317 _ A34.out).mono ?_
                      rintro e w' ⟨rfl, ⟨nd, rfl⟩⟩
                      refine ⟨_, rfl, ?_⟩
                      refine hK.out _ _ ⟨(blk_cell BK310.out 0).trans rfl, (blk_cell BK310.out 1).trans rfl, (blk_cell BK311.out 0).trans rfl, (blk_cell BK311.out 1).trans rfl⟩ (fun hHeld => ?_)
                      clear hK K
                      refine norm_ (a' := ?_) ?_ ?_
                      rotate_left
                      · show Act.put _ (some 32) _ = _
                        simp only [Act.put, List.setIfInBounds_toArray, List.set_cons_zero, List.set_cons_succ, i64_w, i32_w]
                        rfl
                      refine pure_ (i := 9) (N := some 34) (v := ?_) (a' := ?_) #[true, true, true, true, true, true, true, true, true, true, false, false] rfl rfl (any_of HT_.out (by kernel_rfl)) (fun _ _ _ h => h) (Or.inl ⟨by rfl, ?_⟩) ?_ ?_
                      rotate_left
                      · intro w'
                        go_simp
                        with_reducible rfl
                      rotate_left
                      · simp only [Act.put, List.setIfInBounds_toArray, List.set_cons_zero, List.set_cons_succ, i64_w, i32_w]
                        rfl
                      refine one_ (i := 10) (N := some 7) #[true, true, true, true, true, true, true, true, true, true, true, false] rfl rfl (one_of HT_.out (by kernel_rfl)) (by decide) (fun K hK => ?_)
                      refine box_step ?hg (N := 7) ?hd (cs := #[.int .u64 0, .int .i64 0]) (t := 24) ?hr ?_; (case hd => rfl); (case hg => rfl); (case hr => first | (go_simp; done) | (go_simp; rfl))
                      intro gb318 hg w58 hbox hb
                      have n0_ := Aside0.mk (blk_below (g := gb310) (o := .cells #[.int .u64 a0_0, .int .i64 a0_1] 24 (0, 0)) (by (with_reducible repeat (first | refine blk_drewN ?_ _ | refine blk_drew ?_ | refine blk_alloc ?_ _)); exact BK310.out) hb)
                      have n1_ := Aside0.mk (blk_below (g := gb311) (o := .cells #[.int .u64 a1_0, .int .i64 a1_1] 24 (0, 0)) (by (with_reducible repeat (first | refine blk_drewN ?_ _ | refine blk_drew ?_ | refine blk_alloc ?_ _)); exact BK311.out) hb)
                      have n2_ := Aside0.mk (blk_below (g := gb312) (o := .cells #[.int .u64 0, .int .i64 0] 24 (0, 0)) (by (with_reducible repeat (first | refine blk_drewN ?_ _ | refine blk_drew ?_ | refine blk_alloc ?_ _)); exact BK312.out) hb)
                      have n3_ := Aside0.mk (below_step (by repeat (first | (with_reducible first | exact HB.out | apply below_alloc | apply pw_below_drewN | apply below_drew1 | refine below_set ?_ GE310.out | refine below_set ?_ GE311.out | refine below_set ?_ GE312.out) | exact HB.out)) hb)
                      have n4_ := Aside0.mk (hbox)
                      have n5_ := Aside0.mk ((by rw [hg]; exact (below_size (by repeat (first | (with_reducible first | exact HB.out | apply below_alloc | apply pw_below_drewN | apply below_drew1 | refine below_set ?_ GE310.out | refine below_set ?_ GE311.out | refine below_set ?_ GE312.out) | exact HB.out))) : w.heap.size ≤ gb318))
                      have n6_ := Aside0.mk ((by rw [hg]; exact (below_size (by repeat (first | (with_reducible first | exact HB.out | apply below_alloc | apply pw_below_drewN | apply below_drew1 | refine below_set ?_ GE310.out | refine below_set ?_ GE311.out | refine below_set ?_ GE312.out) | exact HB.out))) : w.heap.size ≤ gb318))
                      have n7_ := Aside0.mk ((by rw [hg]; exact Nat.ne_of_lt (blk_lt (g := gb310) (o := .cells #[.int .u64 a0_0, .int .i64 a0_1] 24 (0, 0)) (by (with_reducible repeat (first | refine blk_drewN ?_ _ | refine blk_drew ?_ | refine blk_alloc ?_ _)); exact BK310.out)) : gb310 ≠ gb318))
                      have n8_ := Aside0.mk ((by rw [hg]; exact Nat.ne_of_gt (blk_lt (g := gb310) (o := .cells #[.int .u64 a0_0, .int .i64 a0_1] 24 (0, 0)) (by (with_reducible repeat (first | refine blk_drewN ?_ _ | refine blk_drew ?_ | refine blk_alloc ?_ _)); exact BK310.out)) : gb318 ≠ gb310))
                      have n9_ := Aside0.mk ((by rw [hg]; exact Nat.ne_of_lt (blk_lt (g := gb311) (o := .cells #[.int .u64 a1_0, .int .i64 a1_1] 24 (0, 0)) (by (with_reducible repeat (first | refine blk_drewN ?_ _ | refine blk_drew ?_ | refine blk_alloc ?_ _)); exact BK311.out)) : gb311 ≠ gb318))
                      have n10_ := Aside0.mk ((by rw [hg]; exact Nat.ne_of_gt (blk_lt (g := gb311) (o := .cells #[.int .u64 a1_0, .int .i64 a1_1] 24 (0, 0)) (by (with_reducible repeat (first | refine blk_drewN ?_ _ | refine blk_drew ?_ | refine blk_alloc ?_ _)); exact BK311.out)) : gb318 ≠ gb311))
                      have n11_ := Aside0.mk ((by rw [hg]; exact Nat.ne_of_lt (blk_lt (g := gb312) (o := .cells #[.int .u64 0, .int .i64 0] 24 (0, 0)) (by (with_reducible repeat (first | refine blk_drewN ?_ _ | refine blk_drew ?_ | refine blk_alloc ?_ _)); exact BK312.out)) : gb312 ≠ gb318))
                      have n12_ := Aside0.mk ((by rw [hg]; exact Nat.ne_of_gt (blk_lt (g := gb312) (o := .cells #[.int .u64 0, .int .i64 0] 24 (0, 0)) (by (with_reducible repeat (first | refine blk_drewN ?_ _ | refine blk_drew ?_ | refine blk_alloc ?_ _)); exact BK312.out)) : gb318 ≠ gb312))
                      clear BK310
                      clear BK311
                      clear BK312
                      clear HB
                      have BK310 := n0_
                      have BK311 := n1_
                      have BK312 := n2_
                      have HB := n3_
                      have BK318 := n4_
                      have GW318 := n5_
                      have GE318 := n6_
                      have NB310_318 := n7_
                      have NB318_310 := n8_
                      have NB311_318 := n9_
                      have NB318_311 := n10_
                      have NB312_318 := n11_
                      have NB318_312 := n12_
                      clear n0_ n1_ n2_ n3_ n4_ n5_ n6_ n7_ n8_ n9_ n10_ n11_ n12_
                      clear hb hbox hg
                      refine hK.out _ _ ⟨(blk_cell BK310.out 0).trans rfl, (blk_cell BK310.out 1).trans rfl, (blk_cell BK311.out 0).trans rfl, (blk_cell BK311.out 1).trans rfl⟩ (fun hHeld => ?_)
                      clear hK K
                      refine norm_ (a' := ?_) ?_ ?_
                      rotate_left
                      · show Act.put _ (some 7) _ = _
                        simp only [Act.put, List.setIfInBounds_toArray, List.set_cons_zero, List.set_cons_succ, i64_w, i32_w]
                        rfl
                      exact norm_ (by simp only [putAll, Act.put, List.setIfInBounds_toArray, List.set_cons_zero, List.set_cons_succ]) (hCont (gb318) _ ⟨hHeld, (by (with_reducible repeat (first | refine blk_drewN ?_ _ | refine blk_drew ?_ | refine blk_alloc ?_ _)); exact BK310.out), (by (with_reducible repeat (first | refine blk_drewN ?_ _ | refine blk_drew ?_ | refine blk_alloc ?_ _)); exact BK311.out), (by (with_reducible repeat (first | refine blk_drewN ?_ _ | refine blk_drew ?_ | refine blk_alloc ?_ _)); exact BK312.out), (by (with_reducible repeat (first | refine blk_drewN ?_ _ | refine blk_drew ?_ | refine blk_alloc ?_ _)); exact BK318.out), GW318.out, GE318.out, NB310_318.out, NB318_310.out, NB311_318.out, NB318_311.out, NB312_318.out, NB318_312.out, (by repeat (first | (with_reducible first | exact HB.out | apply below_alloc | apply pw_below_drewN | apply below_drew1 | refine below_set ?_ GE310.out | refine below_set ?_ GE311.out | refine below_set ?_ GE312.out | refine below_set ?_ GE318.out) | exact HB.out))⟩)
                    · skip
                      refine box_step ?hg (N := 7) ?hd (cs := #[.int .u64 0, .int .i64 0]) (t := 24) ?hr ?_; (case hd => rfl); (case hg => rfl); (case hr => first | (go_simp; done) | (go_simp; rfl))
                      intro gb318 hg w58 hbox hb
                      have n0_ := Aside0.mk (blk_below (g := gb310) (o := .cells #[.int .u64 a0_0, .int .i64 a0_1] 24 (0, 0)) (by (with_reducible repeat (first | refine blk_drewN ?_ _ | refine blk_drew ?_ | refine blk_alloc ?_ _)); exact BK310.out) hb)
                      have n1_ := Aside0.mk (blk_below (g := gb311) (o := .cells #[.int .u64 a1_0, .int .i64 a1_1] 24 (0, 0)) (by (with_reducible repeat (first | refine blk_drewN ?_ _ | refine blk_drew ?_ | refine blk_alloc ?_ _)); exact BK311.out) hb)
                      have n2_ := Aside0.mk (blk_below (g := gb312) (o := .cells #[.int .u64 0, .int .i64 0] 24 (0, 0)) (by (with_reducible repeat (first | refine blk_drewN ?_ _ | refine blk_drew ?_ | refine blk_alloc ?_ _)); exact BK312.out) hb)
                      have n3_ := Aside0.mk (below_step (by repeat (first | (with_reducible first | exact HB.out | apply below_alloc | apply pw_below_drewN | apply below_drew1 | refine below_set ?_ GE310.out | refine below_set ?_ GE311.out | refine below_set ?_ GE312.out) | exact HB.out)) hb)
                      have n4_ := Aside0.mk (hbox)
                      have n5_ := Aside0.mk ((by rw [hg]; exact (below_size (by repeat (first | (with_reducible first | exact HB.out | apply below_alloc | apply pw_below_drewN | apply below_drew1 | refine below_set ?_ GE310.out | refine below_set ?_ GE311.out | refine below_set ?_ GE312.out) | exact HB.out))) : w.heap.size ≤ gb318))
                      have n6_ := Aside0.mk ((by rw [hg]; exact (below_size (by repeat (first | (with_reducible first | exact HB.out | apply below_alloc | apply pw_below_drewN | apply below_drew1 | refine below_set ?_ GE310.out | refine below_set ?_ GE311.out | refine below_set ?_ GE312.out) | exact HB.out))) : w.heap.size ≤ gb318))
                      have n7_ := Aside0.mk ((by rw [hg]; exact Nat.ne_of_lt (blk_lt (g := gb310) (o := .cells #[.int .u64 a0_0, .int .i64 a0_1] 24 (0, 0)) (by (with_reducible repeat (first | refine blk_drewN ?_ _ | refine blk_drew ?_ | refine blk_alloc ?_ _)); exact BK310.out)) : gb310 ≠ gb318))
                      have n8_ := Aside0.mk ((by rw [hg]; exact Nat.ne_of_gt (blk_lt (g := gb310) (o := .cells #[.int .u64 a0_0, .int .i64 a0_1] 24 (0, 0)) (by (with_reducible repeat (first | refine blk_drewN ?_ _ | refine blk_drew ?_ | refine blk_alloc ?_ _)); exact BK310.out)) : gb318 ≠ gb310))
                      have n9_ := Aside0.mk ((by rw [hg]; exact Nat.ne_of_lt (blk_lt (g := gb311) (o := .cells #[.int .u64 a1_0, .int .i64 a1_1] 24 (0, 0)) (by (with_reducible repeat (first | refine blk_drewN ?_ _ | refine blk_drew ?_ | refine blk_alloc ?_ _)); exact BK311.out)) : gb311 ≠ gb318))
                      have n10_ := Aside0.mk ((by rw [hg]; exact Nat.ne_of_gt (blk_lt (g := gb311) (o := .cells #[.int .u64 a1_0, .int .i64 a1_1] 24 (0, 0)) (by (with_reducible repeat (first | refine blk_drewN ?_ _ | refine blk_drew ?_ | refine blk_alloc ?_ _)); exact BK311.out)) : gb318 ≠ gb311))
                      have n11_ := Aside0.mk ((by rw [hg]; exact Nat.ne_of_lt (blk_lt (g := gb312) (o := .cells #[.int .u64 0, .int .i64 0] 24 (0, 0)) (by (with_reducible repeat (first | refine blk_drewN ?_ _ | refine blk_drew ?_ | refine blk_alloc ?_ _)); exact BK312.out)) : gb312 ≠ gb318))
                      have n12_ := Aside0.mk ((by rw [hg]; exact Nat.ne_of_gt (blk_lt (g := gb312) (o := .cells #[.int .u64 0, .int .i64 0] 24 (0, 0)) (by (with_reducible repeat (first | refine blk_drewN ?_ _ | refine blk_drew ?_ | refine blk_alloc ?_ _)); exact BK312.out)) : gb318 ≠ gb312))
                      clear BK310
                      clear BK311
                      clear BK312
                      clear HB
                      have BK310 := n0_
                      have BK311 := n1_
                      have BK312 := n2_
                      have HB := n3_
                      have BK318 := n4_
                      have GW318 := n5_
                      have GE318 := n6_
                      have NB310_318 := n7_
                      have NB318_310 := n8_
                      have NB311_318 := n9_
                      have NB318_311 := n10_
                      have NB312_318 := n11_
                      have NB318_312 := n12_
                      clear n0_ n1_ n2_ n3_ n4_ n5_ n6_ n7_ n8_ n9_ n10_ n11_ n12_
                      clear hb hbox hg
                      refine hK.out _ _ ⟨(blk_cell BK310.out 0).trans rfl, (blk_cell BK310.out 1).trans rfl, (blk_cell BK311.out 0).trans rfl, (blk_cell BK311.out 1).trans rfl⟩ (fun hHeld => ?_)
                      clear hK K
                      refine norm_ (a' := ?_) ?_ ?_
                      rotate_left
                      · show Act.put _ (some 7) _ = _
                        simp only [Act.put, List.setIfInBounds_toArray, List.set_cons_zero, List.set_cons_succ, i64_w, i32_w]
                        rfl
                      refine one_ (i := 7) (N := some 32) #[true, true, true, true, true, true, true, true, true, false, true, false] rfl rfl (one_of HT_.out (by kernel_rfl)) (by decide) (fun K hK => ?_)
                      refine goes_ Try.func41 (by kernel_rfl) rfl #[.int .u64 a0_0, .int .u64 t316] (by rfl) rfl rfl (by (try simp only [List.map_toArray, List.map_cons, List.map_nil]); first | done | rfl | (simp only [List.length_drop, List.length_take]; rfl)) ?_
                      with_reducible refine (stockyardref22_Minus.calls a0_0 t316 t317 _ A34.out).mono ?_
                      rintro e w' ⟨rfl, ⟨nd, rfl⟩⟩
                      refine ⟨_, rfl, ?_⟩
                      refine hK.out _ _ ⟨(blk_cell BK310.out 0).trans rfl, (blk_cell BK310.out 1).trans rfl, (blk_cell BK311.out 0).trans rfl, (blk_cell BK311.out 1).trans rfl⟩ (fun hHeld => ?_)
                      clear hK K
                      refine norm_ (a' := ?_) ?_ ?_
                      rotate_left
                      · show Act.put _ (some 32) _ = _
                        simp only [Act.put, List.setIfInBounds_toArray, List.set_cons_zero, List.set_cons_succ, i64_w, i32_w]
                        rfl
                      refine pure_ (i := 9) (N := some 34) (v := ?_) (a' := ?_) #[true, true, true, true, true, true, true, true, true, true, true, false] rfl rfl (any_of HT_.out (by kernel_rfl)) (fun _ _ _ h => h) (Or.inl ⟨by rfl, ?_⟩) ?_ ?_
                      rotate_left
                      · intro w'
                        go_simp
                        with_reducible rfl
                      rotate_left
                      · simp only [Act.put, List.setIfInBounds_toArray, List.set_cons_zero, List.set_cons_succ, i64_w, i32_w]
                        rfl
                      exact norm_ (by simp only [putAll, Act.put, List.setIfInBounds_toArray, List.set_cons_zero, List.set_cons_succ]) (hCont (gb318) _ ⟨hHeld, (by (with_reducible repeat (first | refine blk_drewN ?_ _ | refine blk_drew ?_ | refine blk_alloc ?_ _)); exact BK310.out), (by (with_reducible repeat (first | refine blk_drewN ?_ _ | refine blk_drew ?_ | refine blk_alloc ?_ _)); exact BK311.out), (by (with_reducible repeat (first | refine blk_drewN ?_ _ | refine blk_drew ?_ | refine blk_alloc ?_ _)); exact BK312.out), (by (with_reducible repeat (first | refine blk_drewN ?_ _ | refine blk_drew ?_ | refine blk_alloc ?_ _)); exact BK318.out), GW318.out, GE318.out, NB310_318.out, NB318_310.out, NB311_318.out, NB318_311.out, NB312_318.out, NB318_312.out, (by repeat (first | (with_reducible first | exact HB.out | apply below_alloc | apply pw_below_drewN | apply below_drew1 | refine below_set ?_ GE310.out | refine below_set ?_ GE311.out | refine below_set ?_ GE312.out | refine below_set ?_ GE318.out) | exact HB.out))⟩)
                  · skip
                    refine box_step ?hg (N := 7) ?hd (cs := #[.int .u64 0, .int .i64 0]) (t := 24) ?hr ?_; (case hd => rfl); (case hg => rfl); (case hr => first | (go_simp; done) | (go_simp; rfl))
                    intro gb318 hg w58 hbox hb
                    have n0_ := Aside0.mk (blk_below (g := gb310) (o := .cells #[.int .u64 a0_0, .int .i64 a0_1] 24 (0, 0)) (by (with_reducible repeat (first | refine blk_drewN ?_ _ | refine blk_drew ?_ | refine blk_alloc ?_ _)); exact BK310.out) hb)
                    have n1_ := Aside0.mk (blk_below (g := gb311) (o := .cells #[.int .u64 a1_0, .int .i64 a1_1] 24 (0, 0)) (by (with_reducible repeat (first | refine blk_drewN ?_ _ | refine blk_drew ?_ | refine blk_alloc ?_ _)); exact BK311.out) hb)
                    have n2_ := Aside0.mk (blk_below (g := gb312) (o := .cells #[.int .u64 0, .int .i64 0] 24 (0, 0)) (by (with_reducible repeat (first | refine blk_drewN ?_ _ | refine blk_drew ?_ | refine blk_alloc ?_ _)); exact BK312.out) hb)
                    have n3_ := Aside0.mk (below_step (by repeat (first | (with_reducible first | exact HB.out | apply below_alloc | apply pw_below_drewN | apply below_drew1 | refine below_set ?_ GE310.out | refine below_set ?_ GE311.out | refine below_set ?_ GE312.out) | exact HB.out)) hb)
                    have n4_ := Aside0.mk (hbox)
                    have n5_ := Aside0.mk ((by rw [hg]; exact (below_size (by repeat (first | (with_reducible first | exact HB.out | apply below_alloc | apply pw_below_drewN | apply below_drew1 | refine below_set ?_ GE310.out | refine below_set ?_ GE311.out | refine below_set ?_ GE312.out) | exact HB.out))) : w.heap.size ≤ gb318))
                    have n6_ := Aside0.mk ((by rw [hg]; exact (below_size (by repeat (first | (with_reducible first | exact HB.out | apply below_alloc | apply pw_below_drewN | apply below_drew1 | refine below_set ?_ GE310.out | refine below_set ?_ GE311.out | refine below_set ?_ GE312.out) | exact HB.out))) : w.heap.size ≤ gb318))
                    have n7_ := Aside0.mk ((by rw [hg]; exact Nat.ne_of_lt (blk_lt (g := gb310) (o := .cells #[.int .u64 a0_0, .int .i64 a0_1] 24 (0, 0)) (by (with_reducible repeat (first | refine blk_drewN ?_ _ | refine blk_drew ?_ | refine blk_alloc ?_ _)); exact BK310.out)) : gb310 ≠ gb318))
                    have n8_ := Aside0.mk ((by rw [hg]; exact Nat.ne_of_gt (blk_lt (g := gb310) (o := .cells #[.int .u64 a0_0, .int .i64 a0_1] 24 (0, 0)) (by (with_reducible repeat (first | refine blk_drewN ?_ _ | refine blk_drew ?_ | refine blk_alloc ?_ _)); exact BK310.out)) : gb318 ≠ gb310))
                    have n9_ := Aside0.mk ((by rw [hg]; exact Nat.ne_of_lt (blk_lt (g := gb311) (o := .cells #[.int .u64 a1_0, .int .i64 a1_1] 24 (0, 0)) (by (with_reducible repeat (first | refine blk_drewN ?_ _ | refine blk_drew ?_ | refine blk_alloc ?_ _)); exact BK311.out)) : gb311 ≠ gb318))
                    have n10_ := Aside0.mk ((by rw [hg]; exact Nat.ne_of_gt (blk_lt (g := gb311) (o := .cells #[.int .u64 a1_0, .int .i64 a1_1] 24 (0, 0)) (by (with_reducible repeat (first | refine blk_drewN ?_ _ | refine blk_drew ?_ | refine blk_alloc ?_ _)); exact BK311.out)) : gb318 ≠ gb311))
                    have n11_ := Aside0.mk ((by rw [hg]; exact Nat.ne_of_lt (blk_lt (g := gb312) (o := .cells #[.int .u64 0, .int .i64 0] 24 (0, 0)) (by (with_reducible repeat (first | refine blk_drewN ?_ _ | refine blk_drew ?_ | refine blk_alloc ?_ _)); exact BK312.out)) : gb312 ≠ gb318))
                    have n12_ := Aside0.mk ((by rw [hg]; exact Nat.ne_of_gt (blk_lt (g := gb312) (o := .cells #[.int .u64 0, .int .i64 0] 24 (0, 0)) (by (with_reducible repeat (first | refine blk_drewN ?_ _ | refine blk_drew ?_ | refine blk_alloc ?_ _)); exact BK312.out)) : gb318 ≠ gb312))
                    clear BK310
                    clear BK311
                    clear BK312
                    clear HB
                    have BK310 := n0_
                    have BK311 := n1_
                    have BK312 := n2_
                    have HB := n3_
                    have BK318 := n4_
                    have GW318 := n5_
                    have GE318 := n6_
                    have NB310_318 := n7_
                    have NB318_310 := n8_
                    have NB311_318 := n9_
                    have NB318_311 := n10_
                    have NB312_318 := n11_
                    have NB318_312 := n12_
                    clear n0_ n1_ n2_ n3_ n4_ n5_ n6_ n7_ n8_ n9_ n10_ n11_ n12_
                    clear hb hbox hg
                    refine hK.out _ _ ⟨(blk_cell BK310.out 0).trans rfl, (blk_cell BK310.out 1).trans rfl, (blk_cell BK311.out 0).trans rfl, (blk_cell BK311.out 1).trans rfl⟩ (fun hHeld => ?_)
                    clear hK K
                    refine norm_ (a' := ?_) ?_ ?_
                    rotate_left
                    · show Act.put _ (some 7) _ = _
                      simp only [Act.put, List.setIfInBounds_toArray, List.set_cons_zero, List.set_cons_succ, i64_w, i32_w]
                      rfl
                    refine one_ (i := 6) (N := some 31) #[true, true, true, true, true, true, true, false, true, false, true, false] rfl rfl (one_of HT_.out (by kernel_rfl)) (by decide) (fun K hK => ?_)
                    refine goes_ Try.func38 (by kernel_rfl) rfl #[.int .u64 a1_0, .int .u64 t315] (by rfl) rfl rfl (by (try simp only [List.map_toArray, List.map_cons, List.map_nil]); first | done | rfl | (simp only [List.length_drop, List.length_take]; rfl)) ?_
                    with_reducible refine (stockyardref22_Mul.calls a1_0 t315 t316 _ A33.out).mono ?_
                    rintro e w' ⟨rfl, ⟨nd, rfl⟩⟩
                    refine ⟨_, rfl, ?_⟩
                    refine hK.out _ _ ⟨(blk_cell BK310.out 0).trans rfl, (blk_cell BK310.out 1).trans rfl, (blk_cell BK311.out 0).trans rfl, (blk_cell BK311.out 1).trans rfl⟩ (fun hHeld => ?_)
                    clear hK K
                    refine norm_ (a' := ?_) ?_ ?_
                    rotate_left
                    · show Act.put _ (some 31) _ = _
                      simp only [Act.put, List.setIfInBounds_toArray, List.set_cons_zero, List.set_cons_succ, i64_w, i32_w]
                      rfl
                    refine one_ (i := 7) (N := some 32) #[true, true, true, true, true, true, true, true, true, false, true, false] rfl rfl (one_of HT_.out (by kernel_rfl)) (by decide) (fun K hK => ?_)
                    refine goes_ Try.func41 (by kernel_rfl) rfl #[.int .u64 a0_0, .int .u64 t316] (by rfl) rfl rfl (by (try simp only [List.map_toArray, List.map_cons, List.map_nil]); first | done | rfl | (simp only [List.length_drop, List.length_take]; rfl)) ?_
                    with_reducible refine (stockyardref22_Minus.calls a0_0 t316 t317 _ A34.out).mono ?_
                    rintro e w' ⟨rfl, ⟨nd, rfl⟩⟩
                    refine ⟨_, rfl, ?_⟩
                    refine hK.out _ _ ⟨(blk_cell BK310.out 0).trans rfl, (blk_cell BK310.out 1).trans rfl, (blk_cell BK311.out 0).trans rfl, (blk_cell BK311.out 1).trans rfl⟩ (fun hHeld => ?_)
                    clear hK K
                    refine norm_ (a' := ?_) ?_ ?_
                    rotate_left
                    · show Act.put _ (some 32) _ = _
                      simp only [Act.put, List.setIfInBounds_toArray, List.set_cons_zero, List.set_cons_succ, i64_w, i32_w]
                      rfl
                    refine pure_ (i := 9) (N := some 34) (v := ?_) (a' := ?_) #[true, true, true, true, true, true, true, true, true, true, true, false] rfl rfl (any_of HT_.out (by kernel_rfl)) (fun _ _ _ h => h) (Or.inl ⟨by rfl, ?_⟩) ?_ ?_
                    rotate_left
                    · intro w'
                      go_simp
                      with_reducible rfl
                    rotate_left
                    · simp only [Act.put, List.setIfInBounds_toArray, List.set_cons_zero, List.set_cons_succ, i64_w, i32_w]
                      rfl
                    exact norm_ (by simp only [putAll, Act.put, List.setIfInBounds_toArray, List.set_cons_zero, List.set_cons_succ]) (hCont (gb318) _ ⟨hHeld, (by (with_reducible repeat (first | refine blk_drewN ?_ _ | refine blk_drew ?_ | refine blk_alloc ?_ _)); exact BK310.out), (by (with_reducible repeat (first | refine blk_drewN ?_ _ | refine blk_drew ?_ | refine blk_alloc ?_ _)); exact BK311.out), (by (with_reducible repeat (first | refine blk_drewN ?_ _ | refine blk_drew ?_ | refine blk_alloc ?_ _)); exact BK312.out), (by (with_reducible repeat (first | refine blk_drewN ?_ _ | refine blk_drew ?_ | refine blk_alloc ?_ _)); exact BK318.out), GW318.out, GE318.out, NB310_318.out, NB318_310.out, NB311_318.out, NB318_311.out, NB312_318.out, NB318_312.out, (by repeat (first | (with_reducible first | exact HB.out | apply below_alloc | apply pw_below_drewN | apply below_drew1 | refine below_set ?_ GE310.out | refine below_set ?_ GE311.out | refine below_set ?_ GE312.out | refine below_set ?_ GE318.out) | exact HB.out))⟩)
                · skip
                  refine box_step ?hg (N := 7) ?hd (cs := #[.int .u64 0, .int .i64 0]) (t := 24) ?hr ?_; (case hd => rfl); (case hg => rfl); (case hr => first | (go_simp; done) | (go_simp; rfl))
                  intro gb318 hg w58 hbox hb
                  have n0_ := Aside0.mk (blk_below (g := gb310) (o := .cells #[.int .u64 a0_0, .int .i64 a0_1] 24 (0, 0)) (by (with_reducible repeat (first | refine blk_drewN ?_ _ | refine blk_drew ?_ | refine blk_alloc ?_ _)); exact BK310.out) hb)
                  have n1_ := Aside0.mk (blk_below (g := gb311) (o := .cells #[.int .u64 a1_0, .int .i64 a1_1] 24 (0, 0)) (by (with_reducible repeat (first | refine blk_drewN ?_ _ | refine blk_drew ?_ | refine blk_alloc ?_ _)); exact BK311.out) hb)
                  have n2_ := Aside0.mk (blk_below (g := gb312) (o := .cells #[.int .u64 0, .int .i64 0] 24 (0, 0)) (by (with_reducible repeat (first | refine blk_drewN ?_ _ | refine blk_drew ?_ | refine blk_alloc ?_ _)); exact BK312.out) hb)
                  have n3_ := Aside0.mk (below_step (by repeat (first | (with_reducible first | exact HB.out | apply below_alloc | apply pw_below_drewN | apply below_drew1 | refine below_set ?_ GE310.out | refine below_set ?_ GE311.out | refine below_set ?_ GE312.out) | exact HB.out)) hb)
                  have n4_ := Aside0.mk (hbox)
                  have n5_ := Aside0.mk ((by rw [hg]; exact (below_size (by repeat (first | (with_reducible first | exact HB.out | apply below_alloc | apply pw_below_drewN | apply below_drew1 | refine below_set ?_ GE310.out | refine below_set ?_ GE311.out | refine below_set ?_ GE312.out) | exact HB.out))) : w.heap.size ≤ gb318))
                  have n6_ := Aside0.mk ((by rw [hg]; exact (below_size (by repeat (first | (with_reducible first | exact HB.out | apply below_alloc | apply pw_below_drewN | apply below_drew1 | refine below_set ?_ GE310.out | refine below_set ?_ GE311.out | refine below_set ?_ GE312.out) | exact HB.out))) : w.heap.size ≤ gb318))
                  have n7_ := Aside0.mk ((by rw [hg]; exact Nat.ne_of_lt (blk_lt (g := gb310) (o := .cells #[.int .u64 a0_0, .int .i64 a0_1] 24 (0, 0)) (by (with_reducible repeat (first | refine blk_drewN ?_ _ | refine blk_drew ?_ | refine blk_alloc ?_ _)); exact BK310.out)) : gb310 ≠ gb318))
                  have n8_ := Aside0.mk ((by rw [hg]; exact Nat.ne_of_gt (blk_lt (g := gb310) (o := .cells #[.int .u64 a0_0, .int .i64 a0_1] 24 (0, 0)) (by (with_reducible repeat (first | refine blk_drewN ?_ _ | refine blk_drew ?_ | refine blk_alloc ?_ _)); exact BK310.out)) : gb318 ≠ gb310))
                  have n9_ := Aside0.mk ((by rw [hg]; exact Nat.ne_of_lt (blk_lt (g := gb311) (o := .cells #[.int .u64 a1_0, .int .i64 a1_1] 24 (0, 0)) (by (with_reducible repeat (first | refine blk_drewN ?_ _ | refine blk_drew ?_ | refine blk_alloc ?_ _)); exact BK311.out)) : gb311 ≠ gb318))
                  have n10_ := Aside0.mk ((by rw [hg]; exact Nat.ne_of_gt (blk_lt (g := gb311) (o := .cells #[.int .u64 a1_0, .int .i64 a1_1] 24 (0, 0)) (by (with_reducible repeat (first | refine blk_drewN ?_ _ | refine blk_drew ?_ | refine blk_alloc ?_ _)); exact BK311.out)) : gb318 ≠ gb311))
                  have n11_ := Aside0.mk ((by rw [hg]; exact Nat.ne_of_lt (blk_lt (g := gb312) (o := .cells #[.int .u64 0, .int .i64 0] 24 (0, 0)) (by (with_reducible repeat (first | refine blk_drewN ?_ _ | refine blk_drew ?_ | refine blk_alloc ?_ _)); exact BK312.out)) : gb312 ≠ gb318))
                  have n12_ := Aside0.mk ((by rw [hg]; exact Nat.ne_of_gt (blk_lt (g := gb312) (o := .cells #[.int .u64 0, .int .i64 0] 24 (0, 0)) (by (with_reducible repeat (first | refine blk_drewN ?_ _ | refine blk_drew ?_ | refine blk_alloc ?_ _)); exact BK312.out)) : gb318 ≠ gb312))
                  clear BK310
                  clear BK311
                  clear BK312
                  clear HB
                  have BK310 := n0_
                  have BK311 := n1_
                  have BK312 := n2_
                  have HB := n3_
                  have BK318 := n4_
                  have GW318 := n5_
                  have GE318 := n6_
                  have NB310_318 := n7_
                  have NB318_310 := n8_
                  have NB311_318 := n9_
                  have NB318_311 := n10_
                  have NB312_318 := n11_
                  have NB318_312 := n12_
                  clear n0_ n1_ n2_ n3_ n4_ n5_ n6_ n7_ n8_ n9_ n10_ n11_ n12_
                  clear hb hbox hg
                  refine hK.out _ _ ⟨(blk_cell BK310.out 0).trans rfl, (blk_cell BK310.out 1).trans rfl, (blk_cell BK311.out 0).trans rfl, (blk_cell BK311.out 1).trans rfl⟩ (fun hHeld => ?_)
                  clear hK K
                  refine norm_ (a' := ?_) ?_ ?_
                  rotate_left
                  · show Act.put _ (some 7) _ = _
                    simp only [Act.put, List.setIfInBounds_toArray, List.set_cons_zero, List.set_cons_succ, i64_w, i32_w]
                    rfl
                  refine one_ (i := 5) (N := some 30) #[true, true, true, true, true, true, false, false, true, false, true, false] rfl rfl (one_of HT_.out (by kernel_rfl)) (by decide) (fun K hK => ?_)
                  refine goes_ Try.func25 (by kernel_rfl) rfl #[.int .i64 (wrap64 (a0_1 - a1_1))] (by rfl) rfl rfl (by (try simp only [List.map_toArray, List.map_cons, List.map_nil]); first | done | rfl | (simp only [List.length_drop, List.length_take]; rfl)) ?_
                  with_reducible refine (stockyardref22_Power.calls kj2 (wrap64 (a0_1 - a1_1)) t315 _ A32.out).mono ?_
                  rintro e w' ⟨rfl, ⟨nd, rfl⟩⟩
                  refine ⟨_, rfl, ?_⟩
                  refine hK.out _ _ ⟨(blk_cell BK310.out 0).trans rfl, (blk_cell BK310.out 1).trans rfl, (blk_cell BK311.out 0).trans rfl, (blk_cell BK311.out 1).trans rfl⟩ (fun hHeld => ?_)
                  clear hK K
                  refine norm_ (a' := ?_) ?_ ?_
                  rotate_left
                  · show Act.put _ (some 30) _ = _
                    simp only [Act.put, List.setIfInBounds_toArray, List.set_cons_zero, List.set_cons_succ, i64_w, i32_w]
                    rfl
                  refine one_ (i := 6) (N := some 31) #[true, true, true, true, true, true, true, false, true, false, true, false] rfl rfl (one_of HT_.out (by kernel_rfl)) (by decide) (fun K hK => ?_)
                  refine goes_ Try.func38 (by kernel_rfl) rfl #[.int .u64 a1_0, .int .u64 t315] (by rfl) rfl rfl (by (try simp only [List.map_toArray, List.map_cons, List.map_nil]); first | done | rfl | (simp only [List.length_drop, List.length_take]; rfl)) ?_
                  with_reducible refine (stockyardref22_Mul.calls a1_0 t315 t316 _ A33.out).mono ?_
                  rintro e w' ⟨rfl, ⟨nd, rfl⟩⟩
                  refine ⟨_, rfl, ?_⟩
                  refine hK.out _ _ ⟨(blk_cell BK310.out 0).trans rfl, (blk_cell BK310.out 1).trans rfl, (blk_cell BK311.out 0).trans rfl, (blk_cell BK311.out 1).trans rfl⟩ (fun hHeld => ?_)
                  clear hK K
                  refine norm_ (a' := ?_) ?_ ?_
                  rotate_left
                  · show Act.put _ (some 31) _ = _
                    simp only [Act.put, List.setIfInBounds_toArray, List.set_cons_zero, List.set_cons_succ, i64_w, i32_w]
                    rfl
                  refine one_ (i := 7) (N := some 32) #[true, true, true, true, true, true, true, true, true, false, true, false] rfl rfl (one_of HT_.out (by kernel_rfl)) (by decide) (fun K hK => ?_)
                  refine goes_ Try.func41 (by kernel_rfl) rfl #[.int .u64 a0_0, .int .u64 t316] (by rfl) rfl rfl (by (try simp only [List.map_toArray, List.map_cons, List.map_nil]); first | done | rfl | (simp only [List.length_drop, List.length_take]; rfl)) ?_
                  with_reducible refine (stockyardref22_Minus.calls a0_0 t316 t317 _ A34.out).mono ?_
                  rintro e w' ⟨rfl, ⟨nd, rfl⟩⟩
                  refine ⟨_, rfl, ?_⟩
                  refine hK.out _ _ ⟨(blk_cell BK310.out 0).trans rfl, (blk_cell BK310.out 1).trans rfl, (blk_cell BK311.out 0).trans rfl, (blk_cell BK311.out 1).trans rfl⟩ (fun hHeld => ?_)
                  clear hK K
                  refine norm_ (a' := ?_) ?_ ?_
                  rotate_left
                  · show Act.put _ (some 32) _ = _
                    simp only [Act.put, List.setIfInBounds_toArray, List.set_cons_zero, List.set_cons_succ, i64_w, i32_w]
                    rfl
                  refine pure_ (i := 9) (N := some 34) (v := ?_) (a' := ?_) #[true, true, true, true, true, true, true, true, true, true, true, false] rfl rfl (any_of HT_.out (by kernel_rfl)) (fun _ _ _ h => h) (Or.inl ⟨by rfl, ?_⟩) ?_ ?_
                  rotate_left
                  · intro w'
                    go_simp
                    with_reducible rfl
                  rotate_left
                  · simp only [Act.put, List.setIfInBounds_toArray, List.set_cons_zero, List.set_cons_succ, i64_w, i32_w]
                    rfl
                  exact norm_ (by simp only [putAll, Act.put, List.setIfInBounds_toArray, List.set_cons_zero, List.set_cons_succ]) (hCont (gb318) _ ⟨hHeld, (by (with_reducible repeat (first | refine blk_drewN ?_ _ | refine blk_drew ?_ | refine blk_alloc ?_ _)); exact BK310.out), (by (with_reducible repeat (first | refine blk_drewN ?_ _ | refine blk_drew ?_ | refine blk_alloc ?_ _)); exact BK311.out), (by (with_reducible repeat (first | refine blk_drewN ?_ _ | refine blk_drew ?_ | refine blk_alloc ?_ _)); exact BK312.out), (by (with_reducible repeat (first | refine blk_drewN ?_ _ | refine blk_drew ?_ | refine blk_alloc ?_ _)); exact BK318.out), GW318.out, GE318.out, NB310_318.out, NB318_310.out, NB311_318.out, NB318_311.out, NB312_318.out, NB318_312.out, (by repeat (first | (with_reducible first | exact HB.out | apply below_alloc | apply pw_below_drewN | apply below_drew1 | refine below_set ?_ GE310.out | refine below_set ?_ GE311.out | refine below_set ?_ GE312.out | refine below_set ?_ GE318.out) | exact HB.out))⟩)
              rintro gb318 w59 ⟨hS_, h0_, h1_, h2_, h3_, h4_, h5_, h6_, h7_, h8_, h9_, h10_, h11_, h12_⟩
              have n0_ : Aside0 (w59.heap[gb310]? = some (.cells #[.int .u64 a0_0, .int .i64 a0_1] 24 (0, 0))) := ⟨h0_⟩
              have n1_ : Aside0 (w59.heap[gb311]? = some (.cells #[.int .u64 a1_0, .int .i64 a1_1] 24 (0, 0))) := ⟨h1_⟩
              have n2_ : Aside0 (w59.heap[gb312]? = some (.cells #[.int .u64 0, .int .i64 0] 24 (0, 0))) := ⟨h2_⟩
              have n3_ : Aside0 (w59.heap[gb318]? = some (.cells #[.int .u64 0, .int .i64 0] 24 (0, 0))) := ⟨h3_⟩
              have n4_ : Aside0 (w.heap.size ≤ gb318) := ⟨h4_⟩
              have n5_ : Aside0 (w.heap.size ≤ gb318) := ⟨h5_⟩
              have n6_ : Aside0 (gb310 ≠ gb318) := ⟨h6_⟩
              have n7_ : Aside0 (gb318 ≠ gb310) := ⟨h7_⟩
              have n8_ : Aside0 (gb311 ≠ gb318) := ⟨h8_⟩
              have n9_ : Aside0 (gb318 ≠ gb311) := ⟨h9_⟩
              have n10_ : Aside0 (gb312 ≠ gb318) := ⟨h10_⟩
              have n11_ : Aside0 (gb318 ≠ gb312) := ⟨h11_⟩
              have n12_ : Aside0 (Below w.heap.size w w59) := ⟨h12_⟩
              clear BK310
              clear BK311
              clear BK312
              clear HB
              clear h0_ h1_ h2_ h3_ h4_ h5_ h6_ h7_ h8_ h9_ h10_ h11_ h12_
              have BK310 := n0_
              have BK311 := n1_
              have BK312 := n2_
              have BK318 := n3_
              have GW318 := n4_
              have GE318 := n5_
              have NB310_318 := n6_
              have NB318_310 := n7_
              have NB311_318 := n8_
              have NB318_311 := n9_
              have NB312_318 := n10_
              have NB318_312 := n11_
              have HB := n12_
              clear n0_ n1_ n2_ n3_ n4_ n5_ n6_ n7_ n8_ n9_ n10_ n11_ n12_
              have hHeld : w59.cell? ⟨gb310, 0, none⟩ = some (.int .u64 a0_0) ∧ w59.cell? ⟨gb310, 1, none⟩ = some (.int .i64 a0_1) ∧ w59.cell? ⟨gb311, 0, none⟩ = some (.int .u64 a1_0) ∧ w59.cell? ⟨gb311, 1, none⟩ = some (.int .i64 a1_1) := hS_
              refine norm_ (a' := ?_) ?_ ?_
              rotate_left
              · simp only [putAll, Act.put, List.setIfInBounds_toArray, List.set_cons_zero, List.set_cons_succ]
                rfl
              refine one_ (i := 11) (N := none) #[true, true, true, true, true, true, true, true, true, true, true, true] rfl rfl (one_of HT_.out (by kernel_rfl)) (by decide) (fun K hK => ?_)
              have hs60 : w59.cell? ⟨gb318, 0, none⟩ = some (.int .u64 0) := (blk_cell BK318.out 0).trans rfl
              have hfs60 := blk_frozen BK318.out 0
              have hns60_0 := NB310_318.out
              have hns60_1 := NB311_318.out
              have hns60_2 := NB312_318.out
              have hms60_0 := NB318_310.out
              have hms60_1 := NB318_311.out
              have hms60_2 := NB318_312.out
              have hs61 : w59.cell? ⟨gb318, 1, none⟩ = some (.int .i64 0) := (blk_cell BK318.out 1).trans rfl
              have hfs61 := blk_frozen BK318.out 1
              have hns61_0 := NB310_318.out
              have hns61_1 := NB311_318.out
              have hns61_2 := NB312_318.out
              have hms61_0 := NB318_310.out
              have hms61_1 := NB318_311.out
              have hms61_2 := NB318_312.out
              refine skip_ (w1 := ?_) (by rfl) rfl ?_ ?_
              rotate_left
              · go_simp
                rfl
              refine hK.out _ _ ⟨((cell_far (p := ⟨gb318, _, none⟩) NB310_318.out _).trans (((cell_far (p := ⟨gb318, _, none⟩) NB310_318.out _).trans (hHeld.1)))), ((cell_far (p := ⟨gb318, _, none⟩) NB310_318.out _).trans (((cell_far (p := ⟨gb318, _, none⟩) NB310_318.out _).trans (hHeld.2.1)))), ((cell_far (p := ⟨gb318, _, none⟩) NB311_318.out _).trans (((cell_far (p := ⟨gb318, _, none⟩) NB311_318.out _).trans (hHeld.2.2.1)))), ((cell_far (p := ⟨gb318, _, none⟩) NB311_318.out _).trans (((cell_far (p := ⟨gb318, _, none⟩) NB311_318.out _).trans (hHeld.2.2.2))))⟩ (fun hHeld => ?_)
              clear hK K
              refine done_ (done_of HT_.out (by kernel_rfl)) ?_
              have hnb62 := NB318_310.out
              have hnc62 := NB310_318.out
              have hnb63 := NB318_311.out
              have hnc63 := NB311_318.out
              have hnb64 := NB318_312.out
              have hnc64 := NB312_318.out
              have hcz65_0 : w59.cell? ⟨gb318, 0, none⟩ = some (.int .u64 0) := (blk_cell BK318.out 0).trans rfl
              have hcz65_1 : w59.cell? ⟨gb318, 1, none⟩ = some (.int .i64 0) := (blk_cell BK318.out 1).trans rfl
              have hfz65_0 := blk_frozen BK318.out 0
              have hfz65_1 := blk_frozen BK318.out 1
              have hcz66_0 : w59.cell? ⟨gb312, 0, none⟩ = some (.int .u64 0) := (blk_cell BK312.out 0).trans rfl
              have hcz66_1 : w59.cell? ⟨gb312, 1, none⟩ = some (.int .i64 0) := (blk_cell BK312.out 1).trans rfl
              have hfz66_0 := blk_frozen BK312.out 0
              have hfz66_1 := blk_frozen BK312.out 1
              try go_wp2
              refine bodyPost_ret (results_ct rfl _ _ gb312 24 #[.int .u64 0, .int .i64 0] (0, 0) _ rfl (by (with_reducible repeat (first | refine blk_drewN ?_ _ | refine blk_drew ?_ | refine blk_alloc ?_ _)); refine blk_put (cs := #[.int .u64 0, .int .i64 0]) ?_ 1 _ rfl; (with_reducible repeat (first | refine blk_drewN ?_ _ | refine blk_drew ?_ | refine blk_alloc ?_ _)); refine blk_put (cs := #[.int .u64 0, .int .i64 0]) ?_ 0 _ rfl; (with_reducible repeat (first | refine blk_drewN ?_ _ | refine blk_drew ?_ | refine blk_alloc ?_ _)); refine blk_far ?_ NB312_318.out _; (with_reducible repeat (first | refine blk_drewN ?_ _ | refine blk_drew ?_ | refine blk_alloc ?_ _)); refine blk_far ?_ NB312_318.out _; (with_reducible repeat (first | refine blk_drewN ?_ _ | refine blk_drew ?_ | refine blk_alloc ?_ _)); exact BK312.out) Try.underlying24 rfl (by kernel_rfl)) rfl ?_
              exact ⟨by first | rfl | (simp [errW_none, errW_some] <;> rfl) | (simp [*, errW_none, errW_some] <;> rfl), by repeat (first | (with_reducible first | exact HB.out | apply below_alloc | apply pw_below_drewN | apply below_drew1 | refine below_set ?_ GE310.out | refine below_set ?_ GE311.out | refine below_set ?_ GE312.out | refine below_set ?_ GE318.out) | exact HB.out)⟩
          · rw [if_neg c35] at H
            have c35b0 : ((wrap64 (a0_1 - a1_1)) == 0) = false := beq_eq_false_iff_ne.mpr c35
            have c35b1 : ((wrap64 (a0_1 - a1_1)) != 0) = true := bne_iff_ne.mpr c35
            simp only [Option.some.injEq, Prod.mk.injEq] at H
            obtain ⟨rfl, rfl, rfl⟩ := H
            have hnb67 := NB310_311.out
            have hnc67 := NB311_310.out
            have hnb68 := NB310_312.out
            have hnc68 := NB312_310.out
            have hcz69_0 : wc.cell? ⟨gb310, 0, none⟩ = some (.int .u64 a0_0) := (blk_cell BK310.out 0).trans rfl
            have hcz69_1 : wc.cell? ⟨gb310, 1, none⟩ = some (.int .i64 a0_1) := (blk_cell BK310.out 1).trans rfl
            have hfz69_0 := blk_frozen BK310.out 0
            have hfz69_1 := blk_frozen BK310.out 1
            have hnb70 := NB311_312.out
            have hnc70 := NB312_311.out
            have hcz71_0 : wc.cell? ⟨gb311, 0, none⟩ = some (.int .u64 a1_0) := (blk_cell BK311.out 0).trans rfl
            have hcz71_1 : wc.cell? ⟨gb311, 1, none⟩ = some (.int .i64 a1_1) := (blk_cell BK311.out 1).trans rfl
            have hfz71_0 := blk_frozen BK311.out 0
            have hfz71_1 := blk_frozen BK311.out 1
            try go_wp2
            have n0_ := Aside0.mk (blk_drew BK310.out)
            have n1_ := Aside0.mk (blk_drew BK311.out)
            have n2_ := Aside0.mk (blk_drew BK312.out)
            have n3_ := Aside0.mk (below_drew1 HB.out)
            clear BK310
            clear BK311
            clear BK312
            clear HB
            have BK310 := n0_
            have BK311 := n1_
            have BK312 := n2_
            have HB := n3_
            clear n0_ n1_ n2_ n3_
            refine start_ (n := 12) (S := fun w' => w'.cell? ⟨gb310, 0, none⟩ = some (.int .u64 a0_0) ∧ w'.cell? ⟨gb310, 1, none⟩ = some (.int .i64 a0_1) ∧ w'.cell? ⟨gb311, 0, none⟩ = some (.int .u64 a1_0) ∧ w'.cell? ⟨gb311, 1, none⟩ = some (.int .i64 a1_1)) (ds := []) #[false, false, false, false, false, false, false, false, false, false, false, false] (by kernel_rfl) rfl rfl ⟨(blk_cell BK310.out 0).trans rfl, (blk_cell BK310.out 1).trans rfl, (blk_cell BK311.out 0).trans rfl, (blk_cell BK311.out 1).trans rfl⟩ (fun hHeld => ?_); refine with_tabW stockyardref22_Rest.tab6 stockyardref22_Rest.bits6 (fun HT_ HW_ => ?_)
            generalize wc.drew = w72 at BK310 BK311 BK312 HB hHeld ⊢
            refine pure_ (i := 0) (N := some 25) (v := ?_) (a' := ?_) #[true, false, false, false, false, false, false, false, false, false, false, false] rfl rfl (any_of HT_.out (by kernel_rfl)) (fun _ _ _ h => h) (Or.inl ⟨by rfl, ?_⟩) ?_ ?_
            rotate_left
            · intro w'
              go_simp
              with_reducible rfl
            rotate_left
            · simp only [Act.put, List.setIfInBounds_toArray, List.set_cons_zero, List.set_cons_succ, i64_w, i32_w]
              rfl
            refine pure_ (i := 2) (N := some 27) (v := ?_) (a' := ?_) #[true, false, true, false, false, false, false, false, false, false, false, false] rfl rfl (any_of HT_.out (by kernel_rfl)) (fun _ _ _ h => h) (Or.inl ⟨by rfl, ?_⟩) ?_ ?_
            rotate_left
            · intro w'
              go_simp
              with_reducible rfl
            rotate_left
            · simp only [Act.put, List.setIfInBounds_toArray, List.set_cons_zero, List.set_cons_succ, i64_w, i32_w]
              rfl
            refine pure_ (i := 4) (N := some 29) (v := ?_) (a' := ?_) #[true, false, true, false, true, false, false, false, false, false, false, false] rfl rfl (any_of HT_.out (by kernel_rfl)) (fun _ _ _ h => h) (Or.inl ⟨by rfl, ?_⟩) ?_ ?_
            rotate_left
            · intro w'
              go_simp
              with_reducible rfl
            rotate_left
            · simp only [Act.put, List.setIfInBounds_toArray, List.set_cons_zero, List.set_cons_succ, i64_w, i32_w]
              rfl
            refine pure_ (i := 8) (N := some 33) (v := ?_) (a' := ?_) #[true, false, true, false, true, false, false, false, true, false, false, false] rfl rfl (any_of HT_.out (by kernel_rfl)) (fun _ _ _ h => h) (Or.inl ⟨by rfl, ?_⟩) ?_ ?_
            rotate_left
            · intro w'
              go_simp
              with_reducible rfl
            rotate_left
            · simp only [Act.put, List.setIfInBounds_toArray, List.set_cons_zero, List.set_cons_succ, i64_w, i32_w]
              rfl
            refine take_ (i := 1) (N := some 26) (v := ?_) (a' := ?_) #[true, true, true, false, true, false, false, false, true, false, false, false] rfl rfl (take_ofW HT_.out HW_.out (by kernel_rfl)) (fun _ _ _ h => h) (Or.inl ⟨by rfl, ?_⟩) hHeld ?_ ?_
            rotate_left
            · rintro w' ⟨s0, s1, s2, s3⟩
              go_simp
              with_reducible rfl
            rotate_left
            · simp only [Act.put, List.setIfInBounds_toArray, List.set_cons_zero, List.set_cons_succ, i64_w, i32_w]
              rfl
            refine take_ (i := 3) (N := some 28) (v := ?_) (a' := ?_) #[true, true, true, true, true, false, false, false, true, false, false, false] rfl rfl (take_ofW HT_.out HW_.out (by kernel_rfl)) (fun _ _ _ h => h) (Or.inl ⟨by rfl, ?_⟩) hHeld ?_ ?_
            rotate_left
            · rintro w' ⟨s0, s1, s2, s3⟩
              go_simp
              with_reducible rfl
            rotate_left
            · simp only [Act.put, List.setIfInBounds_toArray, List.set_cons_zero, List.set_cons_succ, i64_w, i32_w]
              rfl
            refine join_ (σ := Nat) 1 #[true, true, true, true, true, true, true, true, true, true, true, false] (fun s_ => [(30, .int .u64 t315), (31, .int .u64 t316), (32, .int .u64 t317), (7, .pointer (some ⟨s_, 0, none⟩)), (34, .agg #[.int .u64 t317, .int .i64 (wrap64 (a0_1 - a1_1))])]) (fun s_ w' => (w'.cell? ⟨gb310, 0, none⟩ = some (.int .u64 a0_0) ∧ w'.cell? ⟨gb310, 1, none⟩ = some (.int .i64 a0_1) ∧ w'.cell? ⟨gb311, 0, none⟩ = some (.int .u64 a1_0) ∧ w'.cell? ⟨gb311, 1, none⟩ = some (.int .i64 a1_1)) ∧ (w'.heap[gb310]? = some (.cells #[.int .u64 a0_0, .int .i64 a0_1] 24 (0, 0))) ∧ (w'.heap[gb311]? = some (.cells #[.int .u64 a1_0, .int .i64 a1_1] 24 (0, 0))) ∧ (w'.heap[gb312]? = some (.cells #[.int .u64 0, .int .i64 0] 24 (0, 0))) ∧ (w'.heap[s_]? = some (.cells #[.int .u64 0, .int .i64 0] 24 (0, 0))) ∧ (w.heap.size ≤ s_) ∧ (w.heap.size ≤ s_) ∧ (gb310 ≠ s_) ∧ (s_ ≠ gb310) ∧ (gb311 ≠ s_) ∧ (s_ ≠ gb311) ∧ (gb312 ≠ s_) ∧ (s_ ≠ gb312) ∧ (Below w.heap.size w w')) ?_ ?_
            rotate_left
            · intro hCont
              refine two_ (i := 5) (j := 10) (Ni := some 30) (Nj := some 7) #[true, true, true, true, true, true, false, false, true, false, false, false] #[true, true, true, true, true, false, false, false, true, false, true, false] rfl rfl rfl rfl (two_of HT_.out (by kernel_rfl)) (by decide) (by decide) (fun K hK => ?_) (fun K hK => ?_)
              · skip
                refine goes_ Try.func25 (by kernel_rfl) rfl #[.int .i64 (wrap64 (a0_1 - a1_1))] (by rfl) rfl rfl (by (try simp only [List.map_toArray, List.map_cons, List.map_nil]); first | done | rfl | (simp only [List.length_drop, List.length_take]; rfl)) ?_
                with_reducible refine (stockyardref22_Power.calls kj2 (wrap64 (a0_1 - a1_1)) t315 _ A32.out).mono ?_
                rintro e w' ⟨rfl, ⟨nd, rfl⟩⟩
                refine ⟨_, rfl, ?_⟩
                refine hK.out _ _ ⟨(blk_cell BK310.out 0).trans rfl, (blk_cell BK310.out 1).trans rfl, (blk_cell BK311.out 0).trans rfl, (blk_cell BK311.out 1).trans rfl⟩ (fun hHeld => ?_)
                clear hK K
                refine norm_ (a' := ?_) ?_ ?_
                rotate_left
                · show Act.put _ (some 30) _ = _
                  simp only [Act.put, List.setIfInBounds_toArray, List.set_cons_zero, List.set_cons_succ, i64_w, i32_w]
                  rfl
                refine two_ (i := 6) (j := 10) (Ni := some 31) (Nj := some 7) #[true, true, true, true, true, true, true, false, true, false, false, false] #[true, true, true, true, true, true, false, false, true, false, true, false] rfl rfl rfl rfl (two_of HT_.out (by kernel_rfl)) (by decide) (by decide) (fun K hK => ?_) (fun K hK => ?_)
                · skip
                  refine goes_ Try.func38 (by kernel_rfl) rfl #[.int .u64 a1_0, .int .u64 t315] (by rfl) rfl rfl (by (try simp only [List.map_toArray, List.map_cons, List.map_nil]); first | done | rfl | (simp only [List.length_drop, List.length_take]; rfl)) ?_
                  with_reducible refine (stockyardref22_Mul.calls a1_0 t315 t316 _ A33.out).mono ?_
                  rintro e w' ⟨rfl, ⟨nd, rfl⟩⟩
                  refine ⟨_, rfl, ?_⟩
                  refine hK.out _ _ ⟨(blk_cell BK310.out 0).trans rfl, (blk_cell BK310.out 1).trans rfl, (blk_cell BK311.out 0).trans rfl, (blk_cell BK311.out 1).trans rfl⟩ (fun hHeld => ?_)
                  clear hK K
                  refine norm_ (a' := ?_) ?_ ?_
                  rotate_left
                  · show Act.put _ (some 31) _ = _
                    simp only [Act.put, List.setIfInBounds_toArray, List.set_cons_zero, List.set_cons_succ, i64_w, i32_w]
                    rfl
                  refine two_ (i := 7) (j := 10) (Ni := some 32) (Nj := some 7) #[true, true, true, true, true, true, true, true, true, false, false, false] #[true, true, true, true, true, true, true, false, true, false, true, false] rfl rfl rfl rfl (two_of HT_.out (by kernel_rfl)) (by decide) (by decide) (fun K hK => ?_) (fun K hK => ?_)
                  · skip
                    refine goes_ Try.func41 (by kernel_rfl) rfl #[.int .u64 a0_0, .int .u64 t316] (by rfl) rfl rfl (by (try simp only [List.map_toArray, List.map_cons, List.map_nil]); first | done | rfl | (simp only [List.length_drop, List.length_take]; rfl)) ?_
                    with_reducible refine (stockyardref22_Minus.calls a0_0 t316 t317 _ A34.out).mono ?_
                    rintro e w' ⟨rfl, ⟨nd, rfl⟩⟩
                    refine ⟨_, rfl, ?_⟩
                    refine hK.out _ _ ⟨(blk_cell BK310.out 0).trans rfl, (blk_cell BK310.out 1).trans rfl, (blk_cell BK311.out 0).trans rfl, (blk_cell BK311.out 1).trans rfl⟩ (fun hHeld => ?_)
                    clear hK K
                    refine norm_ (a' := ?_) ?_ ?_
                    rotate_left
                    · show Act.put _ (some 32) _ = _
                      simp only [Act.put, List.setIfInBounds_toArray, List.set_cons_zero, List.set_cons_succ, i64_w, i32_w]
                      rfl
                    refine pure_ (i := 9) (N := some 34) (v := ?_) (a' := ?_) #[true, true, true, true, true, true, true, true, true, true, false, false] rfl rfl (any_of HT_.out (by kernel_rfl)) (fun _ _ _ h => h) (Or.inl ⟨by rfl, ?_⟩) ?_ ?_
                    rotate_left
                    · intro w'
                      go_simp
                      with_reducible rfl
                    rotate_left
                    · simp only [Act.put, List.setIfInBounds_toArray, List.set_cons_zero, List.set_cons_succ, i64_w, i32_w]
                      rfl
                    refine one_ (i := 10) (N := some 7) #[true, true, true, true, true, true, true, true, true, true, true, false] rfl rfl (one_of HT_.out (by kernel_rfl)) (by decide) (fun K hK => ?_)
                    refine box_step ?hg (N := 7) ?hd (cs := #[.int .u64 0, .int .i64 0]) (t := 24) ?hr ?_; (case hd => rfl); (case hg => rfl); (case hr => first | (go_simp; done) | (go_simp; rfl))
                    intro gb318 hg w73 hbox hb
                    have n0_ := Aside0.mk (blk_below (g := gb310) (o := .cells #[.int .u64 a0_0, .int .i64 a0_1] 24 (0, 0)) (by (with_reducible repeat (first | refine blk_drewN ?_ _ | refine blk_drew ?_ | refine blk_alloc ?_ _)); exact BK310.out) hb)
                    have n1_ := Aside0.mk (blk_below (g := gb311) (o := .cells #[.int .u64 a1_0, .int .i64 a1_1] 24 (0, 0)) (by (with_reducible repeat (first | refine blk_drewN ?_ _ | refine blk_drew ?_ | refine blk_alloc ?_ _)); exact BK311.out) hb)
                    have n2_ := Aside0.mk (blk_below (g := gb312) (o := .cells #[.int .u64 0, .int .i64 0] 24 (0, 0)) (by (with_reducible repeat (first | refine blk_drewN ?_ _ | refine blk_drew ?_ | refine blk_alloc ?_ _)); exact BK312.out) hb)
                    have n3_ := Aside0.mk (below_step (by repeat (first | (with_reducible first | exact HB.out | apply below_alloc | apply pw_below_drewN | apply below_drew1 | refine below_set ?_ GE310.out | refine below_set ?_ GE311.out | refine below_set ?_ GE312.out) | exact HB.out)) hb)
                    have n4_ := Aside0.mk (hbox)
                    have n5_ := Aside0.mk ((by rw [hg]; exact (below_size (by repeat (first | (with_reducible first | exact HB.out | apply below_alloc | apply pw_below_drewN | apply below_drew1 | refine below_set ?_ GE310.out | refine below_set ?_ GE311.out | refine below_set ?_ GE312.out) | exact HB.out))) : w.heap.size ≤ gb318))
                    have n6_ := Aside0.mk ((by rw [hg]; exact (below_size (by repeat (first | (with_reducible first | exact HB.out | apply below_alloc | apply pw_below_drewN | apply below_drew1 | refine below_set ?_ GE310.out | refine below_set ?_ GE311.out | refine below_set ?_ GE312.out) | exact HB.out))) : w.heap.size ≤ gb318))
                    have n7_ := Aside0.mk ((by rw [hg]; exact Nat.ne_of_lt (blk_lt (g := gb310) (o := .cells #[.int .u64 a0_0, .int .i64 a0_1] 24 (0, 0)) (by (with_reducible repeat (first | refine blk_drewN ?_ _ | refine blk_drew ?_ | refine blk_alloc ?_ _)); exact BK310.out)) : gb310 ≠ gb318))
                    have n8_ := Aside0.mk ((by rw [hg]; exact Nat.ne_of_gt (blk_lt (g := gb310) (o := .cells #[.int .u64 a0_0, .int .i64 a0_1] 24 (0, 0)) (by (with_reducible repeat (first | refine blk_drewN ?_ _ | refine blk_drew ?_ | refine blk_alloc ?_ _)); exact BK310.out)) : gb318 ≠ gb310))
                    have n9_ := Aside0.mk ((by rw [hg]; exact Nat.ne_of_lt (blk_lt (g := gb311) (o := .cells #[.int .u64 a1_0, .int .i64 a1_1] 24 (0, 0)) (by (with_reducible repeat (first | refine blk_drewN ?_ _ | refine blk_drew ?_ | refine blk_alloc ?_ _)); exact BK311.out)) : gb311 ≠ gb318))
                    have n10_ := Aside0.mk ((by rw [hg]; exact Nat.ne_of_gt (blk_lt (g := gb311) (o := .cells #[.int .u64 a1_0, .int .i64 a1_1] 24 (0, 0)) (by (with_reducible repeat (first | refine blk_drewN ?_ _ | refine blk_drew ?_ | refine blk_alloc ?_ _)); exact BK311.out)) : gb318 ≠ gb311))
                    have n11_ := Aside0.mk ((by rw [hg]; exact Nat.ne_of_lt (blk_lt (g := gb312) (o := .cells #[.int .u64 0, .int .i64 0] 24 (0, 0)) (by (with_reducible repeat (first | refine blk_drewN ?_ _ | refine blk_drew ?_ | refine blk_alloc ?_ _)); exact BK312.out)) : gb312 ≠ gb318))
                    have n12_ := Aside0.mk ((by rw [hg]; exact Nat.ne_of_gt (blk_lt (g := gb312) (o := .cells #[.int .u64 0, .int .i64 0] 24 (0, 0)) (by (with_reducible repeat (first | refine blk_drewN ?_ _ | refine blk_drew ?_ | refine blk_alloc ?_ _)); exact BK312.out)) : gb318 ≠ gb312))
                    clear BK310
                    clear BK311
                    clear BK312
                    clear HB
                    have BK310 := n0_
                    have BK311 := n1_
                    have BK312 := n2_
                    have HB := n3_
                    have BK318 := n4_
                    have GW318 := n5_
                    have GE318 := n6_
                    have NB310_318 := n7_
                    have NB318_310 := n8_
                    have NB311_318 := n9_
                    have NB318_311 := n10_
                    have NB312_318 := n11_
                    have NB318_312 := n12_
                    clear n0_ n1_ n2_ n3_ n4_ n5_ n6_ n7_ n8_ n9_ n10_ n11_ n12_
                    clear hb hbox hg
                    refine hK.out _ _ ⟨(blk_cell BK310.out 0).trans rfl, (blk_cell BK310.out 1).trans rfl, (blk_cell BK311.out 0).trans rfl, (blk_cell BK311.out 1).trans rfl⟩ (fun hHeld => ?_)
                    clear hK K
                    refine norm_ (a' := ?_) ?_ ?_
                    rotate_left
                    · show Act.put _ (some 7) _ = _
                      simp only [Act.put, List.setIfInBounds_toArray, List.set_cons_zero, List.set_cons_succ, i64_w, i32_w]
                      rfl
                    exact norm_ (by simp only [putAll, Act.put, List.setIfInBounds_toArray, List.set_cons_zero, List.set_cons_succ]) (hCont (gb318) _ ⟨hHeld, (by (with_reducible repeat (first | refine blk_drewN ?_ _ | refine blk_drew ?_ | refine blk_alloc ?_ _)); exact BK310.out), (by (with_reducible repeat (first | refine blk_drewN ?_ _ | refine blk_drew ?_ | refine blk_alloc ?_ _)); exact BK311.out), (by (with_reducible repeat (first | refine blk_drewN ?_ _ | refine blk_drew ?_ | refine blk_alloc ?_ _)); exact BK312.out), (by (with_reducible repeat (first | refine blk_drewN ?_ _ | refine blk_drew ?_ | refine blk_alloc ?_ _)); exact BK318.out), GW318.out, GE318.out, NB310_318.out, NB318_310.out, NB311_318.out, NB318_311.out, NB312_318.out, NB318_312.out, (by repeat (first | (with_reducible first | exact HB.out | apply below_alloc | apply pw_below_drewN | apply below_drew1 | refine below_set ?_ GE310.out | refine below_set ?_ GE311.out | refine below_set ?_ GE312.out | refine below_set ?_ GE318.out) | exact HB.out))⟩)
                  · skip
                    refine box_step ?hg (N := 7) ?hd (cs := #[.int .u64 0, .int .i64 0]) (t := 24) ?hr ?_; (case hd => rfl); (case hg => rfl); (case hr => first | (go_simp; done) | (go_simp; rfl))
                    intro gb318 hg w73 hbox hb
                    have n0_ := Aside0.mk (blk_below (g := gb310) (o := .cells #[.int .u64 a0_0, .int .i64 a0_1] 24 (0, 0)) (by (with_reducible repeat (first | refine blk_drewN ?_ _ | refine blk_drew ?_ | refine blk_alloc ?_ _)); exact BK310.out) hb)
                    have n1_ := Aside0.mk (blk_below (g := gb311) (o := .cells #[.int .u64 a1_0, .int .i64 a1_1] 24 (0, 0)) (by (with_reducible repeat (first | refine blk_drewN ?_ _ | refine blk_drew ?_ | refine blk_alloc ?_ _)); exact BK311.out) hb)
                    have n2_ := Aside0.mk (blk_below (g := gb312) (o := .cells #[.int .u64 0, .int .i64 0] 24 (0, 0)) (by (with_reducible repeat (first | refine blk_drewN ?_ _ | refine blk_drew ?_ | refine blk_alloc ?_ _)); exact BK312.out) hb)
                    have n3_ := Aside0.mk (below_step (by repeat (first | (with_reducible first | exact HB.out | apply below_alloc | apply pw_below_drewN | apply below_drew1 | refine below_set ?_ GE310.out | refine below_set ?_ GE311.out | refine below_set ?_ GE312.out) | exact HB.out)) hb)
                    have n4_ := Aside0.mk (hbox)
                    have n5_ := Aside0.mk ((by rw [hg]; exact (below_size (by repeat (first | (with_reducible first | exact HB.out | apply below_alloc | apply pw_below_drewN | apply below_drew1 | refine below_set ?_ GE310.out | refine below_set ?_ GE311.out | refine below_set ?_ GE312.out) | exact HB.out))) : w.heap.size ≤ gb318))
                    have n6_ := Aside0.mk ((by rw [hg]; exact (below_size (by repeat (first | (with_reducible first | exact HB.out | apply below_alloc | apply pw_below_drewN | apply below_drew1 | refine below_set ?_ GE310.out | refine below_set ?_ GE311.out | refine below_set ?_ GE312.out) | exact HB.out))) : w.heap.size ≤ gb318))
                    have n7_ := Aside0.mk ((by rw [hg]; exact Nat.ne_of_lt (blk_lt (g := gb310) (o := .cells #[.int .u64 a0_0, .int .i64 a0_1] 24 (0, 0)) (by (with_reducible repeat (first | refine blk_drewN ?_ _ | refine blk_drew ?_ | refine blk_alloc ?_ _)); exact BK310.out)) : gb310 ≠ gb318))
                    have n8_ := Aside0.mk ((by rw [hg]; exact Nat.ne_of_gt (blk_lt (g := gb310) (o := .cells #[.int .u64 a0_0, .int .i64 a0_1] 24 (0, 0)) (by (with_reducible repeat (first | refine blk_drewN ?_ _ | refine blk_drew ?_ | refine blk_alloc ?_ _)); exact BK310.out)) : gb318 ≠ gb310))
                    have n9_ := Aside0.mk ((by rw [hg]; exact Nat.ne_of_lt (blk_lt (g := gb311) (o := .cells #[.int .u64 a1_0, .int .i64 a1_1] 24 (0, 0)) (by (with_reducible repeat (first | refine blk_drewN ?_ _ | refine blk_drew ?_ | refine blk_alloc ?_ _)); exact BK311.out)) : gb311 ≠ gb318))
                    have n10_ := Aside0.mk ((by rw [hg]; exact Nat.ne_of_gt (blk_lt (g := gb311) (o := .cells #[.int .u64 a1_0, .int .i64 a1_1] 24 (0, 0)) (by (with_reducible repeat (first | refine blk_drewN ?_ _ | refine blk_drew ?_ | refine blk_alloc ?_ _)); exact BK311.out)) : gb318 ≠ gb311))
                    have n11_ := Aside0.mk ((by rw [hg]; exact Nat.ne_of_lt (blk_lt (g := gb312) (o := .cells #[.int .u64 0, .int .i64 0] 24 (0, 0)) (by (with_reducible repeat (first | refine blk_drewN ?_ _ | refine blk_drew ?_ | refine blk_alloc ?_ _)); exact BK312.out)) : gb312 ≠ gb318))
                    have n12_ := Aside0.mk ((by rw [hg]; exact Nat.ne_of_gt (blk_lt (g := gb312) (o := .cells #[.int .u64 0, .int .i64 0] 24 (0, 0)) (by (with_reducible repeat (first | refine blk_drewN ?_ _ | refine blk_drew ?_ | refine blk_alloc ?_ _)); exact BK312.out)) : gb318 ≠ gb312))
                    clear BK310
                    clear BK311
                    clear BK312
                    clear HB
                    have BK310 := n0_
                    have BK311 := n1_
                    have BK312 := n2_
                    have HB := n3_
                    have BK318 := n4_
                    have GW318 := n5_
                    have GE318 := n6_
                    have NB310_318 := n7_
                    have NB318_310 := n8_
                    have NB311_318 := n9_
                    have NB318_311 := n10_
                    have NB312_318 := n11_
                    have NB318_312 := n12_
                    clear n0_ n1_ n2_ n3_ n4_ n5_ n6_ n7_ n8_ n9_ n10_ n11_ n12_
                    clear hb hbox hg
                    refine hK.out _ _ ⟨(blk_cell BK310.out 0).trans rfl, (blk_cell BK310.out 1).trans rfl, (blk_cell BK311.out 0).trans rfl, (blk_cell BK311.out 1).trans rfl⟩ (fun hHeld => ?_)
                    clear hK K
                    refine norm_ (a' := ?_) ?_ ?_
                    rotate_left
                    · show Act.put _ (some 7) _ = _
                      simp only [Act.put, List.setIfInBounds_toArray, List.set_cons_zero, List.set_cons_succ, i64_w, i32_w]
                      rfl
                    refine one_ (i := 7) (N := some 32) #[true, true, true, true, true, true, true, true, true, false, true, false] rfl rfl (one_of HT_.out (by kernel_rfl)) (by decide) (fun K hK => ?_)
                    refine goes_ Try.func41 (by kernel_rfl) rfl #[.int .u64 a0_0, .int .u64 t316] (by rfl) rfl rfl (by (try simp only [List.map_toArray, List.map_cons, List.map_nil]); first | done | rfl | (simp only [List.length_drop, List.length_take]; rfl)) ?_
                    with_reducible refine (stockyardref22_Minus.calls a0_0 t316 t317 _ A34.out).mono ?_
                    rintro e w' ⟨rfl, ⟨nd, rfl⟩⟩
                    refine ⟨_, rfl, ?_⟩
                    refine hK.out _ _ ⟨(blk_cell BK310.out 0).trans rfl, (blk_cell BK310.out 1).trans rfl, (blk_cell BK311.out 0).trans rfl, (blk_cell BK311.out 1).trans rfl⟩ (fun hHeld => ?_)
                    clear hK K
                    refine norm_ (a' := ?_) ?_ ?_
                    rotate_left
                    · show Act.put _ (some 32) _ = _
                      simp only [Act.put, List.setIfInBounds_toArray, List.set_cons_zero, List.set_cons_succ, i64_w, i32_w]
                      rfl
                    refine pure_ (i := 9) (N := some 34) (v := ?_) (a' := ?_) #[true, true, true, true, true, true, true, true, true, true, true, false] rfl rfl (any_of HT_.out (by kernel_rfl)) (fun _ _ _ h => h) (Or.inl ⟨by rfl, ?_⟩) ?_ ?_
                    rotate_left
                    · intro w'
                      go_simp
                      with_reducible rfl
                    rotate_left
                    · simp only [Act.put, List.setIfInBounds_toArray, List.set_cons_zero, List.set_cons_succ, i64_w, i32_w]
                      rfl
                    exact norm_ (by simp only [putAll, Act.put, List.setIfInBounds_toArray, List.set_cons_zero, List.set_cons_succ]) (hCont (gb318) _ ⟨hHeld, (by (with_reducible repeat (first | refine blk_drewN ?_ _ | refine blk_drew ?_ | refine blk_alloc ?_ _)); exact BK310.out), (by (with_reducible repeat (first | refine blk_drewN ?_ _ | refine blk_drew ?_ | refine blk_alloc ?_ _)); exact BK311.out), (by (with_reducible repeat (first | refine blk_drewN ?_ _ | refine blk_drew ?_ | refine blk_alloc ?_ _)); exact BK312.out), (by (with_reducible repeat (first | refine blk_drewN ?_ _ | refine blk_drew ?_ | refine blk_alloc ?_ _)); exact BK318.out), GW318.out, GE318.out, NB310_318.out, NB318_310.out, NB311_318.out, NB318_311.out, NB312_318.out, NB318_312.out, (by repeat (first | (with_reducible first | exact HB.out | apply below_alloc | apply pw_below_drewN | apply below_drew1 | refine below_set ?_ GE310.out | refine below_set ?_ GE311.out | refine below_set ?_ GE312.out | refine below_set ?_ GE318.out) | exact HB.out))⟩)
                · skip
                  refine box_step ?hg (N := 7) ?hd (cs := #[.int .u64 0, .int .i64 0]) (t := 24) ?hr ?_; (case hd => rfl); (case hg => rfl); (case hr => first | (go_simp; done) | (go_simp; rfl))
                  intro gb318 hg w73 hbox hb
                  have n0_ := Aside0.mk (blk_below (g := gb310) (o := .cells #[.int .u64 a0_0, .int .i64 a0_1] 24 (0, 0)) (by (with_reducible repeat (first | refine blk_drewN ?_ _ | refine blk_drew ?_ | refine blk_alloc ?_ _)); exact BK310.out) hb)
                  have n1_ := Aside0.mk (blk_below (g := gb311) (o := .cells #[.int .u64 a1_0, .int .i64 a1_1] 24 (0, 0)) (by (with_reducible repeat (first | refine blk_drewN ?_ _ | refine blk_drew ?_ | refine blk_alloc ?_ _)); exact BK311.out) hb)
                  have n2_ := Aside0.mk (blk_below (g := gb312) (o := .cells #[.int .u64 0, .int .i64 0] 24 (0, 0)) (by (with_reducible repeat (first | refine blk_drewN ?_ _ | refine blk_drew ?_ | refine blk_alloc ?_ _)); exact BK312.out) hb)
                  have n3_ := Aside0.mk (below_step (by repeat (first | (with_reducible first | exact HB.out | apply below_alloc | apply pw_below_drewN | apply below_drew1 | refine below_set ?_ GE310.out | refine below_set ?_ GE311.out | refine below_set ?_ GE312.out) | exact HB.out)) hb)
                  have n4_ := Aside0.mk (hbox)
                  have n5_ := Aside0.mk ((by rw [hg]; exact (below_size (by repeat (first | (with_reducible first | exact HB.out | apply below_alloc | apply pw_below_drewN | apply below_drew1 | refine below_set ?_ GE310.out | refine below_set ?_ GE311.out | refine below_set ?_ GE312.out) | exact HB.out))) : w.heap.size ≤ gb318))
                  have n6_ := Aside0.mk ((by rw [hg]; exact (below_size (by repeat (first | (with_reducible first | exact HB.out | apply below_alloc | apply pw_below_drewN | apply below_drew1 | refine below_set ?_ GE310.out | refine below_set ?_ GE311.out | refine below_set ?_ GE312.out) | exact HB.out))) : w.heap.size ≤ gb318))
                  have n7_ := Aside0.mk ((by rw [hg]; exact Nat.ne_of_lt (blk_lt (g := gb310) (o := .cells #[.int .u64 a0_0, .int .i64 a0_1] 24 (0, 0)) (by (with_reducible repeat (first | refine blk_drewN ?_ _ | refine blk_drew ?_ | refine blk_alloc ?_ _)); exact BK310.out)) : gb310 ≠ gb318))
                  have n8_ := Aside0.mk ((by rw [hg]; exact Nat.ne_of_gt (blk_lt (g := gb310) (o := .cells #[.int .u64 a0_0, .int .i64 a0_1] 24 (0, 0)) (by (with_reducible repeat (first | refine blk_drewN ?_ _ | refine blk_drew ?_ | refine blk_alloc ?_ _)); exact BK310.out)) : gb318 ≠ gb310))
                  have n9_ := Aside0.mk ((by rw [hg]; exact Nat.ne_of_lt (blk_lt (g := gb311) (o := .cells #[.int .u64 a1_0, .int .i64 a1_1] 24 (0, 0)) (by (with_reducible repeat (first | refine blk_drewN ?_ _ | refine blk_drew ?_ | refine blk_alloc ?_ _)); exact BK311.out)) : gb311 ≠ gb318))
                  have n10_ := Aside0.mk ((by rw [hg]; exact Nat.ne_of_gt (blk_lt (g := gb311) (o := .cells #[.int .u64 a1_0, .int .i64 a1_1] 24 (0, 0)) (by (with_reducible repeat (first | refine blk_drewN ?_ _ | refine blk_drew ?_ | refine blk_alloc ?_ _)); exact BK311.out)) : gb318 ≠ gb311))
                  have n11_ := Aside0.mk ((by rw [hg]; exact Nat.ne_of_lt (blk_lt (g := gb312) (o := .cells #[.int .u64 0, .int .i64 0] 24 (0, 0)) (by (with_reducible repeat (first | refine blk_drewN ?_ _ | refine blk_drew ?_ | refine blk_alloc ?_ _)); exact BK312.out)) : gb312 ≠ gb318))
                  have n12_ := Aside0.mk ((by rw [hg]; exact Nat.ne_of_gt (blk_lt (g := gb312) (o := .cells #[.int .u64 0, .int .i64 0] 24 (0, 0)) (by (with_reducible repeat (first | refine blk_drewN ?_ _ | refine blk_drew ?_ | refine blk_alloc ?_ _)); exact BK312.out)) : gb318 ≠ gb312))
                  clear BK310
                  clear BK311
                  clear BK312
                  clear HB
                  have BK310 := n0_
                  have BK311 := n1_
                  have BK312 := n2_
                  have HB := n3_
                  have BK318 := n4_
                  have GW318 := n5_
                  have GE318 := n6_
                  have NB310_318 := n7_
                  have NB318_310 := n8_
                  have NB311_318 := n9_
                  have NB318_311 := n10_
                  have NB312_318 := n11_
                  have NB318_312 := n12_
                  clear n0_ n1_ n2_ n3_ n4_ n5_ n6_ n7_ n8_ n9_ n10_ n11_ n12_
                  clear hb hbox hg
                  refine hK.out _ _ ⟨(blk_cell BK310.out 0).trans rfl, (blk_cell BK310.out 1).trans rfl, (blk_cell BK311.out 0).trans rfl, (blk_cell BK311.out 1).trans rfl⟩ (fun hHeld => ?_)
                  clear hK K
                  refine norm_ (a' := ?_) ?_ ?_
                  rotate_left
                  · show Act.put _ (some 7) _ = _
                    simp only [Act.put, List.setIfInBounds_toArray, List.set_cons_zero, List.set_cons_succ, i64_w, i32_w]
                    rfl
                  refine one_ (i := 6) (N := some 31) #[true, true, true, true, true, true, true, false, true, false, true, false] rfl rfl (one_of HT_.out (by kernel_rfl)) (by decide) (fun K hK => ?_)
                  refine goes_ Try.func38 (by kernel_rfl) rfl #[.int .u64 a1_0, .int .u64 t315] (by rfl) rfl rfl (by (try simp only [List.map_toArray, List.map_cons, List.map_nil]); first | done | rfl | (simp only [List.length_drop, List.length_take]; rfl)) ?_
                  with_reducible refine (stockyardref22_Mul.calls a1_0 t315 t316 _ A33.out).mono ?_
                  rintro e w' ⟨rfl, ⟨nd, rfl⟩⟩
                  refine ⟨_, rfl, ?_⟩
                  refine hK.out _ _ ⟨(blk_cell BK310.out 0).trans rfl, (blk_cell BK310.out 1).trans rfl, (blk_cell BK311.out 0).trans rfl, (blk_cell BK311.out 1).trans rfl⟩ (fun hHeld => ?_)
                  clear hK K
                  refine norm_ (a' := ?_) ?_ ?_
                  rotate_left
                  · show Act.put _ (some 31) _ = _
                    simp only [Act.put, List.setIfInBounds_toArray, List.set_cons_zero, List.set_cons_succ, i64_w, i32_w]
                    rfl
                  refine one_ (i := 7) (N := some 32) #[true, true, true, true, true, true, true, true, true, false, true, false] rfl rfl (one_of HT_.out (by kernel_rfl)) (by decide) (fun K hK => ?_)
                  refine goes_ Try.func41 (by kernel_rfl) rfl #[.int .u64 a0_0, .int .u64 t316] (by rfl) rfl rfl (by (try simp only [List.map_toArray, List.map_cons, List.map_nil]); first | done | rfl | (simp only [List.length_drop, List.length_take]; rfl)) ?_
                  with_reducible refine (stockyardref22_Minus.calls a0_0 t316 t317 _ A34.out).mono ?_
                  rintro e w' ⟨rfl, ⟨nd, rfl⟩⟩
                  refine ⟨_, rfl, ?_⟩
                  refine hK.out _ _ ⟨(blk_cell BK310.out 0).trans rfl, (blk_cell BK310.out 1).trans rfl, (blk_cell BK311.out 0).trans rfl, (blk_cell BK311.out 1).trans rfl⟩ (fun hHeld => ?_)
                  clear hK K
                  refine norm_ (a' := ?_) ?_ ?_
                  rotate_left
                  · show Act.put _ (some 32) _ = _
                    simp only [Act.put, List.setIfInBounds_toArray, List.set_cons_zero, List.set_cons_succ, i64_w, i32_w]
                    rfl
                  refine pure_ (i := 9) (N := some 34) (v := ?_) (a' := ?_) #[true, true, true, true, true, true, true, true, true, true, true, false] rfl rfl (any_of HT_.out (by kernel_rfl)) (fun _ _ _ h => h) (Or.inl ⟨by rfl, ?_⟩) ?_ ?_
                  rotate_left
                  · intro w'
                    go_simp
                    with_reducible rfl
                  rotate_left
                  · simp only [Act.put, List.setIfInBounds_toArray, List.set_cons_zero, List.set_cons_succ, i64_w, i32_w]
                    rfl
                  exact norm_ (by simp only [putAll, Act.put, List.setIfInBounds_toArray, List.set_cons_zero, List.set_cons_succ]) (hCont (gb318) _ ⟨hHeld, (by (with_reducible repeat (first | refine blk_drewN ?_ _ | refine blk_drew ?_ | refine blk_alloc ?_ _)); exact BK310.out), (by (with_reducible repeat (first | refine blk_drewN ?_ _ | refine blk_drew ?_ | refine blk_alloc ?_ _)); exact BK311.out), (by (with_reducible repeat (first | refine blk_drewN ?_ _ | refine blk_drew ?_ | refine blk_alloc ?_ _)); exact BK312.out), (by (with_reducible repeat (first | refine blk_drewN ?_ _ | refine blk_drew ?_ | refine blk_alloc ?_ _)); exact BK318.out), GW318.out, GE318.out, NB310_318.out, NB318_310.out, NB311_318.out, NB318_311.out, NB312_318.out, NB318_312.out, (by repeat (first | (with_reducible first | exact HB.out | apply below_alloc | apply pw_below_drewN | apply below_drew1 | refine below_set ?_ GE310.out | refine below_set ?_ GE311.out | refine below_set ?_ GE312.out | refine below_set ?_ GE318.out) | exact HB.out))⟩)
              · skip
                refine box_step ?hg (N := 7) ?hd (cs := #[.int .u64 0, .int .i64 0]) (t := 24) ?hr ?_; (case hd => rfl); (case hg => rfl); (case hr => first | (go_simp; done) | (go_simp; rfl))
                intro gb318 hg w73 hbox hb
                have n0_ := Aside0.mk (blk_below (g := gb310) (o := .cells #[.int .u64 a0_0, .int .i64 a0_1] 24 (0, 0)) (by (with_reducible repeat (first | refine blk_drewN ?_ _ | refine blk_drew ?_ | refine blk_alloc ?_ _)); exact BK310.out) hb)
                have n1_ := Aside0.mk (blk_below (g := gb311) (o := .cells #[.int .u64 a1_0, .int .i64 a1_1] 24 (0, 0)) (by (with_reducible repeat (first | refine blk_drewN ?_ _ | refine blk_drew ?_ | refine blk_alloc ?_ _)); exact BK311.out) hb)
                have n2_ := Aside0.mk (blk_below (g := gb312) (o := .cells #[.int .u64 0, .int .i64 0] 24 (0, 0)) (by (with_reducible repeat (first | refine blk_drewN ?_ _ | refine blk_drew ?_ | refine blk_alloc ?_ _)); exact BK312.out) hb)
                have n3_ := Aside0.mk (below_step (by repeat (first | (with_reducible first | exact HB.out | apply below_alloc | apply pw_below_drewN | apply below_drew1 | refine below_set ?_ GE310.out | refine below_set ?_ GE311.out | refine below_set ?_ GE312.out) | exact HB.out)) hb)
                have n4_ := Aside0.mk (hbox)
                have n5_ := Aside0.mk ((by rw [hg]; exact (below_size (by repeat (first | (with_reducible first | exact HB.out | apply below_alloc | apply pw_below_drewN | apply below_drew1 | refine below_set ?_ GE310.out | refine below_set ?_ GE311.out | refine below_set ?_ GE312.out) | exact HB.out))) : w.heap.size ≤ gb318))
                have n6_ := Aside0.mk ((by rw [hg]; exact (below_size (by repeat (first | (with_reducible first | exact HB.out | apply below_alloc | apply pw_below_drewN | apply below_drew1 | refine below_set ?_ GE310.out | refine below_set ?_ GE311.out | refine below_set ?_ GE312.out) | exact HB.out))) : w.heap.size ≤ gb318))
                have n7_ := Aside0.mk ((by rw [hg]; exact Nat.ne_of_lt (blk_lt (g := gb310) (o := .cells #[.int .u64 a0_0, .int .i64 a0_1] 24 (0, 0)) (by (with_reducible repeat (first | refine blk_drewN ?_ _ | refine blk_drew ?_ | refine blk_alloc ?_ _)); exact BK310.out)) : gb310 ≠ gb318))
                have n8_ := Aside0.mk ((by rw [hg]; exact Nat.ne_of_gt (blk_lt (g := gb310) (o := .cells #[.int .u64 a0_0, .int .i64 a0_1] 24 (0, 0)) (by (with_reducible repeat (first | refine blk_drewN ?_ _ | refine blk_drew ?_ | refine blk_alloc ?_ _)); exact BK310.out)) : gb318 ≠ gb310))
                have n9_ := Aside0.mk ((by rw [hg]; exact Nat.ne_of_lt (blk_lt (g := gb311) (o := .cells #[.int .u64 a1_0, .int .i64 a1_1] 24 (0, 0)) (by (with_reducible repeat (first | refine blk_drewN ?_ _ | refine blk_drew ?_ | refine blk_alloc ?_ _)); exact BK311.out)) : gb311 ≠ gb318))
                have n10_ := Aside0.mk ((by rw [hg]; exact Nat.ne_of_gt (blk_lt (g := gb311) (o := .cells #[.int .u64 a1_0, .int .i64 a1_1] 24 (0, 0)) (by (with_reducible repeat (first | refine blk_drewN ?_ _ | refine blk_drew ?_ | refine blk_alloc ?_ _)); exact BK311.out)) : gb318 ≠ gb311))
                have n11_ := Aside0.mk ((by rw [hg]; exact Nat.ne_of_lt (blk_lt (g := gb312) (o := .cells #[.int .u64 0, .int .i64 0] 24 (0, 0)) (by (with_reducible repeat (first | refine blk_drewN ?_ _ | refine blk_drew ?_ | refine blk_alloc ?_ _)); exact BK312.out)) : gb312 ≠ gb318))
                have n12_ := Aside0.mk ((by rw [hg]; exact Nat.ne_of_gt (blk_lt (g := gb312) (o := .cells #[.int .u64 0, .int .i64 0] 24 (0, 0)) (by (with_reducible repeat (first | refine blk_drewN ?_ _ | refine blk_drew ?_ | refine blk_alloc ?_ _)); exact BK312.out)) : gb318 ≠ gb312))
                clear BK310
                clear BK311
                clear BK312
                clear HB
                have BK310 := n0_
                have BK311 := n1_
                have BK312 := n2_
                have HB := n3_
                have BK318 := n4_
                have GW318 := n5_
                have GE318 := n6_
                have NB310_318 := n7_
                have NB318_310 := n8_
                have NB311_318 := n9_
                have NB318_311 := n10_
                have NB312_318 := n11_
                have NB318_312 := n12_
                clear n0_ n1_ n2_ n3_ n4_ n5_ n6_ n7_ n8_ n9_ n10_ n11_ n12_
                clear hb hbox hg
                refine hK.out _ _ ⟨(blk_cell BK310.out 0).trans rfl, (blk_cell BK310.out 1).trans rfl, (blk_cell BK311.out 0).trans rfl, (blk_cell BK311.out 1).trans rfl⟩ (fun hHeld => ?_)
                clear hK K
                refine norm_ (a' := ?_) ?_ ?_
                rotate_left
                · show Act.put _ (some 7) _ = _
                  simp only [Act.put, List.setIfInBounds_toArray, List.set_cons_zero, List.set_cons_succ, i64_w, i32_w]
                  rfl
                refine one_ (i := 5) (N := some 30) #[true, true, true, true, true, true, false, false, true, false, true, false] rfl rfl (one_of HT_.out (by kernel_rfl)) (by decide) (fun K hK => ?_)
                refine goes_ Try.func25 (by kernel_rfl) rfl #[.int .i64 (wrap64 (a0_1 - a1_1))] (by rfl) rfl rfl (by (try simp only [List.map_toArray, List.map_cons, List.map_nil]); first | done | rfl | (simp only [List.length_drop, List.length_take]; rfl)) ?_
                with_reducible refine (stockyardref22_Power.calls kj2 (wrap64 (a0_1 - a1_1)) t315 _ A32.out).mono ?_
                rintro e w' ⟨rfl, ⟨nd, rfl⟩⟩
                refine ⟨_, rfl, ?_⟩
                refine hK.out _ _ ⟨(blk_cell BK310.out 0).trans rfl, (blk_cell BK310.out 1).trans rfl, (blk_cell BK311.out 0).trans rfl, (blk_cell BK311.out 1).trans rfl⟩ (fun hHeld => ?_)
                clear hK K
                refine norm_ (a' := ?_) ?_ ?_
                rotate_left
                · show Act.put _ (some 30) _ = _
                  simp only [Act.put, List.setIfInBounds_toArray, List.set_cons_zero, List.set_cons_succ, i64_w, i32_w]
                  rfl
                refine one_ (i := 6) (N := some 31) #[true, true, true, true, true, true, true, false, true, false, true, false] rfl rfl (one_of HT_.out (by kernel_rfl)) (by decide) (fun K hK => ?_)
                refine goes_ Try.func38 (by kernel_rfl) rfl #[.int .u64 a1_0, .int .u64 t315] (by rfl) rfl rfl (by (try simp only [List.map_toArray, List.map_cons, List.map_nil]); first | done | rfl | (simp only [List.length_drop, List.length_take]; rfl)) ?_
                with_reducible refine (stockyardref22_Mul.calls a1_0 t315 t316 _ A33.out).mono ?_
                rintro e w' ⟨rfl, ⟨nd, rfl⟩⟩
                refine ⟨_, rfl, ?_⟩
                refine hK.out _ _ ⟨(blk_cell BK310.out 0).trans rfl, (blk_cell BK310.out 1).trans rfl, (blk_cell BK311.out 0).trans rfl, (blk_cell BK311.out 1).trans rfl⟩ (fun hHeld => ?_)
                clear hK K
                refine norm_ (a' := ?_) ?_ ?_
                rotate_left
                · show Act.put _ (some 31) _ = _
                  simp only [Act.put, List.setIfInBounds_toArray, List.set_cons_zero, List.set_cons_succ, i64_w, i32_w]
                  rfl
                refine one_ (i := 7) (N := some 32) #[true, true, true, true, true, true, true, true, true, false, true, false] rfl rfl (one_of HT_.out (by kernel_rfl)) (by decide) (fun K hK => ?_)
                refine goes_ Try.func41 (by kernel_rfl) rfl #[.int .u64 a0_0, .int .u64 t316] (by rfl) rfl rfl (by (try simp only [List.map_toArray, List.map_cons, List.map_nil]); first | done | rfl | (simp only [List.length_drop, List.length_take]; rfl)) ?_
                with_reducible refine (stockyardref22_Minus.calls a0_0 t316 t317 _ A34.out).mono ?_
                rintro e w' ⟨rfl, ⟨nd, rfl⟩⟩
                refine ⟨_, rfl, ?_⟩
                refine hK.out _ _ ⟨(blk_cell BK310.out 0).trans rfl, (blk_cell BK310.out 1).trans rfl, (blk_cell BK311.out 0).trans rfl, (blk_cell BK311.out 1).trans rfl⟩ (fun hHeld => ?_)
                clear hK K
                refine norm_ (a' := ?_) ?_ ?_
                rotate_left
                · show Act.put _ (some 32) _ = _
                  simp only [Act.put, List.setIfInBounds_toArray, List.set_cons_zero, List.set_cons_succ, i64_w, i32_w]
                  rfl
                refine pure_ (i := 9) (N := some 34) (v := ?_) (a' := ?_) #[true, true, true, true, true, true, true, true, true, true, true, false] rfl rfl (any_of HT_.out (by kernel_rfl)) (fun _ _ _ h => h) (Or.inl ⟨by rfl, ?_⟩) ?_ ?_
                rotate_left
                · intro w'
                  go_simp
                  with_reducible rfl
                rotate_left
                · simp only [Act.put, List.setIfInBounds_toArray, List.set_cons_zero, List.set_cons_succ, i64_w, i32_w]
                  rfl
                exact norm_ (by simp only [putAll, Act.put, List.setIfInBounds_toArray, List.set_cons_zero, List.set_cons_succ]) (hCont (gb318) _ ⟨hHeld, (by (with_reducible repeat (first | refine blk_drewN ?_ _ | refine blk_drew ?_ | refine blk_alloc ?_ _)); exact BK310.out), (by (with_reducible repeat (first | refine blk_drewN ?_ _ | refine blk_drew ?_ | refine blk_alloc ?_ _)); exact BK311.out), (by (with_reducible repeat (first | refine blk_drewN ?_ _ | refine blk_drew ?_ | refine blk_alloc ?_ _)); exact BK312.out), (by (with_reducible repeat (first | refine blk_drewN ?_ _ | refine blk_drew ?_ | refine blk_alloc ?_ _)); exact BK318.out), GW318.out, GE318.out, NB310_318.out, NB318_310.out, NB311_318.out, NB318_311.out, NB312_318.out, NB318_312.out, (by repeat (first | (with_reducible first | exact HB.out | apply below_alloc | apply pw_below_drewN | apply below_drew1 | refine below_set ?_ GE310.out | refine below_set ?_ GE311.out | refine below_set ?_ GE312.out | refine below_set ?_ GE318.out) | exact HB.out))⟩)
            rintro gb318 w74 ⟨hS_, h0_, h1_, h2_, h3_, h4_, h5_, h6_, h7_, h8_, h9_, h10_, h11_, h12_⟩
            have n0_ : Aside0 (w74.heap[gb310]? = some (.cells #[.int .u64 a0_0, .int .i64 a0_1] 24 (0, 0))) := ⟨h0_⟩
            have n1_ : Aside0 (w74.heap[gb311]? = some (.cells #[.int .u64 a1_0, .int .i64 a1_1] 24 (0, 0))) := ⟨h1_⟩
            have n2_ : Aside0 (w74.heap[gb312]? = some (.cells #[.int .u64 0, .int .i64 0] 24 (0, 0))) := ⟨h2_⟩
            have n3_ : Aside0 (w74.heap[gb318]? = some (.cells #[.int .u64 0, .int .i64 0] 24 (0, 0))) := ⟨h3_⟩
            have n4_ : Aside0 (w.heap.size ≤ gb318) := ⟨h4_⟩
            have n5_ : Aside0 (w.heap.size ≤ gb318) := ⟨h5_⟩
            have n6_ : Aside0 (gb310 ≠ gb318) := ⟨h6_⟩
            have n7_ : Aside0 (gb318 ≠ gb310) := ⟨h7_⟩
            have n8_ : Aside0 (gb311 ≠ gb318) := ⟨h8_⟩
            have n9_ : Aside0 (gb318 ≠ gb311) := ⟨h9_⟩
            have n10_ : Aside0 (gb312 ≠ gb318) := ⟨h10_⟩
            have n11_ : Aside0 (gb318 ≠ gb312) := ⟨h11_⟩
            have n12_ : Aside0 (Below w.heap.size w w74) := ⟨h12_⟩
            clear BK310
            clear BK311
            clear BK312
            clear HB
            clear h0_ h1_ h2_ h3_ h4_ h5_ h6_ h7_ h8_ h9_ h10_ h11_ h12_
            have BK310 := n0_
            have BK311 := n1_
            have BK312 := n2_
            have BK318 := n3_
            have GW318 := n4_
            have GE318 := n5_
            have NB310_318 := n6_
            have NB318_310 := n7_
            have NB311_318 := n8_
            have NB318_311 := n9_
            have NB312_318 := n10_
            have NB318_312 := n11_
            have HB := n12_
            clear n0_ n1_ n2_ n3_ n4_ n5_ n6_ n7_ n8_ n9_ n10_ n11_ n12_
            have hHeld : w74.cell? ⟨gb310, 0, none⟩ = some (.int .u64 a0_0) ∧ w74.cell? ⟨gb310, 1, none⟩ = some (.int .i64 a0_1) ∧ w74.cell? ⟨gb311, 0, none⟩ = some (.int .u64 a1_0) ∧ w74.cell? ⟨gb311, 1, none⟩ = some (.int .i64 a1_1) := hS_
            refine norm_ (a' := ?_) ?_ ?_
            rotate_left
            · simp only [putAll, Act.put, List.setIfInBounds_toArray, List.set_cons_zero, List.set_cons_succ]
              rfl
            refine one_ (i := 11) (N := none) #[true, true, true, true, true, true, true, true, true, true, true, true] rfl rfl (one_of HT_.out (by kernel_rfl)) (by decide) (fun K hK => ?_)
            have hs75 : w74.cell? ⟨gb318, 0, none⟩ = some (.int .u64 0) := (blk_cell BK318.out 0).trans rfl
            have hfs75 := blk_frozen BK318.out 0
            have hns75_0 := NB310_318.out
            have hns75_1 := NB311_318.out
            have hns75_2 := NB312_318.out
            have hms75_0 := NB318_310.out
            have hms75_1 := NB318_311.out
            have hms75_2 := NB318_312.out
            have hs76 : w74.cell? ⟨gb318, 1, none⟩ = some (.int .i64 0) := (blk_cell BK318.out 1).trans rfl
            have hfs76 := blk_frozen BK318.out 1
            have hns76_0 := NB310_318.out
            have hns76_1 := NB311_318.out
            have hns76_2 := NB312_318.out
            have hms76_0 := NB318_310.out
            have hms76_1 := NB318_311.out
            have hms76_2 := NB318_312.out
            refine skip_ (w1 := ?_) (by rfl) rfl ?_ ?_
            rotate_left
            · go_simp
              rfl
            refine hK.out _ _ ⟨((cell_far (p := ⟨gb318, _, none⟩) NB310_318.out _).trans (((cell_far (p := ⟨gb318, _, none⟩) NB310_318.out _).trans (hHeld.1)))), ((cell_far (p := ⟨gb318, _, none⟩) NB310_318.out _).trans (((cell_far (p := ⟨gb318, _, none⟩) NB310_318.out _).trans (hHeld.2.1)))), ((cell_far (p := ⟨gb318, _, none⟩) NB311_318.out _).trans (((cell_far (p := ⟨gb318, _, none⟩) NB311_318.out _).trans (hHeld.2.2.1)))), ((cell_far (p := ⟨gb318, _, none⟩) NB311_318.out _).trans (((cell_far (p := ⟨gb318, _, none⟩) NB311_318.out _).trans (hHeld.2.2.2))))⟩ (fun hHeld => ?_)
            clear hK K
            refine done_ (done_of HT_.out (by kernel_rfl)) ?_
            have hnb77 := NB318_310.out
            have hnc77 := NB310_318.out
            have hnb78 := NB318_311.out
            have hnc78 := NB311_318.out
            have hnb79 := NB318_312.out
            have hnc79 := NB312_318.out
            have hcz80_0 : w74.cell? ⟨gb318, 0, none⟩ = some (.int .u64 0) := (blk_cell BK318.out 0).trans rfl
            have hcz80_1 : w74.cell? ⟨gb318, 1, none⟩ = some (.int .i64 0) := (blk_cell BK318.out 1).trans rfl
            have hfz80_0 := blk_frozen BK318.out 0
            have hfz80_1 := blk_frozen BK318.out 1
            have hcz81_0 : w74.cell? ⟨gb312, 0, none⟩ = some (.int .u64 0) := (blk_cell BK312.out 0).trans rfl
            have hcz81_1 : w74.cell? ⟨gb312, 1, none⟩ = some (.int .i64 0) := (blk_cell BK312.out 1).trans rfl
            have hfz81_0 := blk_frozen BK312.out 0
            have hfz81_1 := blk_frozen BK312.out 1
            try go_wp2
            refine bodyPost_ret (results_ct rfl _ _ gb312 24 #[.int .u64 t317, .int .i64 (wrap64 (a0_1 - a1_1))] (0, 0) _ rfl (by (with_reducible repeat (first | refine blk_drewN ?_ _ | refine blk_drew ?_ | refine blk_alloc ?_ _)); refine blk_put (cs := #[.int .u64 t317, .int .i64 0]) ?_ 1 _ rfl; (with_reducible repeat (first | refine blk_drewN ?_ _ | refine blk_drew ?_ | refine blk_alloc ?_ _)); refine blk_put (cs := #[.int .u64 0, .int .i64 0]) ?_ 0 _ rfl; (with_reducible repeat (first | refine blk_drewN ?_ _ | refine blk_drew ?_ | refine blk_alloc ?_ _)); refine blk_far ?_ NB312_318.out _; (with_reducible repeat (first | refine blk_drewN ?_ _ | refine blk_drew ?_ | refine blk_alloc ?_ _)); refine blk_far ?_ NB312_318.out _; (with_reducible repeat (first | refine blk_drewN ?_ _ | refine blk_drew ?_ | refine blk_alloc ?_ _)); exact BK312.out) Try.underlying24 rfl (by kernel_rfl)) rfl ?_
            exact ⟨by first | rfl | (simp [errW_none, errW_some] <;> rfl) | (simp [*, errW_none, errW_some] <;> rfl), by repeat (first | (with_reducible first | exact HB.out | apply below_alloc | apply pw_below_drewN | apply below_drew1 | refine below_set ?_ GE310.out | refine below_set ?_ GE311.out | refine below_set ?_ GE312.out | refine below_set ?_ GE318.out) | exact HB.out)⟩

end Go.Proofs.Ytbjadpeolkpmcaa.P
