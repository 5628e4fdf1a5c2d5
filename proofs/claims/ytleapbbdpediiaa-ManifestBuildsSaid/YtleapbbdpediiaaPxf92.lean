-- What this claim does not use is left out (shake.py).
import Derived.Test.YtleapbbdpediiaaPx0
import Derived.Test.YtleapbbdpediiaaPxf45
import Derived.Test.YtleapbbdpediiaaPxf49
import Derived.Test.YtleapbbdpediiaaPxf55
import Derived.Test.YtleapbbdpediiaaPxf81
-- Printed by a program (pr.py over the kit's print) out of the translation.
namespace Go.Proofs.Ytleapbbdpediiaa.P
open Go.RowKit Go.Proofs.YtleapbbdpediiaaW.PrintWords Go.Proofs.YtleapbbdpediiaaW.PrintLast Go.Proofs.YtleapbbdpediiaaW.PrintMore
attribute [local go_sem] max2_int min2_int max_two min_two max_three min_three max_four min_four   -- for this text's walks alone
set_option linter.unusedVariables false
set_option linter.unusedSimpArgs false

/-! ### fingerprint_Rest: function 92 -/
mutual
def fingerprint_Rest.j0 : Nat → Int → Bool → Int → Int → Int → Int → Option (Int × Int × Int)
  | 0, _, _, _, _, _, _ => none
  | k + 1, x6, x12, x658000, x658001, x659000, x659001 => if x12 = true then (some (0, 0, 220)) else (if x6 < 0 then (some (0, 0, 221)) else (if x6 = 0 then (fingerprint_Rest.j1 k x6 (x658000 != x659000) x658000 x658001 x659000 x659001) else (fingerprint_Rest.j1 k x6 false x658000 x658001 x659000 x659001)))
def fingerprint_Rest.j1 : Nat → Int → Bool → Int → Int → Int → Int → Option (Int × Int × Int)
  | 0, _, _, _, _, _, _ => none
  | k + 1, x6, x26, x658000, x658001, x659000, x659001 => if x26 = true then (some (0, 0, 220)) else ((fingerprint_Power.f k x6).bind fun t662 => ((fingerprint_mul.f x659000 t662).bind fun t663 => ((fingerprint_sub.f x658000 t663).bind fun t664 => (some (t664, x6, 0)))))
end
def fingerprint_Rest.f (k : Nat) (a0_0 : Int) (a0_1 : Int) (a1_0 : Int) (a1_1 : Int) : Option (Int × Int × Int) := (fingerprint_Valid.f a0_0 a0_1).bind fun t660 => (if t660 = true then ((fingerprint_Valid.f a1_0 a1_1).bind fun t661 => (fingerprint_Rest.j0 k (wrap64 (a0_1 - a1_1)) (!t661) a0_0 a0_1 a1_0 a1_1)) else (fingerprint_Rest.j0 k (wrap64 (a0_1 - a1_1)) true a0_0 a0_1 a1_0 a1_1))
def fingerprint_Rest.T8 : Bool × List (List Nat × List Nat) := (true, [([], []), ([0], [0]), ([], []), ([2], [2]), ([], []), ([4], [4]), ([3, 5, 5], [3, 5]), ([1, 6, 6], [1, 6]), ([], []), ([7, 8], [7, 8]), ([9, 7, 0, 1, 2, 3, 4, 5, 6, 7, 8, 9], [9]), ([10, 0, 1, 2, 3, 4, 5, 6, 7, 8, 9, 10], [])])
def fingerprint_Rest.B8 : List Nat := [0, 1, 0, 4, 0, 16, 60, 127, 0, 511, 1023, 2047]
theorem fingerprint_Rest.tab8 : rtab .any (opsOf Try.f92 8) = fingerprint_Rest.T8 := by kernel_rfl
theorem fingerprint_Rest.bits8 : waitsOk fingerprint_Rest.T8.2 fingerprint_Rest.B8 = true := by kernel_rfl
set_option maxHeartbeats 8000000 in
set_option maxRecDepth 100000 in
theorem fingerprint_Rest.calls (k : Nat) (a0_0 : Int) (a0_1 : Int) (a1_0 : Int) (a1_1 : Int) (r1 : Int) (r2 : Int) (r3 : Int) (w : World) (h : fingerprint_Rest.f k a0_0 a0_1 a1_0 a1_1 = some (r1, r2, r3)) :
    Calls Try.prog 92 #[.agg #[.int .u64 a0_0, .int .i64 a0_1], .agg #[.int .u64 a1_0, .int .i64 a1_1]] w fun e w' => e = .returned (.tuple #[.agg #[.int .u64 r1, .int .i64 r2], .int .i64 r3]) ∧ Below w.heap.size w w' := by
  have hu51 := Try.underlying51
  have HB := Aside0.mk (Below.refl w.heap.size w)
  have H : ((fingerprint_Valid.f a0_0 a0_1).bind fun t660 => (if t660 = true then ((fingerprint_Valid.f a1_0 a1_1).bind fun t661 => (fingerprint_Rest.j0 k (wrap64 (a0_1 - a1_1)) (!t661) a0_0 a0_1 a1_0 a1_1)) else (fingerprint_Rest.j0 k (wrap64 (a0_1 - a1_1)) true a0_0 a0_1 a1_0 a1_1))) = some (r1, r2, r3) := h
  clear h
  have HC3 := Aside0.mk H
  clear H
  go_enter Try.func92, Try.ntmps92
  go_upto_region 2 with (first | ((with_reducible refine gate_dst (N := 2) rfl ?_); refine box_event ?hg (N := 2) ?hd (cs := #[.int .u64 a0_0, .int .i64 a0_1]) (t := 51) ?hr ?_; (case hd => rfl); (case hg => rfl); (case hr => first | (go_simp; done) | (go_simp; rfl)); intro gb657 hg w4 hbox hb; have n0_ := Aside0.mk (below_step (by repeat (first | (with_reducible first | exact HB.out | apply below_alloc | apply pw_below_drewN | apply below_drew1) | exact HB.out)) hb); have n1_ := Aside0.mk (hbox); have n2_ := Aside0.mk ((by rw [hg]; exact (below_size (by repeat (first | (with_reducible first | exact HB.out | apply below_alloc | apply pw_below_drewN | apply below_drew1) | exact HB.out))) : w.heap.size ≤ gb657)); have n3_ := Aside0.mk ((by rw [hg]; exact (below_size (by repeat (first | (with_reducible first | exact HB.out | apply below_alloc | apply pw_below_drewN | apply below_drew1) | exact HB.out))) : w.heap.size ≤ gb657)); clear HB; have HB := n0_; have BK657 := n1_; have GW657 := n2_; have GE657 := n3_; clear n0_ n1_ n2_ n3_; clear hb hbox hg) | ((with_reducible refine gate_dst (N := 3) rfl ?_); refine box_event ?hg (N := 3) ?hd (cs := #[.int .u64 a1_0, .int .i64 a1_1]) (t := 51) ?hr ?_; (case hd => rfl); (case hg => rfl); (case hr => first | (go_simp; done) | (go_simp; rfl)); intro gb658 hg w5 hbox hb; have n0_ := Aside0.mk (blk_below (g := gb657) (o := .cells #[.int .u64 a0_0, .int .i64 a0_1] 51 (0, 0)) (by (with_reducible repeat (first | refine blk_drewN ?_ _ | refine blk_drew ?_ | refine blk_alloc ?_ _)); exact BK657.out) hb); have n1_ := Aside0.mk (below_step (by repeat (first | (with_reducible first | exact HB.out | apply below_alloc | apply pw_below_drewN | apply below_drew1 | refine below_set ?_ GE657.out) | exact HB.out)) hb); have n2_ := Aside0.mk (hbox); have n3_ := Aside0.mk ((by rw [hg]; exact (below_size (by repeat (first | (with_reducible first | exact HB.out | apply below_alloc | apply pw_below_drewN | apply below_drew1 | refine below_set ?_ GE657.out) | exact HB.out))) : w.heap.size ≤ gb658)); have n4_ := Aside0.mk ((by rw [hg]; exact (below_size (by repeat (first | (with_reducible first | exact HB.out | apply below_alloc | apply pw_below_drewN | apply below_drew1 | refine below_set ?_ GE657.out) | exact HB.out))) : w.heap.size ≤ gb658)); have n5_ := Aside0.mk ((by rw [hg]; exact Nat.ne_of_lt (blk_lt (g := gb657) (o := .cells #[.int .u64 a0_0, .int .i64 a0_1] 51 (0, 0)) (by (with_reducible repeat (first | refine blk_drewN ?_ _ | refine blk_drew ?_ | refine blk_alloc ?_ _)); exact BK657.out)) : gb657 ≠ gb658)); have n6_ := Aside0.mk ((by rw [hg]; exact Nat.ne_of_gt (blk_lt (g := gb657) (o := .cells #[.int .u64 a0_0, .int .i64 a0_1] 51 (0, 0)) (by (with_reducible repeat (first | refine blk_drewN ?_ _ | refine blk_drew ?_ | refine blk_alloc ?_ _)); exact BK657.out)) : gb658 ≠ gb657)); clear BK657; clear HB; have BK657 := n0_; have HB := n1_; have BK658 := n2_; have GW658 := n3_; have GE658 := n4_; have NB657_658 := n5_; have NB658_657 := n6_; clear n0_ n1_ n2_ n3_ n4_ n5_ n6_; clear hb hbox hg) | ((with_reducible refine gate_dst (N := 4) rfl ?_); refine box_event ?hg (N := 4) ?hd (cs := #[.int .u64 0, .int .i64 0]) (t := 51) ?hr ?_; (case hd => rfl); (case hg => rfl); (case hr => first | (go_simp; done) | (go_simp; rfl)); intro gb659 hg w6 hbox hb; have n0_ := Aside0.mk (blk_below (g := gb657) (o := .cells #[.int .u64 a0_0, .int .i64 a0_1] 51 (0, 0)) (by (with_reducible repeat (first | refine blk_drewN ?_ _ | refine blk_drew ?_ | refine blk_alloc ?_ _)); exact BK657.out) hb); have n1_ := Aside0.mk (blk_below (g := gb658) (o := .cells #[.int .u64 a1_0, .int .i64 a1_1] 51 (0, 0)) (by (with_reducible repeat (first | refine blk_drewN ?_ _ | refine blk_drew ?_ | refine blk_alloc ?_ _)); exact BK658.out) hb); have n2_ := Aside0.mk (below_step (by repeat (first | (with_reducible first | exact HB.out | apply below_alloc | apply pw_below_drewN | apply below_drew1 | refine below_set ?_ GE657.out | refine below_set ?_ GE658.out) | exact HB.out)) hb); have n3_ := Aside0.mk (hbox); have n4_ := Aside0.mk ((by rw [hg]; exact (below_size (by repeat (first | (with_reducible first | exact HB.out | apply below_alloc | apply pw_below_drewN | apply below_drew1 | refine below_set ?_ GE657.out | refine below_set ?_ GE658.out) | exact HB.out))) : w.heap.size ≤ gb659)); have n5_ := Aside0.mk ((by rw [hg]; exact (below_size (by repeat (first | (with_reducible first | exact HB.out | apply below_alloc | apply pw_below_drewN | apply below_drew1 | refine below_set ?_ GE657.out | refine below_set ?_ GE658.out) | exact HB.out))) : w.heap.size ≤ gb659)); have n6_ := Aside0.mk ((by rw [hg]; exact Nat.ne_of_lt (blk_lt (g := gb657) (o := .cells #[.int .u64 a0_0, .int .i64 a0_1] 51 (0, 0)) (by (with_reducible repeat (first | refine blk_drewN ?_ _ | refine blk_drew ?_ | refine blk_alloc ?_ _)); exact BK657.out)) : gb657 ≠ gb659)); have n7_ := Aside0.mk ((by rw [hg]; exact Nat.ne_of_gt (blk_lt (g := gb657) (o := .cells #[.int .u64 a0_0, .int .i64 a0_1] 51 (0, 0)) (by (with_reducible repeat (first | refine blk_drewN ?_ _ | refine blk_drew ?_ | refine blk_alloc ?_ _)); exact BK657.out)) : gb659 ≠ gb657)); have n8_ := Aside0.mk ((by rw [hg]; exact Nat.ne_of_lt (blk_lt (g := gb658) (o := .cells #[.int .u64 a1_0, .int .i64 a1_1] 51 (0, 0)) (by (with_reducible repeat (first | refine blk_drewN ?_ _ | refine blk_drew ?_ | refine blk_alloc ?_ _)); exact BK658.out)) : gb658 ≠ gb659)); have n9_ := Aside0.mk ((by rw [hg]; exact Nat.ne_of_gt (blk_lt (g := gb658) (o := .cells #[.int .u64 a1_0, .int .i64 a1_1] 51 (0, 0)) (by (with_reducible repeat (first | refine blk_drewN ?_ _ | refine blk_drew ?_ | refine blk_alloc ?_ _)); exact BK658.out)) : gb659 ≠ gb658)); clear BK657; clear BK658; clear HB; have BK657 := n0_; have BK658 := n1_; have HB := n2_; have BK659 := n3_; have GW659 := n4_; have GE659 := n5_; have NB657_659 := n6_; have NB659_657 := n7_; have NB658_659 := n8_; have NB659_658 := n9_; clear n0_ n1_ n2_ n3_ n4_ n5_ n6_ n7_ n8_ n9_; clear hb hbox hg; have hnb7 := NB657_658.out; have hnc7 := NB658_657.out; have hnb8 := NB657_659.out; have hnc8 := NB659_657.out; have hcz9_0 : w6.cell? ⟨gb657, 0, none⟩ = some (.int .u64 a0_0) := (blk_cell BK657.out 0).trans rfl; have hcz9_1 : w6.cell? ⟨gb657, 1, none⟩ = some (.int .i64 a0_1) := (blk_cell BK657.out 1).trans rfl; have hfz9_0 := blk_frozen BK657.out 0; have hfz9_1 := blk_frozen BK657.out 1; have hnb10 := NB658_659.out; have hnc10 := NB659_658.out; have hcz11_0 : w6.cell? ⟨gb658, 0, none⟩ = some (.int .u64 a1_0) := (blk_cell BK658.out 0).trans rfl; have hcz11_1 : w6.cell? ⟨gb658, 1, none⟩ = some (.int .i64 a1_1) := (blk_cell BK658.out 1).trans rfl; have hfz11_0 := blk_frozen BK658.out 0; have hfz11_1 := blk_frozen BK658.out 1))
  (try simp only [Act.put, List.setIfInBounds_toArray, List.set_cons_zero, List.set_cons_succ])
  go_cut [12] (fun v12 wc => ∃ (kq : Nat) (x12_2 : Bool), v12 = .bool x12_2 ∧ Aside0 (fingerprint_Rest.j0 kq (wrap64 (a0_1 - a1_1)) x12_2 a0_0 a0_1 a1_0 a1_1 = some (r1, r2, r3)) ∧ Aside0 (kq ≤ k) ∧ Aside0 (wc.heap[gb657]? = some (.cells #[.int .u64 a0_0, .int .i64 a0_1] 51 (0, 0))) ∧ Aside0 (wc.heap[gb658]? = some (.cells #[.int .u64 a1_0, .int .i64 a1_1] 51 (0, 0))) ∧ Aside0 (wc.heap[gb659]? = some (.cells #[.int .u64 0, .int .i64 0] 51 (0, 0))) ∧ Aside0 (Below w.heap.size w wc))
  case first =>
    have H := HC3.out
    clear HC3
    replace H := Option.bind_eq_some_iff.mp H
    obtain ⟨t660, A120, H⟩ := H
    replace H : (if t660 = true then ((fingerprint_Valid.f a1_0 a1_1).bind fun t661 => (fingerprint_Rest.j0 k (wrap64 (a0_1 - a1_1)) (!t661) a0_0 a0_1 a1_0 a1_1)) else (fingerprint_Rest.j0 k (wrap64 (a0_1 - a1_1)) true a0_0 a0_1 a1_0 a1_1)) = some (r1, r2, r3) := H
    have A12 := Aside0.mk A120
    clear A120
    by_cases c13 : t660 = true
    · subst c13
      have H1 : ((fingerprint_Valid.f a1_0 a1_1).bind fun t661 => (fingerprint_Rest.j0 k (wrap64 (a0_1 - a1_1)) (!t661) a0_0 a0_1 a1_0 a1_1)) = some (r1, r2, r3) := by rw [if_pos rfl] at H; exact H
      clear H
      have H := H1
      clear H1
      replace H := Option.bind_eq_some_iff.mp H
      obtain ⟨t661, A140, H⟩ := H
      replace H : (fingerprint_Rest.j0 k (wrap64 (a0_1 - a1_1)) (!t661) a0_0 a0_1 a1_0 a1_1) = some (r1, r2, r3) := H
      have A14 := Aside0.mk A140
      clear A140
      have H' := Aside0.mk H
      clear H
      have hnb15 := NB657_658.out
      have hnc15 := NB658_657.out
      have hnb16 := NB657_659.out
      have hnc16 := NB659_657.out
      have hcz17_0 : w6.cell? ⟨gb657, 0, none⟩ = some (.int .u64 a0_0) := (blk_cell BK657.out 0).trans rfl
      have hcz17_1 : w6.cell? ⟨gb657, 1, none⟩ = some (.int .i64 a0_1) := (blk_cell BK657.out 1).trans rfl
      have hfz17_0 := blk_frozen BK657.out 0
      have hfz17_1 := blk_frozen BK657.out 1
      go_wp2_with (first | ((with_reducible refine gate_callee (f := 65) rfl ?_); refine goesL_ (some 14) rfl rfl Try.func65 (by kernel_rfl) rfl #[.agg #[.int .u64 a0_0, .int .i64 a0_1]] rfl (by (try simp only [List.map_toArray, List.map_cons, List.map_nil]); first | done | rfl | (simp only [List.length_drop, List.length_take]; rfl)) ?_; (with_reducible refine (fingerprint_Valid.calls a0_0 a0_1 true _ A12.out).mono ?_); rintro e w18 ⟨rfl, hb⟩; refine ⟨_, rfl, ?_⟩; have n0_ := Aside0.mk (blk_below (g := gb657) (o := .cells #[.int .u64 a0_0, .int .i64 a0_1] 51 (0, 0)) (by (with_reducible repeat (first | refine blk_drewN ?_ _ | refine blk_drew ?_ | refine blk_alloc ?_ _)); exact BK657.out) hb); have n1_ := Aside0.mk (blk_below (g := gb658) (o := .cells #[.int .u64 a1_0, .int .i64 a1_1] 51 (0, 0)) (by (with_reducible repeat (first | refine blk_drewN ?_ _ | refine blk_drew ?_ | refine blk_alloc ?_ _)); exact BK658.out) hb); have n2_ := Aside0.mk (blk_below (g := gb659) (o := .cells #[.int .u64 0, .int .i64 0] 51 (0, 0)) (by (with_reducible repeat (first | refine blk_drewN ?_ _ | refine blk_drew ?_ | refine blk_alloc ?_ _)); exact BK659.out) hb); have n3_ := Aside0.mk (below_step (by repeat (first | (with_reducible first | exact HB.out | apply below_alloc | apply pw_below_drewN | apply below_drew1 | refine below_set ?_ GE657.out | refine below_set ?_ GE658.out | refine below_set ?_ GE659.out) | exact HB.out)) hb); clear BK657; clear BK658; clear BK659; clear HB; have BK657 := n0_; have BK658 := n1_; have BK659 := n2_; have HB := n3_; clear n0_ n1_ n2_ n3_; (try clear hb); (try clear hb2); (try clear hk); (try clear hi); have hnb19 := NB658_659.out; have hnc19 := NB659_658.out; have hcz20_0 : w18.cell? ⟨gb658, 0, none⟩ = some (.int .u64 a1_0) := (blk_cell BK658.out 0).trans rfl; have hcz20_1 : w18.cell? ⟨gb658, 1, none⟩ = some (.int .i64 a1_1) := (blk_cell BK658.out 1).trans rfl; have hfz20_0 := blk_frozen BK658.out 0; have hfz20_1 := blk_frozen BK658.out 1) | (go_at_call 65; (with_reducible refine (fingerprint_Valid.calls a1_0 a1_1 t661 _ A14.out).mono ?_); rintro e w21 ⟨rfl, hb⟩; have n0_ := Aside0.mk (blk_below (g := gb657) (o := .cells #[.int .u64 a0_0, .int .i64 a0_1] 51 (0, 0)) (by (with_reducible repeat (first | refine blk_drewN ?_ _ | refine blk_drew ?_ | refine blk_alloc ?_ _)); exact BK657.out) hb); have n1_ := Aside0.mk (blk_below (g := gb658) (o := .cells #[.int .u64 a1_0, .int .i64 a1_1] 51 (0, 0)) (by (with_reducible repeat (first | refine blk_drewN ?_ _ | refine blk_drew ?_ | refine blk_alloc ?_ _)); exact BK658.out) hb); have n2_ := Aside0.mk (blk_below (g := gb659) (o := .cells #[.int .u64 0, .int .i64 0] 51 (0, 0)) (by (with_reducible repeat (first | refine blk_drewN ?_ _ | refine blk_drew ?_ | refine blk_alloc ?_ _)); exact BK659.out) hb); have n3_ := Aside0.mk (below_step (by repeat (first | (with_reducible first | exact HB.out | apply below_alloc | apply pw_below_drewN | apply below_drew1 | refine below_set ?_ GE657.out | refine below_set ?_ GE658.out | refine below_set ?_ GE659.out) | exact HB.out)) hb); clear BK657; clear BK658; clear BK659; clear HB; have BK657 := n0_; have BK658 := n1_; have BK659 := n2_; have HB := n3_; clear n0_ n1_ n2_ n3_; (try clear hb); (try clear hb2); (try clear hk); (try clear hi)))
      go_meet
      case rel => exact ⟨_, (!t661), (by first | rfl | (simp; done) | (simp [*]; done)), H', ⟨by first | omega | exact Nat.le_refl _⟩, ⟨by (with_reducible repeat (first | refine blk_drewN ?_ _ | refine blk_drew ?_ | refine blk_alloc ?_ _)); exact BK657.out⟩, ⟨by (with_reducible repeat (first | refine blk_drewN ?_ _ | refine blk_drew ?_ | refine blk_alloc ?_ _)); exact BK658.out⟩, ⟨by (with_reducible repeat (first | refine blk_drewN ?_ _ | refine blk_drew ?_ | refine blk_alloc ?_ _)); exact BK659.out⟩, ⟨by repeat (first | (with_reducible first | exact HB.out | apply below_alloc | apply pw_below_drewN | apply below_drew1 | refine below_set ?_ GE657.out | refine below_set ?_ GE658.out | refine below_set ?_ GE659.out) | exact HB.out)⟩⟩
    · replace c13 := Bool.eq_false_iff.mpr c13
      subst c13
      have H1 : (fingerprint_Rest.j0 k (wrap64 (a0_1 - a1_1)) true a0_0 a0_1 a1_0 a1_1) = some (r1, r2, r3) := by rw [if_neg (show ¬ (false = true) by decide)] at H; exact H
      clear H
      have H := H1
      clear H1
      have H' := Aside0.mk H
      clear H
      have hnb22 := NB657_658.out
      have hnc22 := NB658_657.out
      have hnb23 := NB657_659.out
      have hnc23 := NB659_657.out
      have hcz24_0 : w6.cell? ⟨gb657, 0, none⟩ = some (.int .u64 a0_0) := (blk_cell BK657.out 0).trans rfl
      have hcz24_1 : w6.cell? ⟨gb657, 1, none⟩ = some (.int .i64 a0_1) := (blk_cell BK657.out 1).trans rfl
      have hfz24_0 := blk_frozen BK657.out 0
      have hfz24_1 := blk_frozen BK657.out 1
      go_wp2_with (first | ((with_reducible refine gate_callee (f := 65) rfl ?_); refine goesL_ (some 14) rfl rfl Try.func65 (by kernel_rfl) rfl #[.agg #[.int .u64 a0_0, .int .i64 a0_1]] rfl (by (try simp only [List.map_toArray, List.map_cons, List.map_nil]); first | done | rfl | (simp only [List.length_drop, List.length_take]; rfl)) ?_; (with_reducible refine (fingerprint_Valid.calls a0_0 a0_1 false _ A12.out).mono ?_); rintro e w25 ⟨rfl, hb⟩; refine ⟨_, rfl, ?_⟩; have n0_ := Aside0.mk (blk_below (g := gb657) (o := .cells #[.int .u64 a0_0, .int .i64 a0_1] 51 (0, 0)) (by (with_reducible repeat (first | refine blk_drewN ?_ _ | refine blk_drew ?_ | refine blk_alloc ?_ _)); exact BK657.out) hb); have n1_ := Aside0.mk (blk_below (g := gb658) (o := .cells #[.int .u64 a1_0, .int .i64 a1_1] 51 (0, 0)) (by (with_reducible repeat (first | refine blk_drewN ?_ _ | refine blk_drew ?_ | refine blk_alloc ?_ _)); exact BK658.out) hb); have n2_ := Aside0.mk (blk_below (g := gb659) (o := .cells #[.int .u64 0, .int .i64 0] 51 (0, 0)) (by (with_reducible repeat (first | refine blk_drewN ?_ _ | refine blk_drew ?_ | refine blk_alloc ?_ _)); exact BK659.out) hb); have n3_ := Aside0.mk (below_step (by repeat (first | (with_reducible first | exact HB.out | apply below_alloc | apply pw_below_drewN | apply below_drew1 | refine below_set ?_ GE657.out | refine below_set ?_ GE658.out | refine below_set ?_ GE659.out) | exact HB.out)) hb); clear BK657; clear BK658; clear BK659; clear HB; have BK657 := n0_; have BK658 := n1_; have BK659 := n2_; have HB := n3_; clear n0_ n1_ n2_ n3_; (try clear hb); (try clear hb2); (try clear hk); (try clear hi)))
      go_meet
      case rel => exact ⟨_, (true), (by first | rfl | (simp; done) | (simp [*]; done)), H', ⟨by first | omega | exact Nat.le_refl _⟩, ⟨by (with_reducible repeat (first | refine blk_drewN ?_ _ | refine blk_drew ?_ | refine blk_alloc ?_ _)); exact BK657.out⟩, ⟨by (with_reducible repeat (first | refine blk_drewN ?_ _ | refine blk_drew ?_ | refine blk_alloc ?_ _)); exact BK658.out⟩, ⟨by (with_reducible repeat (first | refine blk_drewN ?_ _ | refine blk_drew ?_ | refine blk_alloc ?_ _)); exact BK659.out⟩, ⟨by repeat (first | (with_reducible first | exact HB.out | apply below_alloc | apply pw_below_drewN | apply below_drew1 | refine below_set ?_ GE657.out | refine below_set ?_ GE658.out | refine below_set ?_ GE659.out) | exact HB.out)⟩⟩
  case rest =>
    clear HC3
    try clear c1
    try clear c2
    try clear p2
    try clear c6
    try clear p6
    try clear c7
    try clear c8
    try clear c9
    try clear c10
    try clear c13
    try clear c15
    try clear c16
    try clear c19
    try clear c22
    try clear c23
    try clear hcz11_0
    try clear hcz11_1
    try clear hcz17_0
    try clear hcz17_1
    try clear hcz20_0
    try clear hcz20_1
    try clear hcz24_0
    try clear hcz24_1
    try clear hcz9_0
    try clear hcz9_1
    try clear hfz11_0
    try clear hfz11_1
    try clear hfz17_0
    try clear hfz17_1
    try clear hfz20_0
    try clear hfz20_1
    try clear hfz24_0
    try clear hfz24_1
    try clear hfz9_0
    try clear hfz9_1
    obtain ⟨kq, x12_2, rfl, HA, HJ2, BK657, BK658, BK659, HB⟩ := hcut
    cases kq with
    | zero => exact absurd HA.out (by simp [fingerprint_Rest.j0])
    | succ kj2 =>
      have H := HA.out
      clear HA
      simp only [fingerprint_Rest.j0] at H
      by_cases c26 : x12_2 = true
      · subst c26
        have H1 : (some (0, 0, 220)) = some (r1, r2, r3) := by rw [if_pos rfl] at H; exact H
        clear H
        have H := H1
        clear H1
        simp only [Option.some.injEq, Prod.mk.injEq] at H
        obtain ⟨rfl, rfl, rfl⟩ := H
        have hnb27 := NB659_657.out
        have hnc27 := NB657_659.out
        have hnb28 := NB659_658.out
        have hnc28 := NB658_659.out
        have hcz29_0 : wc.cell? ⟨gb659, 0, none⟩ = some (.int .u64 0) := (blk_cell BK659.out 0).trans rfl
        have hcz29_1 : wc.cell? ⟨gb659, 1, none⟩ = some (.int .i64 0) := (blk_cell BK659.out 1).trans rfl
        have hfz29_0 := blk_frozen BK659.out 0
        have hfz29_1 := blk_frozen BK659.out 1
        go_wp2
        refine bodyPost_ret (results_ct rfl _ _ gb659 51 #[.int .u64 0, .int .i64 0] (0, 0) _ rfl (by (with_reducible repeat (first | refine blk_drewN ?_ _ | refine blk_drew ?_ | refine blk_alloc ?_ _)); refine blk_put (cs := #[.int .u64 0, .int .i64 0]) ?_ 1 _ rfl; (with_reducible repeat (first | refine blk_drewN ?_ _ | refine blk_drew ?_ | refine blk_alloc ?_ _)); refine blk_put (cs := #[.int .u64 0, .int .i64 0]) ?_ 0 _ rfl; (with_reducible repeat (first | refine blk_drewN ?_ _ | refine blk_drew ?_ | refine blk_alloc ?_ _)); exact BK659.out) Try.underlying51 rfl (by kernel_rfl)) rfl ?_
        exact ⟨by first | rfl | (simp [errW_none, errW_some] <;> rfl) | (simp [*, errW_none, errW_some] <;> rfl), by repeat (first | (with_reducible first | exact HB.out | apply below_alloc | apply pw_below_drewN | apply below_drew1 | refine below_set ?_ GE657.out | refine below_set ?_ GE658.out | refine below_set ?_ GE659.out) | exact HB.out)⟩
      · replace c26 := Bool.eq_false_iff.mpr c26
        subst c26
        have H1 : (if (wrap64 (a0_1 - a1_1)) < 0 then (some (0, 0, 221)) else (if (wrap64 (a0_1 - a1_1)) = 0 then (fingerprint_Rest.j1 kj2 (wrap64 (a0_1 - a1_1)) (a0_0 != a1_0) a0_0 a0_1 a1_0 a1_1) else (fingerprint_Rest.j1 kj2 (wrap64 (a0_1 - a1_1)) false a0_0 a0_1 a1_0 a1_1))) = some (r1, r2, r3) := by rw [if_neg (show ¬ (false = true) by decide)] at H; exact H
        clear H
        have H := H1
        clear H1
        by_cases c30 : (wrap64 (a0_1 - a1_1)) < 0
        · rw [if_pos c30] at H
          have c30b0 : decide ((wrap64 (a0_1 - a1_1)) < 0) = true := decide_eq_true c30
          clear c30
          simp only [Option.some.injEq, Prod.mk.injEq] at H
          obtain ⟨rfl, rfl, rfl⟩ := H
          have hnb31 := NB659_657.out
          have hnc31 := NB657_659.out
          have hnb32 := NB659_658.out
          have hnc32 := NB658_659.out
          have hcz33_0 : wc.cell? ⟨gb659, 0, none⟩ = some (.int .u64 0) := (blk_cell BK659.out 0).trans rfl
          have hcz33_1 : wc.cell? ⟨gb659, 1, none⟩ = some (.int .i64 0) := (blk_cell BK659.out 1).trans rfl
          have hfz33_0 := blk_frozen BK659.out 0
          have hfz33_1 := blk_frozen BK659.out 1
          go_wp2
          refine bodyPost_ret (results_ct rfl _ _ gb659 51 #[.int .u64 0, .int .i64 0] (0, 0) _ rfl (by (with_reducible repeat (first | refine blk_drewN ?_ _ | refine blk_drew ?_ | refine blk_alloc ?_ _)); refine blk_put (cs := #[.int .u64 0, .int .i64 0]) ?_ 1 _ rfl; (with_reducible repeat (first | refine blk_drewN ?_ _ | refine blk_drew ?_ | refine blk_alloc ?_ _)); refine blk_put (cs := #[.int .u64 0, .int .i64 0]) ?_ 0 _ rfl; (with_reducible repeat (first | refine blk_drewN ?_ _ | refine blk_drew ?_ | refine blk_alloc ?_ _)); exact BK659.out) Try.underlying51 rfl (by kernel_rfl)) rfl ?_
          exact ⟨by first | rfl | (simp [errW_none, errW_some] <;> rfl) | (simp [*, errW_none, errW_some] <;> rfl), by repeat (first | (with_reducible first | exact HB.out | apply below_alloc | apply pw_below_drewN | apply below_drew1 | refine below_set ?_ GE657.out | refine below_set ?_ GE658.out | refine below_set ?_ GE659.out) | exact HB.out)⟩
        · rw [if_neg c30] at H
          have c30b0 : decide ((wrap64 (a0_1 - a1_1)) < 0) = false := decide_eq_false c30
          clear c30
          have HC34 := Aside0.mk H
          clear H
          go_upto_region 6 with (fail)
          go_cut [26] (fun v26 wc => ∃ (kq : Nat) (x26_33 : Bool), v26 = .bool x26_33 ∧ Aside0 (fingerprint_Rest.j1 kq (wrap64 (a0_1 - a1_1)) x26_33 a0_0 a0_1 a1_0 a1_1 = some (r1, r2, r3)) ∧ Aside0 (kq ≤ kj2) ∧ Aside0 (wc.heap[gb657]? = some (.cells #[.int .u64 a0_0, .int .i64 a0_1] 51 (0, 0))) ∧ Aside0 (wc.heap[gb658]? = some (.cells #[.int .u64 a1_0, .int .i64 a1_1] 51 (0, 0))) ∧ Aside0 (wc.heap[gb659]? = some (.cells #[.int .u64 0, .int .i64 0] 51 (0, 0))) ∧ Aside0 (Below w.heap.size w wc))
          case first =>
            have H := HC34.out
            clear HC34
            by_cases c35 : (wrap64 (a0_1 - a1_1)) = 0
            · rw [if_pos c35] at H
              have c35b0 : ((wrap64 (a0_1 - a1_1)) == 0) = true := beq_iff_eq.mpr c35
              have c35b1 : ((wrap64 (a0_1 - a1_1)) != 0) = false := bne_eq_false_iff_eq.mpr c35
              clear c35
              (first | rw [c35b0] | (simp only [i64_w, i32_w]; rw [c35b0]) | skip)
              have H' := Aside0.mk H
              clear H
              have hnb36 := NB657_658.out
              have hnc36 := NB658_657.out
              have hnb37 := NB657_659.out
              have hnc37 := NB659_657.out
              have hcz38_0 : wc.cell? ⟨gb657, 0, none⟩ = some (.int .u64 a0_0) := (blk_cell BK657.out 0).trans rfl
              have hcz38_1 : wc.cell? ⟨gb657, 1, none⟩ = some (.int .i64 a0_1) := (blk_cell BK657.out 1).trans rfl
              have hfz38_0 := blk_frozen BK657.out 0
              have hfz38_1 := blk_frozen BK657.out 1
              have hnb39 := NB658_659.out
              have hnc39 := NB659_658.out
              have hcz40_0 : wc.cell? ⟨gb658, 0, none⟩ = some (.int .u64 a1_0) := (blk_cell BK658.out 0).trans rfl
              have hcz40_1 : wc.cell? ⟨gb658, 1, none⟩ = some (.int .i64 a1_1) := (blk_cell BK658.out 1).trans rfl
              have hfz40_0 := blk_frozen BK658.out 0
              have hfz40_1 := blk_frozen BK658.out 1
              go_wp2
              go_meet
              case rel => exact ⟨_, ((a0_0 != a1_0)), (by first | rfl | (simp; done) | (simp [*]; done)), H', ⟨by have := HJ2.out; first | omega | exact Nat.le_refl _⟩, ⟨by (with_reducible repeat (first | refine blk_drewN ?_ _ | refine blk_drew ?_ | refine blk_alloc ?_ _)); exact BK657.out⟩, ⟨by (with_reducible repeat (first | refine blk_drewN ?_ _ | refine blk_drew ?_ | refine blk_alloc ?_ _)); exact BK658.out⟩, ⟨by (with_reducible repeat (first | refine blk_drewN ?_ _ | refine blk_drew ?_ | refine blk_alloc ?_ _)); exact BK659.out⟩, ⟨by repeat (first | (with_reducible first | exact HB.out | apply below_alloc | apply pw_below_drewN | apply below_drew1 | refine below_set ?_ GE657.out | refine below_set ?_ GE658.out | refine below_set ?_ GE659.out) | exact HB.out)⟩⟩
            · rw [if_neg c35] at H
              have c35b0 : ((wrap64 (a0_1 - a1_1)) == 0) = false := beq_eq_false_iff_ne.mpr c35
              have c35b1 : ((wrap64 (a0_1 - a1_1)) != 0) = true := bne_iff_ne.mpr c35
              (first | rw [c35b0] | (simp only [i64_w, i32_w]; rw [c35b0]) | skip)
              have H' := Aside0.mk H
              clear H
              go_wp2
              go_meet
              case rel => exact ⟨_, (false), (by first | rfl | (simp; done) | (simp [*]; done)), H', ⟨by have := HJ2.out; first | omega | exact Nat.le_refl _⟩, ⟨by (with_reducible repeat (first | refine blk_drewN ?_ _ | refine blk_drew ?_ | refine blk_alloc ?_ _)); exact BK657.out⟩, ⟨by (with_reducible repeat (first | refine blk_drewN ?_ _ | refine blk_drew ?_ | refine blk_alloc ?_ _)); exact BK658.out⟩, ⟨by (with_reducible repeat (first | refine blk_drewN ?_ _ | refine blk_drew ?_ | refine blk_alloc ?_ _)); exact BK659.out⟩, ⟨by repeat (first | (with_reducible first | exact HB.out | apply below_alloc | apply pw_below_drewN | apply below_drew1 | refine below_set ?_ GE657.out | refine below_set ?_ GE658.out | refine below_set ?_ GE659.out) | exact HB.out)⟩⟩
          case rest =>
            clear HC34
            try clear c1
            try clear c2
            try clear p2
            try clear c3
            try clear c6
            try clear p6
            try clear c7
            try clear c8
            try clear c9
            try clear c10
            try clear c13
            try clear c15
            try clear c16
            try clear c19
            try clear c22
            try clear c23
            try clear c26
            try clear c27
            try clear c28
            try clear c30
            try clear c30b0
            try clear c31
            try clear c32
            try clear c35
            try clear c35b0
            try clear c35b1
            try clear c36
            try clear c37
            try clear c39
            try clear hcz11_0
            try clear hcz11_1
            try clear hcz17_0
            try clear hcz17_1
            try clear hcz20_0
            try clear hcz20_1
            try clear hcz24_0
            try clear hcz24_1
            try clear hcz29_0
            try clear hcz29_1
            try clear hcz33_0
            try clear hcz33_1
            try clear hcz38_0
            try clear hcz38_1
            try clear hcz40_0
            try clear hcz40_1
            try clear hcz9_0
            try clear hcz9_1
            try clear hfz11_0
            try clear hfz11_1
            try clear hfz17_0
            try clear hfz17_1
            try clear hfz20_0
            try clear hfz20_1
            try clear hfz24_0
            try clear hfz24_1
            try clear hfz29_0
            try clear hfz29_1
            try clear hfz33_0
            try clear hfz33_1
            try clear hfz38_0
            try clear hfz38_1
            try clear hfz40_0
            try clear hfz40_1
            try clear hfz9_0
            try clear hfz9_1
            try clear p2
            try clear p6
            obtain ⟨kq, x26_33, rfl, HA, HJ33, BK657, BK658, BK659, HB⟩ := hcut
            cases kq with
            | zero => exact absurd HA.out (by simp [fingerprint_Rest.j1])
            | succ kj33 =>
              have H := HA.out
              clear HA
              simp only [fingerprint_Rest.j1] at H
              by_cases c41 : x26_33 = true
              · subst c41
                have H1 : (some (0, 0, 220)) = some (r1, r2, r3) := by rw [if_pos rfl] at H; exact H
                clear H
                have H := H1
                clear H1
                simp only [Option.some.injEq, Prod.mk.injEq] at H
                obtain ⟨rfl, rfl, rfl⟩ := H
                have hnb42 := NB659_657.out
                have hnc42 := NB657_659.out
                have hnb43 := NB659_658.out
                have hnc43 := NB658_659.out
                have hcz44_0 : wc.cell? ⟨gb659, 0, none⟩ = some (.int .u64 0) := (blk_cell BK659.out 0).trans rfl
                have hcz44_1 : wc.cell? ⟨gb659, 1, none⟩ = some (.int .i64 0) := (blk_cell BK659.out 1).trans rfl
                have hfz44_0 := blk_frozen BK659.out 0
                have hfz44_1 := blk_frozen BK659.out 1
                go_wp2
                refine bodyPost_ret (results_ct rfl _ _ gb659 51 #[.int .u64 0, .int .i64 0] (0, 0) _ rfl (by (with_reducible repeat (first | refine blk_drewN ?_ _ | refine blk_drew ?_ | refine blk_alloc ?_ _)); refine blk_put (cs := #[.int .u64 0, .int .i64 0]) ?_ 1 _ rfl; (with_reducible repeat (first | refine blk_drewN ?_ _ | refine blk_drew ?_ | refine blk_alloc ?_ _)); refine blk_put (cs := #[.int .u64 0, .int .i64 0]) ?_ 0 _ rfl; (with_reducible repeat (first | refine blk_drewN ?_ _ | refine blk_drew ?_ | refine blk_alloc ?_ _)); exact BK659.out) Try.underlying51 rfl (by kernel_rfl)) rfl ?_
                exact ⟨by first | rfl | (simp [errW_none, errW_some] <;> rfl) | (simp [*, errW_none, errW_some] <;> rfl), by repeat (first | (with_reducible first | exact HB.out | apply below_alloc | apply pw_below_drewN | apply below_drew1 | refine below_set ?_ GE657.out | refine below_set ?_ GE658.out | refine below_set ?_ GE659.out) | exact HB.out)⟩
              · replace c41 := Bool.eq_false_iff.mpr c41
                subst c41
                have H1 : ((fingerprint_Power.f kj33 (wrap64 (a0_1 - a1_1))).bind fun t662 => ((fingerprint_mul.f a1_0 t662).bind fun t663 => ((fingerprint_sub.f a0_0 t663).bind fun t664 => (some (t664, (wrap64 (a0_1 - a1_1)), 0))))) = some (r1, r2, r3) := by rw [if_neg (show ¬ (false = true) by decide)] at H; exact H
                clear H
                have H := H1
                clear H1
                replace H := Option.bind_eq_some_iff.mp H
                obtain ⟨t662, A450, H⟩ := H
                replace H : ((fingerprint_mul.f a1_0 t662).bind fun t663 => ((fingerprint_sub.f a0_0 t663).bind fun t664 => (some (t664, (wrap64 (a0_1 - a1_1)), 0)))) = some (r1, r2, r3) := H
                have A45 := Aside0.mk A450
                clear A450
                replace H := Option.bind_eq_some_iff.mp H
                obtain ⟨t663, A460, H⟩ := H
                replace H : ((fingerprint_sub.f a0_0 t663).bind fun t664 => (some (t664, (wrap64 (a0_1 - a1_1)), 0))) = some (r1, r2, r3) := H
                have A46 := Aside0.mk A460
                clear A460
                replace H := Option.bind_eq_some_iff.mp H
                obtain ⟨t664, A470, H⟩ := H
                replace H : (some (t664, (wrap64 (a0_1 - a1_1)), 0)) = some (r1, r2, r3) := H
                have A47 := Aside0.mk A470
                clear A470
                simp only [Option.some.injEq, Prod.mk.injEq] at H
                obtain ⟨rfl, rfl, rfl⟩ := H
                try go_wp2
                have n0_ := Aside0.mk (blk_drew BK657.out)
                have n1_ := Aside0.mk (blk_drew BK658.out)
                have n2_ := Aside0.mk (blk_drew BK659.out)
                have n3_ := Aside0.mk (below_drew1 HB.out)
                clear BK657
                clear BK658
                clear BK659
                clear HB
                have BK657 := n0_
                have BK658 := n1_
                have BK659 := n2_
                have HB := n3_
                clear n0_ n1_ n2_ n3_
                refine start_ (n := 12) (S := fun w' => w'.cell? ⟨gb657, 0, none⟩ = some (.int .u64 a0_0) ∧ w'.cell? ⟨gb657, 1, none⟩ = some (.int .i64 a0_1) ∧ w'.cell? ⟨gb658, 0, none⟩ = some (.int .u64 a1_0) ∧ w'.cell? ⟨gb658, 1, none⟩ = some (.int .i64 a1_1)) (ds := []) #[false, false, false, false, false, false, false, false, false, false, false, false] (by kernel_rfl) rfl rfl ⟨(blk_cell BK657.out 0).trans rfl, (blk_cell BK657.out 1).trans rfl, (blk_cell BK658.out 0).trans rfl, (blk_cell BK658.out 1).trans rfl⟩ (fun hHeld => ?_); refine with_tabW fingerprint_Rest.tab8 fingerprint_Rest.bits8 (fun HT_ HW_ => ?_)
                generalize wc.drew = w48 at BK657 BK658 BK659 HB hHeld ⊢
                refine pure_ (i := 0) (N := some 37) (v := ?_) (a' := ?_) #[true, false, false, false, false, false, false, false, false, false, false, false] rfl rfl (any_of HT_.out (by kernel_rfl)) (fun _ _ _ h => h) (Or.inl ⟨by rfl, ?_⟩) ?_ ?_
                rotate_left
                · intro w'
                  go_simp
                  with_reducible rfl
                rotate_left
                · simp only [Act.put, List.setIfInBounds_toArray, List.set_cons_zero, List.set_cons_succ, i64_w, i32_w]
                  rfl
                refine pure_ (i := 2) (N := some 39) (v := ?_) (a' := ?_) #[true, false, true, false, false, false, false, false, false, false, false, false] rfl rfl (any_of HT_.out (by kernel_rfl)) (fun _ _ _ h => h) (Or.inl ⟨by rfl, ?_⟩) ?_ ?_
                rotate_left
                · intro w'
                  go_simp
                  with_reducible rfl
                rotate_left
                · simp only [Act.put, List.setIfInBounds_toArray, List.set_cons_zero, List.set_cons_succ, i64_w, i32_w]
                  rfl
                refine pure_ (i := 4) (N := some 41) (v := ?_) (a' := ?_) #[true, false, true, false, true, false, false, false, false, false, false, false] rfl rfl (any_of HT_.out (by kernel_rfl)) (fun _ _ _ h => h) (Or.inl ⟨by rfl, ?_⟩) ?_ ?_
                rotate_left
                · intro w'
                  go_simp
                  with_reducible rfl
                rotate_left
                · simp only [Act.put, List.setIfInBounds_toArray, List.set_cons_zero, List.set_cons_succ, i64_w, i32_w]
                  rfl
                refine pure_ (i := 8) (N := some 45) (v := ?_) (a' := ?_) #[true, false, true, false, true, false, false, false, true, false, false, false] rfl rfl (any_of HT_.out (by kernel_rfl)) (fun _ _ _ h => h) (Or.inl ⟨by rfl, ?_⟩) ?_ ?_
                rotate_left
                · intro w'
                  go_simp
                  with_reducible rfl
                rotate_left
                · simp only [Act.put, List.setIfInBounds_toArray, List.set_cons_zero, List.set_cons_succ, i64_w, i32_w]
                  rfl
                refine take_ (i := 1) (N := some 38) (v := ?_) (a' := ?_) #[true, true, true, false, true, false, false, false, true, false, false, false] rfl rfl (take_ofW HT_.out HW_.out (by kernel_rfl)) (fun _ _ _ h => h) (Or.inl ⟨by rfl, ?_⟩) hHeld ?_ ?_
                rotate_left
                · rintro w' ⟨s0, s1, s2, s3⟩
                  go_simp
                  with_reducible rfl
                rotate_left
                · simp only [Act.put, List.setIfInBounds_toArray, List.set_cons_zero, List.set_cons_succ, i64_w, i32_w]
                  rfl
                refine take_ (i := 3) (N := some 40) (v := ?_) (a' := ?_) #[true, true, true, true, true, false, false, false, true, false, false, false] rfl rfl (take_ofW HT_.out HW_.out (by kernel_rfl)) (fun _ _ _ h => h) (Or.inl ⟨by rfl, ?_⟩) hHeld ?_ ?_
                rotate_left
                · rintro w' ⟨s0, s1, s2, s3⟩
                  go_simp
                  with_reducible rfl
                rotate_left
                · simp only [Act.put, List.setIfInBounds_toArray, List.set_cons_zero, List.set_cons_succ, i64_w, i32_w]
                  rfl
                refine one_ (i := 5) (N := some 42) #[true, true, true, true, true, true, false, false, true, false, false, false] rfl rfl (one_of HT_.out (by kernel_rfl)) (by decide) (fun K hK => ?_)
                refine goes_ Try.func69 (by kernel_rfl) rfl #[.int .i64 (wrap64 (a0_1 - a1_1))] (by rfl) rfl rfl (by (try simp only [List.map_toArray, List.map_cons, List.map_nil]); first | done | rfl | (simp only [List.length_drop, List.length_take]; rfl)) ?_
                with_reducible refine (fingerprint_Power.calls kj33 (wrap64 (a0_1 - a1_1)) t662 _ A45.out).mono ?_
                rintro e w' ⟨rfl, ⟨nd, rfl⟩⟩
                refine ⟨_, rfl, ?_⟩
                refine hK.out _ _ ⟨(blk_cell BK657.out 0).trans rfl, (blk_cell BK657.out 1).trans rfl, (blk_cell BK658.out 0).trans rfl, (blk_cell BK658.out 1).trans rfl⟩ (fun hHeld => ?_)
                clear hK K
                refine norm_ (a' := ?_) ?_ ?_
                rotate_left
                · show Act.put _ (some 42) _ = _
                  simp only [Act.put, List.setIfInBounds_toArray, List.set_cons_zero, List.set_cons_succ, i64_w, i32_w]
                  rfl
                refine one_ (i := 6) (N := some 43) #[true, true, true, true, true, true, true, false, true, false, false, false] rfl rfl (one_of HT_.out (by kernel_rfl)) (by decide) (fun K hK => ?_)
                refine goes_ Try.func68 (by kernel_rfl) rfl #[.int .u64 a1_0, .int .u64 t662] (by rfl) rfl rfl (by (try simp only [List.map_toArray, List.map_cons, List.map_nil]); first | done | rfl | (simp only [List.length_drop, List.length_take]; rfl)) ?_
                with_reducible refine (fingerprint_mul.calls a1_0 t662 t663 _ A46.out).mono ?_
                rintro e w' ⟨rfl, ⟨nd, rfl⟩⟩
                refine ⟨_, rfl, ?_⟩
                refine hK.out _ _ ⟨(blk_cell BK657.out 0).trans rfl, (blk_cell BK657.out 1).trans rfl, (blk_cell BK658.out 0).trans rfl, (blk_cell BK658.out 1).trans rfl⟩ (fun hHeld => ?_)
                clear hK K
                refine norm_ (a' := ?_) ?_ ?_
                rotate_left
                · show Act.put _ (some 43) _ = _
                  simp only [Act.put, List.setIfInBounds_toArray, List.set_cons_zero, List.set_cons_succ, i64_w, i32_w]
                  rfl
                refine one_ (i := 7) (N := some 44) #[true, true, true, true, true, true, true, true, true, false, false, false] rfl rfl (one_of HT_.out (by kernel_rfl)) (by decide) (fun K hK => ?_)
                refine goes_ Try.func95 (by kernel_rfl) rfl #[.int .u64 a0_0, .int .u64 t663] (by rfl) rfl rfl (by (try simp only [List.map_toArray, List.map_cons, List.map_nil]); first | done | rfl | (simp only [List.length_drop, List.length_take]; rfl)) ?_
                with_reducible refine (fingerprint_sub.calls a0_0 t663 t664 _ A47.out).mono ?_
                rintro e w' ⟨rfl, ⟨nd, rfl⟩⟩
                refine ⟨_, rfl, ?_⟩
                refine hK.out _ _ ⟨(blk_cell BK657.out 0).trans rfl, (blk_cell BK657.out 1).trans rfl, (blk_cell BK658.out 0).trans rfl, (blk_cell BK658.out 1).trans rfl⟩ (fun hHeld => ?_)
                clear hK K
                refine norm_ (a' := ?_) ?_ ?_
                rotate_left
                · show Act.put _ (some 44) _ = _
                  simp only [Act.put, List.setIfInBounds_toArray, List.set_cons_zero, List.set_cons_succ, i64_w, i32_w]
                  rfl
                refine pure_ (i := 9) (N := some 46) (v := ?_) (a' := ?_) #[true, true, true, true, true, true, true, true, true, true, false, false] rfl rfl (any_of HT_.out (by kernel_rfl)) (fun _ _ _ h => h) (Or.inl ⟨by rfl, ?_⟩) ?_ ?_
                rotate_left
                · intro w'
                  go_simp
                  with_reducible rfl
                rotate_left
                · simp only [Act.put, List.setIfInBounds_toArray, List.set_cons_zero, List.set_cons_succ, i64_w, i32_w]
                  rfl
                refine one_ (i := 10) (N := none) #[true, true, true, true, true, true, true, true, true, true, true, false] rfl rfl (one_of HT_.out (by kernel_rfl)) (by decide) (fun K hK => ?_)
                have hs49 : w48.cell? ⟨gb659, 0, none⟩ = some (.int .u64 0) := (blk_cell BK659.out 0).trans rfl
                have hfs49 := blk_frozen BK659.out 0
                have hns49_0 := NB657_659.out
                have hns49_1 := NB658_659.out
                have hms49_0 := NB659_657.out
                have hms49_1 := NB659_658.out
                have hs50 : w48.cell? ⟨gb659, 1, none⟩ = some (.int .i64 0) := (blk_cell BK659.out 1).trans rfl
                have hfs50 := blk_frozen BK659.out 1
                have hns50_0 := NB657_659.out
                have hns50_1 := NB658_659.out
                have hms50_0 := NB659_657.out
                have hms50_1 := NB659_658.out
                refine skip_ (w1 := ?_) (by rfl) rfl ?_ ?_
                rotate_left
                · go_simp
                  rfl
                refine hK.out _ _ ⟨((cell_far (p := ⟨gb659, _, none⟩) NB657_659.out _).trans (((cell_far (p := ⟨gb659, _, none⟩) NB657_659.out _).trans (hHeld.1)))), ((cell_far (p := ⟨gb659, _, none⟩) NB657_659.out _).trans (((cell_far (p := ⟨gb659, _, none⟩) NB657_659.out _).trans (hHeld.2.1)))), ((cell_far (p := ⟨gb659, _, none⟩) NB658_659.out _).trans (((cell_far (p := ⟨gb659, _, none⟩) NB658_659.out _).trans (hHeld.2.2.1)))), ((cell_far (p := ⟨gb659, _, none⟩) NB658_659.out _).trans (((cell_far (p := ⟨gb659, _, none⟩) NB658_659.out _).trans (hHeld.2.2.2))))⟩ (fun hHeld => ?_)
                clear hK K
                refine pure_ (i := 11) (N := some 5) (v := ?_) (a' := ?_) #[true, true, true, true, true, true, true, true, true, true, true, true] rfl rfl (any_of HT_.out (by kernel_rfl)) (fun _ _ _ h => h) (Or.inl ⟨by rfl, ?_⟩) ?_ ?_
                rotate_left
                · intro w'
                  go_simp
                  with_reducible rfl
                rotate_left
                · simp only [Act.put, List.setIfInBounds_toArray, List.set_cons_zero, List.set_cons_succ, i64_w, i32_w]
                  rfl
                refine done_ (done_of HT_.out (by kernel_rfl)) ?_
                try go_wp2
                refine bodyPost_ret (results_ct rfl _ _ gb659 51 #[.int .u64 t664, .int .i64 (wrap64 (a0_1 - a1_1))] (0, 0) _ rfl (by (with_reducible repeat (first | refine blk_drewN ?_ _ | refine blk_drew ?_ | refine blk_alloc ?_ _)); refine blk_put (cs := #[.int .u64 t664, .int .i64 0]) ?_ 1 _ rfl; (with_reducible repeat (first | refine blk_drewN ?_ _ | refine blk_drew ?_ | refine blk_alloc ?_ _)); refine blk_put (cs := #[.int .u64 0, .int .i64 0]) ?_ 0 _ rfl; (with_reducible repeat (first | refine blk_drewN ?_ _ | refine blk_drew ?_ | refine blk_alloc ?_ _)); exact BK659.out) Try.underlying51 rfl (by kernel_rfl)) rfl ?_
                exact ⟨by first | rfl | (simp [errW_none, errW_some] <;> rfl) | (simp [*, errW_none, errW_some] <;> rfl), by repeat (first | (with_reducible first | exact HB.out | apply below_alloc | apply pw_below_drewN | apply below_drew1 | refine below_set ?_ GE657.out | refine below_set ?_ GE658.out | refine below_set ?_ GE659.out) | exact HB.out)⟩

/-! ### stockyardref24_Check: function 82 -/
def stockyardref24_Check.f (a0_0 : Int) (a0_1 : Int) (a0_2 : Int) (a0_3 : Int) : Option (Int) := if a0_2 < 1 then (some 240) else (if a0_2 > 64 then (some 240) else (if a0_0 < a0_2 then (some 240) else (if a0_0 > a0_1 then (some 240) else (if a0_1 > 8192 then (some 240) else (some 0)))))
set_option maxHeartbeats 8000000 in
set_option maxRecDepth 100000 in
theorem stockyardref24_Check.calls (a0_0 : Int) (a0_1 : Int) (a0_2 : Int) (a0_3 : Int) (r : Int) (w : World) (h : stockyardref24_Check.f a0_0 a0_1 a0_2 a0_3 = some r) :
    Calls Try.prog 82 #[.agg #[.int .i64 a0_0, .int .i64 a0_1, .int .i64 a0_2, .int .u64 a0_3]] w fun e w' => e = .returned (.int .i64 r) ∧ Below w.heap.size w w' := by
  have hu83 := Try.underlying83
  have HB := Aside0.mk (Below.refl w.heap.size w)
  have H : (if a0_2 < 1 then (some 240) else (if a0_2 > 64 then (some 240) else (if a0_0 < a0_2 then (some 240) else (if a0_0 > a0_1 then (some 240) else (if a0_1 > 8192 then (some 240) else (some 0)))))) = some r := h
  clear h
  by_cases c2 : a0_2 < 1
  · rw [if_pos c2] at H
    have c2b0 : decide (a0_2 < 1) = true := decide_eq_true c2
    clear c2
    obtain rfl := Option.some.inj H
    go_enter Try.func82, Try.ntmps82
    go_wp2_with (first | ((with_reducible refine gate_dst (N := 1) rfl ?_); refine box_event ?hg (N := 1) ?hd (cs := #[.int .i64 a0_0, .int .i64 a0_1, .int .i64 a0_2, .int .u64 a0_3]) (t := 83) ?hr ?_; (case hd => rfl); (case hg => rfl); (case hr => first | (go_simp; done) | (go_simp; rfl)); intro gb691 hg w3 hbox hb; have n0_ := Aside0.mk (below_step (by repeat (first | (with_reducible first | exact HB.out | apply below_alloc | apply pw_below_drewN | apply below_drew1) | exact HB.out)) hb); have n1_ := Aside0.mk (hbox); have n2_ := Aside0.mk ((by rw [hg]; exact (below_size (by repeat (first | (with_reducible first | exact HB.out | apply below_alloc | apply pw_below_drewN | apply below_drew1) | exact HB.out))) : w.heap.size ≤ gb691)); have n3_ := Aside0.mk ((by rw [hg]; exact (below_size (by repeat (first | (with_reducible first | exact HB.out | apply below_alloc | apply pw_below_drewN | apply below_drew1) | exact HB.out))) : w.heap.size ≤ gb691)); clear HB; have HB := n0_; have BK691 := n1_; have GW691 := n2_; have GE691 := n3_; clear n0_ n1_ n2_ n3_; clear hb hbox hg; have hcz4_0 : w3.cell? ⟨gb691, 0, none⟩ = some (.int .i64 a0_0) := (blk_cell BK691.out 0).trans rfl; have hcz4_1 : w3.cell? ⟨gb691, 1, none⟩ = some (.int .i64 a0_1) := (blk_cell BK691.out 1).trans rfl; have hcz4_2 : w3.cell? ⟨gb691, 2, none⟩ = some (.int .i64 a0_2) := (blk_cell BK691.out 2).trans rfl; have hcz4_3 : w3.cell? ⟨gb691, 3, none⟩ = some (.int .u64 a0_3) := (blk_cell BK691.out 3).trans rfl; have hfz4_0 := blk_frozen BK691.out 0; have hfz4_1 := blk_frozen BK691.out 1; have hfz4_2 := blk_frozen BK691.out 2; have hfz4_3 := blk_frozen BK691.out 3))
    go_ret
    exact ⟨by first | rfl | (simp [errW_none, errW_some] <;> rfl) | (simp [*, errW_none, errW_some] <;> rfl), by repeat (first | (with_reducible first | exact HB.out | apply below_alloc | apply pw_below_drewN | apply below_drew1 | refine below_set ?_ GE691.out) | exact HB.out)⟩
  · rw [if_neg c2] at H
    have c2b0 : decide (a0_2 < 1) = false := decide_eq_false c2
    clear c2
    by_cases c5 : a0_2 > 64
    · rw [if_pos c5] at H
      have c5b0 : decide (64 < a0_2) = true := decide_eq_true c5
      clear c5
      obtain rfl := Option.some.inj H
      go_enter Try.func82, Try.ntmps82
      go_wp2_with (first | ((with_reducible refine gate_dst (N := 1) rfl ?_); refine box_event ?hg (N := 1) ?hd (cs := #[.int .i64 a0_0, .int .i64 a0_1, .int .i64 a0_2, .int .u64 a0_3]) (t := 83) ?hr ?_; (case hd => rfl); (case hg => rfl); (case hr => first | (go_simp; done) | (go_simp; rfl)); intro gb691 hg w6 hbox hb; have n0_ := Aside0.mk (below_step (by repeat (first | (with_reducible first | exact HB.out | apply below_alloc | apply pw_below_drewN | apply below_drew1) | exact HB.out)) hb); have n1_ := Aside0.mk (hbox); have n2_ := Aside0.mk ((by rw [hg]; exact (below_size (by repeat (first | (with_reducible first | exact HB.out | apply below_alloc | apply pw_below_drewN | apply below_drew1) | exact HB.out))) : w.heap.size ≤ gb691)); have n3_ := Aside0.mk ((by rw [hg]; exact (below_size (by repeat (first | (with_reducible first | exact HB.out | apply below_alloc | apply pw_below_drewN | apply below_drew1) | exact HB.out))) : w.heap.size ≤ gb691)); clear HB; have HB := n0_; have BK691 := n1_; have GW691 := n2_; have GE691 := n3_; clear n0_ n1_ n2_ n3_; clear hb hbox hg; have hcz7_0 : w6.cell? ⟨gb691, 0, none⟩ = some (.int .i64 a0_0) := (blk_cell BK691.out 0).trans rfl; have hcz7_1 : w6.cell? ⟨gb691, 1, none⟩ = some (.int .i64 a0_1) := (blk_cell BK691.out 1).trans rfl; have hcz7_2 : w6.cell? ⟨gb691, 2, none⟩ = some (.int .i64 a0_2) := (blk_cell BK691.out 2).trans rfl; have hcz7_3 : w6.cell? ⟨gb691, 3, none⟩ = some (.int .u64 a0_3) := (blk_cell BK691.out 3).trans rfl; have hfz7_0 := blk_frozen BK691.out 0; have hfz7_1 := blk_frozen BK691.out 1; have hfz7_2 := blk_frozen BK691.out 2; have hfz7_3 := blk_frozen BK691.out 3))
      go_ret
      exact ⟨by first | rfl | (simp [errW_none, errW_some] <;> rfl) | (simp [*, errW_none, errW_some] <;> rfl), by repeat (first | (with_reducible first | exact HB.out | apply below_alloc | apply pw_below_drewN | apply below_drew1 | refine below_set ?_ GE691.out) | exact HB.out)⟩
    · rw [if_neg c5] at H
      have c5b0 : decide (64 < a0_2) = false := decide_eq_false c5
      clear c5
      by_cases c8 : a0_0 < a0_2
      · rw [if_pos c8] at H
        have c8b0 : decide (a0_0 < a0_2) = true := decide_eq_true c8
        clear c8
        obtain rfl := Option.some.inj H
        go_enter Try.func82, Try.ntmps82
        go_wp2_with (first | ((with_reducible refine gate_dst (N := 1) rfl ?_); refine box_event ?hg (N := 1) ?hd (cs := #[.int .i64 a0_0, .int .i64 a0_1, .int .i64 a0_2, .int .u64 a0_3]) (t := 83) ?hr ?_; (case hd => rfl); (case hg => rfl); (case hr => first | (go_simp; done) | (go_simp; rfl)); intro gb691 hg w9 hbox hb; have n0_ := Aside0.mk (below_step (by repeat (first | (with_reducible first | exact HB.out | apply below_alloc | apply pw_below_drewN | apply below_drew1) | exact HB.out)) hb); have n1_ := Aside0.mk (hbox); have n2_ := Aside0.mk ((by rw [hg]; exact (below_size (by repeat (first | (with_reducible first | exact HB.out | apply below_alloc | apply pw_below_drewN | apply below_drew1) | exact HB.out))) : w.heap.size ≤ gb691)); have n3_ := Aside0.mk ((by rw [hg]; exact (below_size (by repeat (first | (with_reducible first | exact HB.out | apply below_alloc | apply pw_below_drewN | apply below_drew1) | exact HB.out))) : w.heap.size ≤ gb691)); clear HB; have HB := n0_; have BK691 := n1_; have GW691 := n2_; have GE691 := n3_; clear n0_ n1_ n2_ n3_; clear hb hbox hg; have hcz10_0 : w9.cell? ⟨gb691, 0, none⟩ = some (.int .i64 a0_0) := (blk_cell BK691.out 0).trans rfl; have hcz10_1 : w9.cell? ⟨gb691, 1, none⟩ = some (.int .i64 a0_1) := (blk_cell BK691.out 1).trans rfl; have hcz10_2 : w9.cell? ⟨gb691, 2, none⟩ = some (.int .i64 a0_2) := (blk_cell BK691.out 2).trans rfl; have hcz10_3 : w9.cell? ⟨gb691, 3, none⟩ = some (.int .u64 a0_3) := (blk_cell BK691.out 3).trans rfl; have hfz10_0 := blk_frozen BK691.out 0; have hfz10_1 := blk_frozen BK691.out 1; have hfz10_2 := blk_frozen BK691.out 2; have hfz10_3 := blk_frozen BK691.out 3))
        go_ret
        exact ⟨by first | rfl | (simp [errW_none, errW_some] <;> rfl) | (simp [*, errW_none, errW_some] <;> rfl), by repeat (first | (with_reducible first | exact HB.out | apply below_alloc | apply pw_below_drewN | apply below_drew1 | refine below_set ?_ GE691.out) | exact HB.out)⟩
      · rw [if_neg c8] at H
        have c8b0 : decide (a0_0 < a0_2) = false := decide_eq_false c8
        clear c8
        by_cases c11 : a0_0 > a0_1
        · rw [if_pos c11] at H
          have c11b0 : decide (a0_1 < a0_0) = true := decide_eq_true c11
          clear c11
          obtain rfl := Option.some.inj H
          go_enter Try.func82, Try.ntmps82
          go_wp2_with (first | ((with_reducible refine gate_dst (N := 1) rfl ?_); refine box_event ?hg (N := 1) ?hd (cs := #[.int .i64 a0_0, .int .i64 a0_1, .int .i64 a0_2, .int .u64 a0_3]) (t := 83) ?hr ?_; (case hd => rfl); (case hg => rfl); (case hr => first | (go_simp; done) | (go_simp; rfl)); intro gb691 hg w12 hbox hb; have n0_ := Aside0.mk (below_step (by repeat (first | (with_reducible first | exact HB.out | apply below_alloc | apply pw_below_drewN | apply below_drew1) | exact HB.out)) hb); have n1_ := Aside0.mk (hbox); have n2_ := Aside0.mk ((by rw [hg]; exact (below_size (by repeat (first | (with_reducible first | exact HB.out | apply below_alloc | apply pw_below_drewN | apply below_drew1) | exact HB.out))) : w.heap.size ≤ gb691)); have n3_ := Aside0.mk ((by rw [hg]; exact (below_size (by repeat (first | (with_reducible first | exact HB.out | apply below_alloc | apply pw_below_drewN | apply below_drew1) | exact HB.out))) : w.heap.size ≤ gb691)); clear HB; have HB := n0_; have BK691 := n1_; have GW691 := n2_; have GE691 := n3_; clear n0_ n1_ n2_ n3_; clear hb hbox hg; have hcz13_0 : w12.cell? ⟨gb691, 0, none⟩ = some (.int .i64 a0_0) := (blk_cell BK691.out 0).trans rfl; have hcz13_1 : w12.cell? ⟨gb691, 1, none⟩ = some (.int .i64 a0_1) := (blk_cell BK691.out 1).trans rfl; have hcz13_2 : w12.cell? ⟨gb691, 2, none⟩ = some (.int .i64 a0_2) := (blk_cell BK691.out 2).trans rfl; have hcz13_3 : w12.cell? ⟨gb691, 3, none⟩ = some (.int .u64 a0_3) := (blk_cell BK691.out 3).trans rfl; have hfz13_0 := blk_frozen BK691.out 0; have hfz13_1 := blk_frozen BK691.out 1; have hfz13_2 := blk_frozen BK691.out 2; have hfz13_3 := blk_frozen BK691.out 3))
          go_ret
          exact ⟨by first | rfl | (simp [errW_none, errW_some] <;> rfl) | (simp [*, errW_none, errW_some] <;> rfl), by repeat (first | (with_reducible first | exact HB.out | apply below_alloc | apply pw_below_drewN | apply below_drew1 | refine below_set ?_ GE691.out) | exact HB.out)⟩
        · rw [if_neg c11] at H
          have c11b0 : decide (a0_1 < a0_0) = false := decide_eq_false c11
          clear c11
          by_cases c14 : a0_1 > 8192
          · rw [if_pos c14] at H
            have c14b0 : decide (8192 < a0_1) = true := decide_eq_true c14
            clear c14
            obtain rfl := Option.some.inj H
            go_enter Try.func82, Try.ntmps82
            go_wp2_with (first | ((with_reducible refine gate_dst (N := 1) rfl ?_); refine box_event ?hg (N := 1) ?hd (cs := #[.int .i64 a0_0, .int .i64 a0_1, .int .i64 a0_2, .int .u64 a0_3]) (t := 83) ?hr ?_; (case hd => rfl); (case hg => rfl); (case hr => first | (go_simp; done) | (go_simp; rfl)); intro gb691 hg w15 hbox hb; have n0_ := Aside0.mk (below_step (by repeat (first | (with_reducible first | exact HB.out | apply below_alloc | apply pw_below_drewN | apply below_drew1) | exact HB.out)) hb); have n1_ := Aside0.mk (hbox); have n2_ := Aside0.mk ((by rw [hg]; exact (below_size (by repeat (first | (with_reducible first | exact HB.out | apply below_alloc | apply pw_below_drewN | apply below_drew1) | exact HB.out))) : w.heap.size ≤ gb691)); have n3_ := Aside0.mk ((by rw [hg]; exact (below_size (by repeat (first | (with_reducible first | exact HB.out | apply below_alloc | apply pw_below_drewN | apply below_drew1) | exact HB.out))) : w.heap.size ≤ gb691)); clear HB; have HB := n0_; have BK691 := n1_; have GW691 := n2_; have GE691 := n3_; clear n0_ n1_ n2_ n3_; clear hb hbox hg; have hcz16_0 : w15.cell? ⟨gb691, 0, none⟩ = some (.int .i64 a0_0) := (blk_cell BK691.out 0).trans rfl; have hcz16_1 : w15.cell? ⟨gb691, 1, none⟩ = some (.int .i64 a0_1) := (blk_cell BK691.out 1).trans rfl; have hcz16_2 : w15.cell? ⟨gb691, 2, none⟩ = some (.int .i64 a0_2) := (blk_cell BK691.out 2).trans rfl; have hcz16_3 : w15.cell? ⟨gb691, 3, none⟩ = some (.int .u64 a0_3) := (blk_cell BK691.out 3).trans rfl; have hfz16_0 := blk_frozen BK691.out 0; have hfz16_1 := blk_frozen BK691.out 1; have hfz16_2 := blk_frozen BK691.out 2; have hfz16_3 := blk_frozen BK691.out 3))
            go_ret
            exact ⟨by first | rfl | (simp [errW_none, errW_some] <;> rfl) | (simp [*, errW_none, errW_some] <;> rfl), by repeat (first | (with_reducible first | exact HB.out | apply below_alloc | apply pw_below_drewN | apply below_drew1 | refine below_set ?_ GE691.out) | exact HB.out)⟩
          · rw [if_neg c14] at H
            have c14b0 : decide (8192 < a0_1) = false := decide_eq_false c14
            clear c14
            obtain rfl := Option.some.inj H
            go_enter Try.func82, Try.ntmps82
            go_wp2_with (first | ((with_reducible refine gate_dst (N := 1) rfl ?_); refine box_event ?hg (N := 1) ?hd (cs := #[.int .i64 a0_0, .int .i64 a0_1, .int .i64 a0_2, .int .u64 a0_3]) (t := 83) ?hr ?_; (case hd => rfl); (case hg => rfl); (case hr => first | (go_simp; done) | (go_simp; rfl)); intro gb691 hg w17 hbox hb; have n0_ := Aside0.mk (below_step (by repeat (first | (with_reducible first | exact HB.out | apply below_alloc | apply pw_below_drewN | apply below_drew1) | exact HB.out)) hb); have n1_ := Aside0.mk (hbox); have n2_ := Aside0.mk ((by rw [hg]; exact (below_size (by repeat (first | (with_reducible first | exact HB.out | apply below_alloc | apply pw_below_drewN | apply below_drew1) | exact HB.out))) : w.heap.size ≤ gb691)); have n3_ := Aside0.mk ((by rw [hg]; exact (below_size (by repeat (first | (with_reducible first | exact HB.out | apply below_alloc | apply pw_below_drewN | apply below_drew1) | exact HB.out))) : w.heap.size ≤ gb691)); clear HB; have HB := n0_; have BK691 := n1_; have GW691 := n2_; have GE691 := n3_; clear n0_ n1_ n2_ n3_; clear hb hbox hg; have hcz18_0 : w17.cell? ⟨gb691, 0, none⟩ = some (.int .i64 a0_0) := (blk_cell BK691.out 0).trans rfl; have hcz18_1 : w17.cell? ⟨gb691, 1, none⟩ = some (.int .i64 a0_1) := (blk_cell BK691.out 1).trans rfl; have hcz18_2 : w17.cell? ⟨gb691, 2, none⟩ = some (.int .i64 a0_2) := (blk_cell BK691.out 2).trans rfl; have hcz18_3 : w17.cell? ⟨gb691, 3, none⟩ = some (.int .u64 a0_3) := (blk_cell BK691.out 3).trans rfl; have hfz18_0 := blk_frozen BK691.out 0; have hfz18_1 := blk_frozen BK691.out 1; have hfz18_2 := blk_frozen BK691.out 2; have hfz18_3 := blk_frozen BK691.out 3))
            go_ret
            exact ⟨by first | rfl | (simp [errW_none, errW_some] <;> rfl) | (simp [*, errW_none, errW_some] <;> rfl), by repeat (first | (with_reducible first | exact HB.out | apply below_alloc | apply pw_below_drewN | apply below_drew1 | refine below_set ?_ GE691.out) | exact HB.out)⟩

end Go.Proofs.Ytleapbbdpediiaa.P
