-- What this claim does not use is left out (shake.py).
import Derived.Test.YtleapbbdpediiaaPx0
import Derived.Test.YtleapbbdpediiaaPxf45
import Derived.Test.YtleapbbdpediiaaPxf55
import Derived.Test.YtleapbbdpediiaaPxf81
-- Printed by a program (pr.py over the kit's print) out of the translation.
namespace Go.Proofs.Ytleapbbdpediiaa.P
open Go.RowKit Go.Proofs.YtleapbbdpediiaaW.PrintWords Go.Proofs.YtleapbbdpediiaaW.PrintLast Go.Proofs.YtleapbbdpediiaaW.PrintMore
attribute [local go_sem] max2_int min2_int max_two min_two max_three min_three max_four min_four   -- for this text's walks alone
set_option linter.unusedVariables false
set_option linter.unusedSimpArgs false

/-! ### fingerprint_Join: function 48 -/
def fingerprint_Join.j0 : Nat → Bool → Int → Int → Int → Int → Option (Int × Int × Int)
  | 0, _, _, _, _, _ => none
  | k + 1, x6, x542000, x542001, x543000, x543001 => if x6 = true then (some (0, 0, 220)) else (if (wrap64 (x542001 + x543001)) > 1048576 then (some (0, 0, 221)) else ((fingerprint_Power.f k x543001).bind fun t546 => ((fingerprint_mul.f x542000 t546).bind fun t547 => ((fingerprint_add.f t547 x543000).bind fun t548 => (some (t548, wrap64 (x542001 + x543001), 0))))))
def fingerprint_Join.f (k : Nat) (a0_0 : Int) (a0_1 : Int) (a1_0 : Int) (a1_1 : Int) : Option (Int × Int × Int) := (fingerprint_Valid.f a0_0 a0_1).bind fun t544 => (if t544 = true then ((fingerprint_Valid.f a1_0 a1_1).bind fun t545 => (fingerprint_Join.j0 k (!t545) a0_0 a0_1 a1_0 a1_1)) else (fingerprint_Join.j0 k true a0_0 a0_1 a1_0 a1_1))
def fingerprint_Join.T5 : Bool × List (List Nat × List Nat) := (true, [([], []), ([0], [0]), ([], []), ([2], [2]), ([3], [3]), ([1, 4, 4], [1, 4]), ([], []), ([6], [6]), ([5, 7, 5], [5, 7]), ([], []), ([9], [9]), ([], []), ([11], [11]), ([10, 12], [10, 12]), ([8, 13], [8, 13]), ([14, 8, 0, 1, 2, 3, 4, 5, 6, 7, 8, 9, 10, 11, 12, 13, 14], [14]), ([15, 0, 1, 2, 3, 4, 5, 6, 7, 8, 9, 10, 11, 12, 13, 14, 15], [])])
def fingerprint_Join.B5 : List Nat := [0, 1, 0, 4, 12, 31, 0, 64, 255, 0, 512, 0, 2048, 7680, 16383, 32767, 65535]
theorem fingerprint_Join.tab5 : rtab .any (opsOf Try.f48 5) = fingerprint_Join.T5 := by kernel_rfl
theorem fingerprint_Join.bits5 : waitsOk fingerprint_Join.T5.2 fingerprint_Join.B5 = true := by kernel_rfl
set_option maxHeartbeats 8000000 in
set_option maxRecDepth 100000 in
theorem fingerprint_Join.calls (k : Nat) (a0_0 : Int) (a0_1 : Int) (a1_0 : Int) (a1_1 : Int) (r1 : Int) (r2 : Int) (r3 : Int) (w : World) (h : fingerprint_Join.f k a0_0 a0_1 a1_0 a1_1 = some (r1, r2, r3)) :
    Calls Try.prog 48 #[.agg #[.int .u64 a0_0, .int .i64 a0_1], .agg #[.int .u64 a1_0, .int .i64 a1_1]] w fun e w' => e = .returned (.tuple #[.agg #[.int .u64 r1, .int .i64 r2], .int .i64 r3]) ∧ Below w.heap.size w w' := by
  have hu51 := Try.underlying51
  have HB := Aside0.mk (Below.refl w.heap.size w)
  have H : ((fingerprint_Valid.f a0_0 a0_1).bind fun t544 => (if t544 = true then ((fingerprint_Valid.f a1_0 a1_1).bind fun t545 => (fingerprint_Join.j0 k (!t545) a0_0 a0_1 a1_0 a1_1)) else (fingerprint_Join.j0 k true a0_0 a0_1 a1_0 a1_1))) = some (r1, r2, r3) := h
  clear h
  have HC3 := Aside0.mk H
  clear H
  go_enter Try.func48, Try.ntmps48
  go_upto_region 1 with (first | ((with_reducible refine gate_dst (N := 2) rfl ?_); refine box_event ?hg (N := 2) ?hd (cs := #[.int .u64 a0_0, .int .i64 a0_1]) (t := 51) ?hr ?_; (case hd => rfl); (case hg => rfl); (case hr => first | (go_simp; done) | (go_simp; rfl)); intro gb541 hg w4 hbox hb; have n0_ := Aside0.mk (below_step (by repeat (first | (with_reducible first | exact HB.out | apply below_alloc | apply pw_below_drewN | apply below_drew1) | exact HB.out)) hb); have n1_ := Aside0.mk (hbox); have n2_ := Aside0.mk ((by rw [hg]; exact (below_size (by repeat (first | (with_reducible first | exact HB.out | apply below_alloc | apply pw_below_drewN | apply below_drew1) | exact HB.out))) : w.heap.size ≤ gb541)); have n3_ := Aside0.mk ((by rw [hg]; exact (below_size (by repeat (first | (with_reducible first | exact HB.out | apply below_alloc | apply pw_below_drewN | apply below_drew1) | exact HB.out))) : w.heap.size ≤ gb541)); clear HB; have HB := n0_; have BK541 := n1_; have GW541 := n2_; have GE541 := n3_; clear n0_ n1_ n2_ n3_; clear hb hbox hg) | ((with_reducible refine gate_dst (N := 3) rfl ?_); refine box_event ?hg (N := 3) ?hd (cs := #[.int .u64 a1_0, .int .i64 a1_1]) (t := 51) ?hr ?_; (case hd => rfl); (case hg => rfl); (case hr => first | (go_simp; done) | (go_simp; rfl)); intro gb542 hg w5 hbox hb; have n0_ := Aside0.mk (blk_below (g := gb541) (o := .cells #[.int .u64 a0_0, .int .i64 a0_1] 51 (0, 0)) (by (with_reducible repeat (first | refine blk_drewN ?_ _ | refine blk_drew ?_ | refine blk_alloc ?_ _)); exact BK541.out) hb); have n1_ := Aside0.mk (below_step (by repeat (first | (with_reducible first | exact HB.out | apply below_alloc | apply pw_below_drewN | apply below_drew1 | refine below_set ?_ GE541.out) | exact HB.out)) hb); have n2_ := Aside0.mk (hbox); have n3_ := Aside0.mk ((by rw [hg]; exact (below_size (by repeat (first | (with_reducible first | exact HB.out | apply below_alloc | apply pw_below_drewN | apply below_drew1 | refine below_set ?_ GE541.out) | exact HB.out))) : w.heap.size ≤ gb542)); have n4_ := Aside0.mk ((by rw [hg]; exact (below_size (by repeat (first | (with_reducible first | exact HB.out | apply below_alloc | apply pw_below_drewN | apply below_drew1 | refine below_set ?_ GE541.out) | exact HB.out))) : w.heap.size ≤ gb542)); have n5_ := Aside0.mk ((by rw [hg]; exact Nat.ne_of_lt (blk_lt (g := gb541) (o := .cells #[.int .u64 a0_0, .int .i64 a0_1] 51 (0, 0)) (by (with_reducible repeat (first | refine blk_drewN ?_ _ | refine blk_drew ?_ | refine blk_alloc ?_ _)); exact BK541.out)) : gb541 ≠ gb542)); have n6_ := Aside0.mk ((by rw [hg]; exact Nat.ne_of_gt (blk_lt (g := gb541) (o := .cells #[.int .u64 a0_0, .int .i64 a0_1] 51 (0, 0)) (by (with_reducible repeat (first | refine blk_drewN ?_ _ | refine blk_drew ?_ | refine blk_alloc ?_ _)); exact BK541.out)) : gb542 ≠ gb541)); clear BK541; clear HB; have BK541 := n0_; have HB := n1_; have BK542 := n2_; have GW542 := n3_; have GE542 := n4_; have NB541_542 := n5_; have NB542_541 := n6_; clear n0_ n1_ n2_ n3_ n4_ n5_ n6_; clear hb hbox hg) | ((with_reducible refine gate_dst (N := 4) rfl ?_); refine box_event ?hg (N := 4) ?hd (cs := #[.int .u64 0, .int .i64 0]) (t := 51) ?hr ?_; (case hd => rfl); (case hg => rfl); (case hr => first | (go_simp; done) | (go_simp; rfl)); intro gb543 hg w6 hbox hb; have n0_ := Aside0.mk (blk_below (g := gb541) (o := .cells #[.int .u64 a0_0, .int .i64 a0_1] 51 (0, 0)) (by (with_reducible repeat (first | refine blk_drewN ?_ _ | refine blk_drew ?_ | refine blk_alloc ?_ _)); exact BK541.out) hb); have n1_ := Aside0.mk (blk_below (g := gb542) (o := .cells #[.int .u64 a1_0, .int .i64 a1_1] 51 (0, 0)) (by (with_reducible repeat (first | refine blk_drewN ?_ _ | refine blk_drew ?_ | refine blk_alloc ?_ _)); exact BK542.out) hb); have n2_ := Aside0.mk (below_step (by repeat (first | (with_reducible first | exact HB.out | apply below_alloc | apply pw_below_drewN | apply below_drew1 | refine below_set ?_ GE541.out | refine below_set ?_ GE542.out) | exact HB.out)) hb); have n3_ := Aside0.mk (hbox); have n4_ := Aside0.mk ((by rw [hg]; exact (below_size (by repeat (first | (with_reducible first | exact HB.out | apply below_alloc | apply pw_below_drewN | apply below_drew1 | refine below_set ?_ GE541.out | refine below_set ?_ GE542.out) | exact HB.out))) : w.heap.size ≤ gb543)); have n5_ := Aside0.mk ((by rw [hg]; exact (below_size (by repeat (first | (with_reducible first | exact HB.out | apply below_alloc | apply pw_below_drewN | apply below_drew1 | refine below_set ?_ GE541.out | refine below_set ?_ GE542.out) | exact HB.out))) : w.heap.size ≤ gb543)); have n6_ := Aside0.mk ((by rw [hg]; exact Nat.ne_of_lt (blk_lt (g := gb541) (o := .cells #[.int .u64 a0_0, .int .i64 a0_1] 51 (0, 0)) (by (with_reducible repeat (first | refine blk_drewN ?_ _ | refine blk_drew ?_ | refine blk_alloc ?_ _)); exact BK541.out)) : gb541 ≠ gb543)); have n7_ := Aside0.mk ((by rw [hg]; exact Nat.ne_of_gt (blk_lt (g := gb541) (o := .cells #[.int .u64 a0_0, .int .i64 a0_1] 51 (0, 0)) (by (with_reducible repeat (first | refine blk_drewN ?_ _ | refine blk_drew ?_ | refine blk_alloc ?_ _)); exact BK541.out)) : gb543 ≠ gb541)); have n8_ := Aside0.mk ((by rw [hg]; exact Nat.ne_of_lt (blk_lt (g := gb542) (o := .cells #[.int .u64 a1_0, .int .i64 a1_1] 51 (0, 0)) (by (with_reducible repeat (first | refine blk_drewN ?_ _ | refine blk_drew ?_ | refine blk_alloc ?_ _)); exact BK542.out)) : gb542 ≠ gb543)); have n9_ := Aside0.mk ((by rw [hg]; exact Nat.ne_of_gt (blk_lt (g := gb542) (o := .cells #[.int .u64 a1_0, .int .i64 a1_1] 51 (0, 0)) (by (with_reducible repeat (first | refine blk_drewN ?_ _ | refine blk_drew ?_ | refine blk_alloc ?_ _)); exact BK542.out)) : gb543 ≠ gb542)); clear BK541; clear BK542; clear HB; have BK541 := n0_; have BK542 := n1_; have HB := n2_; have BK543 := n3_; have GW543 := n4_; have GE543 := n5_; have NB541_543 := n6_; have NB543_541 := n7_; have NB542_543 := n8_; have NB543_542 := n9_; clear n0_ n1_ n2_ n3_ n4_ n5_ n6_ n7_ n8_ n9_; clear hb hbox hg))
  (try simp only [Act.put, List.setIfInBounds_toArray, List.set_cons_zero, List.set_cons_succ])
  go_cut [6] (fun v6 wc => ∃ (kq : Nat) (x6_2 : Bool), v6 = .bool x6_2 ∧ Aside0 (fingerprint_Join.j0 kq x6_2 a0_0 a0_1 a1_0 a1_1 = some (r1, r2, r3)) ∧ Aside0 (kq ≤ k) ∧ Aside0 (wc.heap[gb541]? = some (.cells #[.int .u64 a0_0, .int .i64 a0_1] 51 (0, 0))) ∧ Aside0 (wc.heap[gb542]? = some (.cells #[.int .u64 a1_0, .int .i64 a1_1] 51 (0, 0))) ∧ Aside0 (wc.heap[gb543]? = some (.cells #[.int .u64 0, .int .i64 0] 51 (0, 0))) ∧ Aside0 (Below w.heap.size w wc))
  case first =>
    have H := HC3.out
    clear HC3
    replace H := Option.bind_eq_some_iff.mp H
    obtain ⟨t544, A70, H⟩ := H
    replace H : (if t544 = true then ((fingerprint_Valid.f a1_0 a1_1).bind fun t545 => (fingerprint_Join.j0 k (!t545) a0_0 a0_1 a1_0 a1_1)) else (fingerprint_Join.j0 k true a0_0 a0_1 a1_0 a1_1)) = some (r1, r2, r3) := H
    have A7 := Aside0.mk A70
    clear A70
    by_cases c8 : t544 = true
    · subst c8
      have H1 : ((fingerprint_Valid.f a1_0 a1_1).bind fun t545 => (fingerprint_Join.j0 k (!t545) a0_0 a0_1 a1_0 a1_1)) = some (r1, r2, r3) := by rw [if_pos rfl] at H; exact H
      clear H
      have H := H1
      clear H1
      replace H := Option.bind_eq_some_iff.mp H
      obtain ⟨t545, A90, H⟩ := H
      replace H : (fingerprint_Join.j0 k (!t545) a0_0 a0_1 a1_0 a1_1) = some (r1, r2, r3) := H
      have A9 := Aside0.mk A90
      clear A90
      have H' := Aside0.mk H
      clear H
      have hnb10 := NB541_542.out
      have hnc10 := NB542_541.out
      have hnb11 := NB541_543.out
      have hnc11 := NB543_541.out
      have hcz12_0 : w6.cell? ⟨gb541, 0, none⟩ = some (.int .u64 a0_0) := (blk_cell BK541.out 0).trans rfl
      have hcz12_1 : w6.cell? ⟨gb541, 1, none⟩ = some (.int .i64 a0_1) := (blk_cell BK541.out 1).trans rfl
      have hfz12_0 := blk_frozen BK541.out 0
      have hfz12_1 := blk_frozen BK541.out 1
      go_wp2_with (first | ((with_reducible refine gate_callee (f := 65) rfl ?_); refine goesL_ (some 8) rfl rfl Try.func65 (by kernel_rfl) rfl #[.agg #[.int .u64 a0_0, .int .i64 a0_1]] rfl (by (try simp only [List.map_toArray, List.map_cons, List.map_nil]); first | done | rfl | (simp only [List.length_drop, List.length_take]; rfl)) ?_; (with_reducible refine (fingerprint_Valid.calls a0_0 a0_1 true _ A7.out).mono ?_); rintro e w13 ⟨rfl, hb⟩; refine ⟨_, rfl, ?_⟩; have n0_ := Aside0.mk (blk_below (g := gb541) (o := .cells #[.int .u64 a0_0, .int .i64 a0_1] 51 (0, 0)) (by (with_reducible repeat (first | refine blk_drewN ?_ _ | refine blk_drew ?_ | refine blk_alloc ?_ _)); exact BK541.out) hb); have n1_ := Aside0.mk (blk_below (g := gb542) (o := .cells #[.int .u64 a1_0, .int .i64 a1_1] 51 (0, 0)) (by (with_reducible repeat (first | refine blk_drewN ?_ _ | refine blk_drew ?_ | refine blk_alloc ?_ _)); exact BK542.out) hb); have n2_ := Aside0.mk (blk_below (g := gb543) (o := .cells #[.int .u64 0, .int .i64 0] 51 (0, 0)) (by (with_reducible repeat (first | refine blk_drewN ?_ _ | refine blk_drew ?_ | refine blk_alloc ?_ _)); exact BK543.out) hb); have n3_ := Aside0.mk (below_step (by repeat (first | (with_reducible first | exact HB.out | apply below_alloc | apply pw_below_drewN | apply below_drew1 | refine below_set ?_ GE541.out | refine below_set ?_ GE542.out | refine below_set ?_ GE543.out) | exact HB.out)) hb); clear BK541; clear BK542; clear BK543; clear HB; have BK541 := n0_; have BK542 := n1_; have BK543 := n2_; have HB := n3_; clear n0_ n1_ n2_ n3_; (try clear hb); (try clear hb2); (try clear hk); (try clear hi); have hnb14 := NB542_543.out; have hnc14 := NB543_542.out; have hcz15_0 : w13.cell? ⟨gb542, 0, none⟩ = some (.int .u64 a1_0) := (blk_cell BK542.out 0).trans rfl; have hcz15_1 : w13.cell? ⟨gb542, 1, none⟩ = some (.int .i64 a1_1) := (blk_cell BK542.out 1).trans rfl; have hfz15_0 := blk_frozen BK542.out 0; have hfz15_1 := blk_frozen BK542.out 1) | (go_at_call 65; (with_reducible refine (fingerprint_Valid.calls a1_0 a1_1 t545 _ A9.out).mono ?_); rintro e w16 ⟨rfl, hb⟩; have n0_ := Aside0.mk (blk_below (g := gb541) (o := .cells #[.int .u64 a0_0, .int .i64 a0_1] 51 (0, 0)) (by (with_reducible repeat (first | refine blk_drewN ?_ _ | refine blk_drew ?_ | refine blk_alloc ?_ _)); exact BK541.out) hb); have n1_ := Aside0.mk (blk_below (g := gb542) (o := .cells #[.int .u64 a1_0, .int .i64 a1_1] 51 (0, 0)) (by (with_reducible repeat (first | refine blk_drewN ?_ _ | refine blk_drew ?_ | refine blk_alloc ?_ _)); exact BK542.out) hb); have n2_ := Aside0.mk (blk_below (g := gb543) (o := .cells #[.int .u64 0, .int .i64 0] 51 (0, 0)) (by (with_reducible repeat (first | refine blk_drewN ?_ _ | refine blk_drew ?_ | refine blk_alloc ?_ _)); exact BK543.out) hb); have n3_ := Aside0.mk (below_step (by repeat (first | (with_reducible first | exact HB.out | apply below_alloc | apply pw_below_drewN | apply below_drew1 | refine below_set ?_ GE541.out | refine below_set ?_ GE542.out | refine below_set ?_ GE543.out) | exact HB.out)) hb); clear BK541; clear BK542; clear BK543; clear HB; have BK541 := n0_; have BK542 := n1_; have BK543 := n2_; have HB := n3_; clear n0_ n1_ n2_ n3_; (try clear hb); (try clear hb2); (try clear hk); (try clear hi)))
      go_meet
      case rel => exact ⟨_, (!t545), (by first | rfl | (simp; done) | (simp [*]; done)), H', ⟨by first | omega | exact Nat.le_refl _⟩, ⟨by (with_reducible repeat (first | refine blk_drewN ?_ _ | refine blk_drew ?_ | refine blk_alloc ?_ _)); exact BK541.out⟩, ⟨by (with_reducible repeat (first | refine blk_drewN ?_ _ | refine blk_drew ?_ | refine blk_alloc ?_ _)); exact BK542.out⟩, ⟨by (with_reducible repeat (first | refine blk_drewN ?_ _ | refine blk_drew ?_ | refine blk_alloc ?_ _)); exact BK543.out⟩, ⟨by repeat (first | (with_reducible first | exact HB.out | apply below_alloc | apply pw_below_drewN | apply below_drew1 | refine below_set ?_ GE541.out | refine below_set ?_ GE542.out | refine below_set ?_ GE543.out) | exact HB.out)⟩⟩
    · replace c8 := Bool.eq_false_iff.mpr c8
      subst c8
      have H1 : (fingerprint_Join.j0 k true a0_0 a0_1 a1_0 a1_1) = some (r1, r2, r3) := by rw [if_neg (show ¬ (false = true) by decide)] at H; exact H
      clear H
      have H := H1
      clear H1
      have H' := Aside0.mk H
      clear H
      have hnb17 := NB541_542.out
      have hnc17 := NB542_541.out
      have hnb18 := NB541_543.out
      have hnc18 := NB543_541.out
      have hcz19_0 : w6.cell? ⟨gb541, 0, none⟩ = some (.int .u64 a0_0) := (blk_cell BK541.out 0).trans rfl
      have hcz19_1 : w6.cell? ⟨gb541, 1, none⟩ = some (.int .i64 a0_1) := (blk_cell BK541.out 1).trans rfl
      have hfz19_0 := blk_frozen BK541.out 0
      have hfz19_1 := blk_frozen BK541.out 1
      go_wp2_with (first | ((with_reducible refine gate_callee (f := 65) rfl ?_); refine goesL_ (some 8) rfl rfl Try.func65 (by kernel_rfl) rfl #[.agg #[.int .u64 a0_0, .int .i64 a0_1]] rfl (by (try simp only [List.map_toArray, List.map_cons, List.map_nil]); first | done | rfl | (simp only [List.length_drop, List.length_take]; rfl)) ?_; (with_reducible refine (fingerprint_Valid.calls a0_0 a0_1 false _ A7.out).mono ?_); rintro e w20 ⟨rfl, hb⟩; refine ⟨_, rfl, ?_⟩; have n0_ := Aside0.mk (blk_below (g := gb541) (o := .cells #[.int .u64 a0_0, .int .i64 a0_1] 51 (0, 0)) (by (with_reducible repeat (first | refine blk_drewN ?_ _ | refine blk_drew ?_ | refine blk_alloc ?_ _)); exact BK541.out) hb); have n1_ := Aside0.mk (blk_below (g := gb542) (o := .cells #[.int .u64 a1_0, .int .i64 a1_1] 51 (0, 0)) (by (with_reducible repeat (first | refine blk_drewN ?_ _ | refine blk_drew ?_ | refine blk_alloc ?_ _)); exact BK542.out) hb); have n2_ := Aside0.mk (blk_below (g := gb543) (o := .cells #[.int .u64 0, .int .i64 0] 51 (0, 0)) (by (with_reducible repeat (first | refine blk_drewN ?_ _ | refine blk_drew ?_ | refine blk_alloc ?_ _)); exact BK543.out) hb); have n3_ := Aside0.mk (below_step (by repeat (first | (with_reducible first | exact HB.out | apply below_alloc | apply pw_below_drewN | apply below_drew1 | refine below_set ?_ GE541.out | refine below_set ?_ GE542.out | refine below_set ?_ GE543.out) | exact HB.out)) hb); clear BK541; clear BK542; clear BK543; clear HB; have BK541 := n0_; have BK542 := n1_; have BK543 := n2_; have HB := n3_; clear n0_ n1_ n2_ n3_; (try clear hb); (try clear hb2); (try clear hk); (try clear hi)))
      go_meet
      case rel => exact ⟨_, (true), (by first | rfl | (simp; done) | (simp [*]; done)), H', ⟨by first | omega | exact Nat.le_refl _⟩, ⟨by (with_reducible repeat (first | refine blk_drewN ?_ _ | refine blk_drew ?_ | refine blk_alloc ?_ _)); exact BK541.out⟩, ⟨by (with_reducible repeat (first | refine blk_drewN ?_ _ | refine blk_drew ?_ | refine blk_alloc ?_ _)); exact BK542.out⟩, ⟨by (with_reducible repeat (first | refine blk_drewN ?_ _ | refine blk_drew ?_ | refine blk_alloc ?_ _)); exact BK543.out⟩, ⟨by repeat (first | (with_reducible first | exact HB.out | apply below_alloc | apply pw_below_drewN | apply below_drew1 | refine below_set ?_ GE541.out | refine below_set ?_ GE542.out | refine below_set ?_ GE543.out) | exact HB.out)⟩⟩
  case rest =>
    clear HC3
    try clear c1
    try clear p2
    try clear c4
    try clear c6
    try clear c8
    try clear c10
    try clear c11
    try clear c14
    try clear c17
    try clear c18
    try clear hcz12_0
    try clear hcz12_1
    try clear hcz15_0
    try clear hcz15_1
    try clear hcz19_0
    try clear hcz19_1
    try clear hfz12_0
    try clear hfz12_1
    try clear hfz15_0
    try clear hfz15_1
    try clear hfz19_0
    try clear hfz19_1
    obtain ⟨kq, x6_2, rfl, HA, HJ2, BK541, BK542, BK543, HB⟩ := hcut
    cases kq with
    | zero => exact absurd HA.out (by simp [fingerprint_Join.j0])
    | succ kj2 =>
      have H := HA.out
      clear HA
      simp only [fingerprint_Join.j0] at H
      by_cases c21 : x6_2 = true
      · subst c21
        have H1 : (some (0, 0, 220)) = some (r1, r2, r3) := by rw [if_pos rfl] at H; exact H
        clear H
        have H := H1
        clear H1
        simp only [Option.some.injEq, Prod.mk.injEq] at H
        obtain ⟨rfl, rfl, rfl⟩ := H
        have hnb22 := NB543_541.out
        have hnc22 := NB541_543.out
        have hnb23 := NB543_542.out
        have hnc23 := NB542_543.out
        have hcz24_0 : wc.cell? ⟨gb543, 0, none⟩ = some (.int .u64 0) := (blk_cell BK543.out 0).trans rfl
        have hcz24_1 : wc.cell? ⟨gb543, 1, none⟩ = some (.int .i64 0) := (blk_cell BK543.out 1).trans rfl
        have hfz24_0 := blk_frozen BK543.out 0
        have hfz24_1 := blk_frozen BK543.out 1
        go_wp2
        refine bodyPost_ret (results_ct rfl _ _ gb543 51 #[.int .u64 0, .int .i64 0] (0, 0) _ rfl (by (with_reducible repeat (first | refine blk_drewN ?_ _ | refine blk_drew ?_ | refine blk_alloc ?_ _)); refine blk_put (cs := #[.int .u64 0, .int .i64 0]) ?_ 1 _ rfl; (with_reducible repeat (first | refine blk_drewN ?_ _ | refine blk_drew ?_ | refine blk_alloc ?_ _)); refine blk_put (cs := #[.int .u64 0, .int .i64 0]) ?_ 0 _ rfl; (with_reducible repeat (first | refine blk_drewN ?_ _ | refine blk_drew ?_ | refine blk_alloc ?_ _)); exact BK543.out) Try.underlying51 rfl (by kernel_rfl)) rfl ?_
        exact ⟨by first | rfl | (simp [errW_none, errW_some] <;> rfl) | (simp [*, errW_none, errW_some] <;> rfl), by repeat (first | (with_reducible first | exact HB.out | apply below_alloc | apply pw_below_drewN | apply below_drew1 | refine below_set ?_ GE541.out | refine below_set ?_ GE542.out | refine below_set ?_ GE543.out) | exact HB.out)⟩
      · replace c21 := Bool.eq_false_iff.mpr c21
        subst c21
        have H1 : (if (wrap64 (a0_1 + a1_1)) > 1048576 then (some (0, 0, 221)) else ((fingerprint_Power.f kj2 a1_1).bind fun t546 => ((fingerprint_mul.f a0_0 t546).bind fun t547 => ((fingerprint_add.f t547 a1_0).bind fun t548 => (some (t548, wrap64 (a0_1 + a1_1), 0)))))) = some (r1, r2, r3) := by rw [if_neg (show ¬ (false = true) by decide)] at H; exact H
        clear H
        have H := H1
        clear H1
        by_cases c25 : (wrap64 (a0_1 + a1_1)) > 1048576
        · rw [if_pos c25] at H
          have c25b0 : decide (1048576 < (wrap64 (a0_1 + a1_1))) = true := decide_eq_true c25
          clear c25
          simp only [Option.some.injEq, Prod.mk.injEq] at H
          obtain ⟨rfl, rfl, rfl⟩ := H
          have hnb26 := NB541_542.out
          have hnc26 := NB542_541.out
          have hnb27 := NB541_543.out
          have hnc27 := NB543_541.out
          have hcz28_0 : wc.cell? ⟨gb541, 0, none⟩ = some (.int .u64 a0_0) := (blk_cell BK541.out 0).trans rfl
          have hcz28_1 : wc.cell? ⟨gb541, 1, none⟩ = some (.int .i64 a0_1) := (blk_cell BK541.out 1).trans rfl
          have hfz28_0 := blk_frozen BK541.out 0
          have hfz28_1 := blk_frozen BK541.out 1
          have hnb29 := NB542_543.out
          have hnc29 := NB543_542.out
          have hcz30_0 : wc.cell? ⟨gb542, 0, none⟩ = some (.int .u64 a1_0) := (blk_cell BK542.out 0).trans rfl
          have hcz30_1 : wc.cell? ⟨gb542, 1, none⟩ = some (.int .i64 a1_1) := (blk_cell BK542.out 1).trans rfl
          have hfz30_0 := blk_frozen BK542.out 0
          have hfz30_1 := blk_frozen BK542.out 1
          have hcz31_0 : wc.cell? ⟨gb543, 0, none⟩ = some (.int .u64 0) := (blk_cell BK543.out 0).trans rfl
          have hcz31_1 : wc.cell? ⟨gb543, 1, none⟩ = some (.int .i64 0) := (blk_cell BK543.out 1).trans rfl
          have hfz31_0 := blk_frozen BK543.out 0
          have hfz31_1 := blk_frozen BK543.out 1
          go_wp2
          refine bodyPost_ret (results_ct rfl _ _ gb543 51 #[.int .u64 0, .int .i64 0] (0, 0) _ rfl (by (with_reducible repeat (first | refine blk_drewN ?_ _ | refine blk_drew ?_ | refine blk_alloc ?_ _)); refine blk_put (cs := #[.int .u64 0, .int .i64 0]) ?_ 1 _ rfl; (with_reducible repeat (first | refine blk_drewN ?_ _ | refine blk_drew ?_ | refine blk_alloc ?_ _)); refine blk_put (cs := #[.int .u64 0, .int .i64 0]) ?_ 0 _ rfl; (with_reducible repeat (first | refine blk_drewN ?_ _ | refine blk_drew ?_ | refine blk_alloc ?_ _)); exact BK543.out) Try.underlying51 rfl (by kernel_rfl)) rfl ?_
          exact ⟨by first | rfl | (simp [errW_none, errW_some] <;> rfl) | (simp [*, errW_none, errW_some] <;> rfl), by repeat (first | (with_reducible first | exact HB.out | apply below_alloc | apply pw_below_drewN | apply below_drew1 | refine below_set ?_ GE541.out | refine below_set ?_ GE542.out | refine below_set ?_ GE543.out) | exact HB.out)⟩
        · rw [if_neg c25] at H
          have c25b0 : decide (1048576 < (wrap64 (a0_1 + a1_1))) = false := decide_eq_false c25
          clear c25
          replace H := Option.bind_eq_some_iff.mp H
          obtain ⟨t546, A320, H⟩ := H
          replace H : ((fingerprint_mul.f a0_0 t546).bind fun t547 => ((fingerprint_add.f t547 a1_0).bind fun t548 => (some (t548, wrap64 (a0_1 + a1_1), 0)))) = some (r1, r2, r3) := H
          have A32 := Aside0.mk A320
          clear A320
          replace H := Option.bind_eq_some_iff.mp H
          obtain ⟨t547, A330, H⟩ := H
          replace H : ((fingerprint_add.f t547 a1_0).bind fun t548 => (some (t548, wrap64 (a0_1 + a1_1), 0))) = some (r1, r2, r3) := H
          have A33 := Aside0.mk A330
          clear A330
          replace H := Option.bind_eq_some_iff.mp H
          obtain ⟨t548, A340, H⟩ := H
          replace H : (some (t548, wrap64 (a0_1 + a1_1), 0)) = some (r1, r2, r3) := H
          have A34 := Aside0.mk A340
          clear A340
          simp only [Option.some.injEq, Prod.mk.injEq] at H
          obtain ⟨rfl, rfl, rfl⟩ := H
          have hnb35 := NB541_542.out
          have hnc35 := NB542_541.out
          have hnb36 := NB541_543.out
          have hnc36 := NB543_541.out
          have hcz37_0 : wc.cell? ⟨gb541, 0, none⟩ = some (.int .u64 a0_0) := (blk_cell BK541.out 0).trans rfl
          have hcz37_1 : wc.cell? ⟨gb541, 1, none⟩ = some (.int .i64 a0_1) := (blk_cell BK541.out 1).trans rfl
          have hfz37_0 := blk_frozen BK541.out 0
          have hfz37_1 := blk_frozen BK541.out 1
          have hnb38 := NB542_543.out
          have hnc38 := NB543_542.out
          have hcz39_0 : wc.cell? ⟨gb542, 0, none⟩ = some (.int .u64 a1_0) := (blk_cell BK542.out 0).trans rfl
          have hcz39_1 : wc.cell? ⟨gb542, 1, none⟩ = some (.int .i64 a1_1) := (blk_cell BK542.out 1).trans rfl
          have hfz39_0 := blk_frozen BK542.out 0
          have hfz39_1 := blk_frozen BK542.out 1
          try go_wp2
          have n0_ := Aside0.mk (blk_drew BK541.out)
          have n1_ := Aside0.mk (blk_drew BK542.out)
          have n2_ := Aside0.mk (blk_drew BK543.out)
          have n3_ := Aside0.mk (below_drew1 HB.out)
          clear BK541
          clear BK542
          clear BK543
          clear HB
          have BK541 := n0_
          have BK542 := n1_
          have BK543 := n2_
          have HB := n3_
          clear n0_ n1_ n2_ n3_
          refine start_ (n := 17) (S := fun w' => w'.cell? ⟨gb541, 0, none⟩ = some (.int .u64 a0_0) ∧ w'.cell? ⟨gb541, 1, none⟩ = some (.int .i64 a0_1) ∧ w'.cell? ⟨gb542, 0, none⟩ = some (.int .u64 a1_0) ∧ w'.cell? ⟨gb542, 1, none⟩ = some (.int .i64 a1_1)) (ds := []) #[false, false, false, false, false, false, false, false, false, false, false, false, false, false, false, false, false] (by kernel_rfl) rfl rfl ⟨(blk_cell BK541.out 0).trans rfl, (blk_cell BK541.out 1).trans rfl, (blk_cell BK542.out 0).trans rfl, (blk_cell BK542.out 1).trans rfl⟩ (fun hHeld => ?_); refine with_tabW fingerprint_Join.tab5 fingerprint_Join.bits5 (fun HT_ HW_ => ?_)
          generalize wc.drew = w40 at BK541 BK542 BK543 HB hHeld ⊢
          refine pure_ (i := 0) (N := some 24) (v := ?_) (a' := ?_) #[true, false, false, false, false, false, false, false, false, false, false, false, false, false, false, false, false] rfl rfl (any_of HT_.out (by kernel_rfl)) (fun _ _ _ h => h) (Or.inl ⟨by rfl, ?_⟩) ?_ ?_
          rotate_left
          · intro w'
            go_simp
            with_reducible rfl
          rotate_left
          · simp only [Act.put, List.setIfInBounds_toArray, List.set_cons_zero, List.set_cons_succ, i64_w, i32_w]
            rfl
          refine pure_ (i := 2) (N := some 26) (v := ?_) (a' := ?_) #[true, false, true, false, false, false, false, false, false, false, false, false, false, false, false, false, false] rfl rfl (any_of HT_.out (by kernel_rfl)) (fun _ _ _ h => h) (Or.inl ⟨by rfl, ?_⟩) ?_ ?_
          rotate_left
          · intro w'
            go_simp
            with_reducible rfl
          rotate_left
          · simp only [Act.put, List.setIfInBounds_toArray, List.set_cons_zero, List.set_cons_succ, i64_w, i32_w]
            rfl
          refine pure_ (i := 6) (N := some 30) (v := ?_) (a' := ?_) #[true, false, true, false, false, false, true, false, false, false, false, false, false, false, false, false, false] rfl rfl (any_of HT_.out (by kernel_rfl)) (fun _ _ _ h => h) (Or.inl ⟨by rfl, ?_⟩) ?_ ?_
          rotate_left
          · intro w'
            go_simp
            with_reducible rfl
          rotate_left
          · simp only [Act.put, List.setIfInBounds_toArray, List.set_cons_zero, List.set_cons_succ, i64_w, i32_w]
            rfl
          refine pure_ (i := 9) (N := some 33) (v := ?_) (a' := ?_) #[true, false, true, false, false, false, true, false, false, true, false, false, false, false, false, false, false] rfl rfl (any_of HT_.out (by kernel_rfl)) (fun _ _ _ h => h) (Or.inl ⟨by rfl, ?_⟩) ?_ ?_
          rotate_left
          · intro w'
            go_simp
            with_reducible rfl
          rotate_left
          · simp only [Act.put, List.setIfInBounds_toArray, List.set_cons_zero, List.set_cons_succ, i64_w, i32_w]
            rfl
          refine pure_ (i := 11) (N := some 35) (v := ?_) (a' := ?_) #[true, false, true, false, false, false, true, false, false, true, false, true, false, false, false, false, false] rfl rfl (any_of HT_.out (by kernel_rfl)) (fun _ _ _ h => h) (Or.inl ⟨by rfl, ?_⟩) ?_ ?_
          rotate_left
          · intro w'
            go_simp
            with_reducible rfl
          rotate_left
          · simp only [Act.put, List.setIfInBounds_toArray, List.set_cons_zero, List.set_cons_succ, i64_w, i32_w]
            rfl
          refine take_ (i := 1) (N := some 25) (v := ?_) (a' := ?_) #[true, true, true, false, false, false, true, false, false, true, false, true, false, false, false, false, false] rfl rfl (take_ofW HT_.out HW_.out (by kernel_rfl)) (fun _ _ _ h => h) (Or.inl ⟨by rfl, ?_⟩) hHeld ?_ ?_
          rotate_left
          · rintro w' ⟨s0, s1, s2, s3⟩
            go_simp
            with_reducible rfl
          rotate_left
          · simp only [Act.put, List.setIfInBounds_toArray, List.set_cons_zero, List.set_cons_succ, i64_w, i32_w]
            rfl
          refine take_ (i := 3) (N := some 27) (v := ?_) (a' := ?_) #[true, true, true, true, false, false, true, false, false, true, false, true, false, false, false, false, false] rfl rfl (take_ofW HT_.out HW_.out (by kernel_rfl)) (fun _ _ _ h => h) (Or.inl ⟨by rfl, ?_⟩) hHeld ?_ ?_
          rotate_left
          · rintro w' ⟨s0, s1, s2, s3⟩
            go_simp
            with_reducible rfl
          rotate_left
          · simp only [Act.put, List.setIfInBounds_toArray, List.set_cons_zero, List.set_cons_succ, i64_w, i32_w]
            rfl
          refine take_ (i := 7) (N := some 31) (v := ?_) (a' := ?_) #[true, true, true, true, false, false, true, true, false, true, false, true, false, false, false, false, false] rfl rfl (take_ofW HT_.out HW_.out (by kernel_rfl)) (fun _ _ _ h => h) (Or.inl ⟨by rfl, ?_⟩) hHeld ?_ ?_
          rotate_left
          · rintro w' ⟨s0, s1, s2, s3⟩
            go_simp
            with_reducible rfl
          rotate_left
          · simp only [Act.put, List.setIfInBounds_toArray, List.set_cons_zero, List.set_cons_succ, i64_w, i32_w]
            rfl
          refine take_ (i := 10) (N := some 34) (v := ?_) (a' := ?_) #[true, true, true, true, false, false, true, true, false, true, true, true, false, false, false, false, false] rfl rfl (take_ofW HT_.out HW_.out (by kernel_rfl)) (fun _ _ _ h => h) (Or.inl ⟨by rfl, ?_⟩) hHeld ?_ ?_
          rotate_left
          · rintro w' ⟨s0, s1, s2, s3⟩
            go_simp
            with_reducible rfl
          rotate_left
          · simp only [Act.put, List.setIfInBounds_toArray, List.set_cons_zero, List.set_cons_succ, i64_w, i32_w]
            rfl
          refine take_ (i := 12) (N := some 36) (v := ?_) (a' := ?_) #[true, true, true, true, false, false, true, true, false, true, true, true, true, false, false, false, false] rfl rfl (take_ofW HT_.out HW_.out (by kernel_rfl)) (fun _ _ _ h => h) (Or.inl ⟨by rfl, ?_⟩) hHeld ?_ ?_
          rotate_left
          · rintro w' ⟨s0, s1, s2, s3⟩
            go_simp
            with_reducible rfl
          rotate_left
          · simp only [Act.put, List.setIfInBounds_toArray, List.set_cons_zero, List.set_cons_succ, i64_w, i32_w]
            rfl
          refine pure_ (i := 13) (N := some 37) (v := ?_) (a' := ?_) #[true, true, true, true, false, false, true, true, false, true, true, true, true, true, false, false, false] rfl rfl (any_of HT_.out (by kernel_rfl)) (fun _ _ _ h => h) (Or.inl ⟨by rfl, ?_⟩) ?_ ?_
          rotate_left
          · intro w'
            go_simp
            with_reducible rfl
          rotate_left
          · simp only [Act.put, List.setIfInBounds_toArray, List.set_cons_zero, List.set_cons_succ, i64_w, i32_w]
            rfl
          refine one_ (i := 4) (N := some 28) #[true, true, true, true, true, false, true, true, false, true, true, true, true, true, false, false, false] rfl rfl (one_of HT_.out (by kernel_rfl)) (by decide) (fun K hK => ?_)
          refine goes_ Try.func69 (by kernel_rfl) rfl #[.int .i64 a1_1] (by rfl) rfl rfl (by (try simp only [List.map_toArray, List.map_cons, List.map_nil]); first | done | rfl | (simp only [List.length_drop, List.length_take]; rfl)) ?_
          with_reducible refine (fingerprint_Power.calls kj2 a1_1 t546 _ A32.out).mono ?_
          rintro e w' ⟨rfl, ⟨nd, rfl⟩⟩
          refine ⟨_, rfl, ?_⟩
          refine hK.out _ _ ⟨(blk_cell BK541.out 0).trans rfl, (blk_cell BK541.out 1).trans rfl, (blk_cell BK542.out 0).trans rfl, (blk_cell BK542.out 1).trans rfl⟩ (fun hHeld => ?_)
          clear hK K
          refine norm_ (a' := ?_) ?_ ?_
          rotate_left
          · show Act.put _ (some 28) _ = _
            simp only [Act.put, List.setIfInBounds_toArray, List.set_cons_zero, List.set_cons_succ, i64_w, i32_w]
            rfl
          refine one_ (i := 5) (N := some 29) #[true, true, true, true, true, true, true, true, false, true, true, true, true, true, false, false, false] rfl rfl (one_of HT_.out (by kernel_rfl)) (by decide) (fun K hK => ?_)
          refine goes_ Try.func68 (by kernel_rfl) rfl #[.int .u64 a0_0, .int .u64 t546] (by rfl) rfl rfl (by (try simp only [List.map_toArray, List.map_cons, List.map_nil]); first | done | rfl | (simp only [List.length_drop, List.length_take]; rfl)) ?_
          with_reducible refine (fingerprint_mul.calls a0_0 t546 t547 _ A33.out).mono ?_
          rintro e w' ⟨rfl, ⟨nd, rfl⟩⟩
          refine ⟨_, rfl, ?_⟩
          refine hK.out _ _ ⟨(blk_cell BK541.out 0).trans rfl, (blk_cell BK541.out 1).trans rfl, (blk_cell BK542.out 0).trans rfl, (blk_cell BK542.out 1).trans rfl⟩ (fun hHeld => ?_)
          clear hK K
          refine norm_ (a' := ?_) ?_ ?_
          rotate_left
          · show Act.put _ (some 29) _ = _
            simp only [Act.put, List.setIfInBounds_toArray, List.set_cons_zero, List.set_cons_succ, i64_w, i32_w]
            rfl
          refine one_ (i := 8) (N := some 32) #[true, true, true, true, true, true, true, true, true, true, true, true, true, true, false, false, false] rfl rfl (one_of HT_.out (by kernel_rfl)) (by decide) (fun K hK => ?_)
          refine goes_ Try.func67 (by kernel_rfl) rfl #[.int .u64 t547, .int .u64 a1_0] (by rfl) rfl rfl (by (try simp only [List.map_toArray, List.map_cons, List.map_nil]); first | done | rfl | (simp only [List.length_drop, List.length_take]; rfl)) ?_
          with_reducible refine (fingerprint_add.calls t547 a1_0 t548 _ A34.out).mono ?_
          rintro e w' ⟨rfl, ⟨nd, rfl⟩⟩
          refine ⟨_, rfl, ?_⟩
          refine hK.out _ _ ⟨(blk_cell BK541.out 0).trans rfl, (blk_cell BK541.out 1).trans rfl, (blk_cell BK542.out 0).trans rfl, (blk_cell BK542.out 1).trans rfl⟩ (fun hHeld => ?_)
          clear hK K
          refine norm_ (a' := ?_) ?_ ?_
          rotate_left
          · show Act.put _ (some 32) _ = _
            simp only [Act.put, List.setIfInBounds_toArray, List.set_cons_zero, List.set_cons_succ, i64_w, i32_w]
            rfl
          refine pure_ (i := 14) (N := some 38) (v := ?_) (a' := ?_) #[true, true, true, true, true, true, true, true, true, true, true, true, true, true, true, false, false] rfl rfl (any_of HT_.out (by kernel_rfl)) (fun _ _ _ h => h) (Or.inl ⟨by rfl, ?_⟩) ?_ ?_
          rotate_left
          · intro w'
            go_simp
            with_reducible rfl
          rotate_left
          · simp only [Act.put, List.setIfInBounds_toArray, List.set_cons_zero, List.set_cons_succ, i64_w, i32_w]
            rfl
          refine one_ (i := 15) (N := none) #[true, true, true, true, true, true, true, true, true, true, true, true, true, true, true, true, false] rfl rfl (one_of HT_.out (by kernel_rfl)) (by decide) (fun K hK => ?_)
          have hs41 : w40.cell? ⟨gb543, 0, none⟩ = some (.int .u64 0) := (blk_cell BK543.out 0).trans rfl
          have hfs41 := blk_frozen BK543.out 0
          have hns41_0 := NB541_543.out
          have hns41_1 := NB542_543.out
          have hms41_0 := NB543_541.out
          have hms41_1 := NB543_542.out
          have hs42 : w40.cell? ⟨gb543, 1, none⟩ = some (.int .i64 0) := (blk_cell BK543.out 1).trans rfl
          have hfs42 := blk_frozen BK543.out 1
          have hns42_0 := NB541_543.out
          have hns42_1 := NB542_543.out
          have hms42_0 := NB543_541.out
          have hms42_1 := NB543_542.out
          refine skip_ (w1 := ?_) (by rfl) rfl ?_ ?_
          rotate_left
          · go_simp
            rfl
          refine hK.out _ _ ⟨((cell_far (p := ⟨gb543, _, none⟩) NB541_543.out _).trans (((cell_far (p := ⟨gb543, _, none⟩) NB541_543.out _).trans (hHeld.1)))), ((cell_far (p := ⟨gb543, _, none⟩) NB541_543.out _).trans (((cell_far (p := ⟨gb543, _, none⟩) NB541_543.out _).trans (hHeld.2.1)))), ((cell_far (p := ⟨gb543, _, none⟩) NB542_543.out _).trans (((cell_far (p := ⟨gb543, _, none⟩) NB542_543.out _).trans (hHeld.2.2.1)))), ((cell_far (p := ⟨gb543, _, none⟩) NB542_543.out _).trans (((cell_far (p := ⟨gb543, _, none⟩) NB542_543.out _).trans (hHeld.2.2.2))))⟩ (fun hHeld => ?_)
          clear hK K
          refine pure_ (i := 16) (N := some 5) (v := ?_) (a' := ?_) #[true, true, true, true, true, true, true, true, true, true, true, true, true, true, true, true, true] rfl rfl (any_of HT_.out (by kernel_rfl)) (fun _ _ _ h => h) (Or.inl ⟨by rfl, ?_⟩) ?_ ?_
          rotate_left
          · intro w'
            go_simp
            with_reducible rfl
          rotate_left
          · simp only [Act.put, List.setIfInBounds_toArray, List.set_cons_zero, List.set_cons_succ, i64_w, i32_w]
            rfl
          refine done_ (done_of HT_.out (by kernel_rfl)) ?_
          try go_wp2
          refine bodyPost_ret (results_ct rfl _ _ gb543 51 #[.int .u64 t548, .int .i64 (wrap64 (a0_1 + a1_1))] (0, 0) _ rfl (by (with_reducible repeat (first | refine blk_drewN ?_ _ | refine blk_drew ?_ | refine blk_alloc ?_ _)); refine blk_put (cs := #[.int .u64 t548, .int .i64 0]) ?_ 1 _ rfl; (with_reducible repeat (first | refine blk_drewN ?_ _ | refine blk_drew ?_ | refine blk_alloc ?_ _)); refine blk_put (cs := #[.int .u64 0, .int .i64 0]) ?_ 0 _ rfl; (with_reducible repeat (first | refine blk_drewN ?_ _ | refine blk_drew ?_ | refine blk_alloc ?_ _)); exact BK543.out) Try.underlying51 rfl (by kernel_rfl)) rfl ?_
          exact ⟨by first | rfl | (simp [errW_none, errW_some] <;> rfl) | (simp [*, errW_none, errW_some] <;> rfl), by repeat (first | (with_reducible first | exact HB.out | apply below_alloc | apply pw_below_drewN | apply below_drew1 | refine below_set ?_ GE541.out | refine below_set ?_ GE542.out | refine below_set ?_ GE543.out) | exact HB.out)⟩

/-! ### manifest_Whole: function 41 -/
def manifest_Whole.l0 : Nat → List (S51) → Int → Int → Int → Int → Option (Int × Int × Int)
  | 0, _, _, _, _, _ => none
  | k + 1, x15, x16, x17, x553000, x553001 => if x17 < x16 then (if 0 ≤ x17 then (if x17 < (x15.length : Int) then ((fingerprint_Join.f k x553000 x553001 ((rd_T51 x15 x17).f0) ((rd_T51 x15 x17).f1)).bind fun bt555 => (manifest_Whole.l0 k x15 x16 (wrap64 (x17 + 1)) bt555.1 bt555.2.1)) else (none)) else (none)) else (some (x553000, x553001, 0))
def manifest_Whole.f (k : Nat) (a0_0 : Int) (l0_1 : List (S51)) : Option (Int × Int × Int) := (manifest_Check.f k a0_0 l0_1).bind fun t551 => (if t551 = 0 then (manifest_Whole.l0 k l0_1 (l0_1.length : Int) 0 0 0) else (some (0, 0, t551)))
set_option maxHeartbeats 8000000 in
set_option maxRecDepth 100000 in
theorem manifest_Whole.calls (k : Nat) (a0_0 : Int) (A0_1 : Option Addr) (c0_1 : Nat) (l0_1 : List (S51)) (r1 : Int) (r2 : Int) (r3 : Int) (w : World) (hr0_1 : Kd.C k51 w A0_1 l0_1.length l0_1) (hc0_1 : l0_1.length ≤ c0_1) (h : manifest_Whole.f k a0_0 l0_1 = some (r1, r2, r3)) :
    Calls Try.prog 41 #[.agg #[.int .i64 a0_0, .slice A0_1 l0_1.length c0_1]] w fun e w' => e = .returned (.tuple #[.agg #[.int .u64 r1, .int .i64 r2], .int .i64 r3]) ∧ Below w.heap.size w w' := by
  have hu31 := Try.underlying31
  have hu51 := Try.underlying51
  have HR0_1 := Aside0.mk hr0_1
  have HC0_1 := Aside0.mk hc0_1
  clear hr0_1 hc0_1
  have HB := Aside0.mk (Below.refl w.heap.size w)
  have H : ((manifest_Check.f k a0_0 l0_1).bind fun t551 => (if t551 = 0 then (manifest_Whole.l0 k l0_1 (l0_1.length : Int) 0 0 0) else (some (0, 0, t551)))) = some (r1, r2, r3) := h
  clear h
  replace H := Option.bind_eq_some_iff.mp H
  obtain ⟨t551, A20, H⟩ := H
  replace H : (if t551 = 0 then (manifest_Whole.l0 k l0_1 (l0_1.length : Int) 0 0 0) else (some (0, 0, t551))) = some (r1, r2, r3) := H
  have A2 := Aside0.mk A20
  clear A20
  by_cases c3 : t551 = 0
  · rw [if_pos c3] at H
    have c3b0 : (t551 == 0) = true := beq_iff_eq.mpr c3
    have c3b1 : (t551 != 0) = false := bne_eq_false_iff_eq.mpr c3
    clear c3
    have H' := Aside0.mk H
    clear H
    go_enter Try.func41, Try.ntmps41
    go_wp2_with (first | ((with_reducible refine gate_dst (N := 1) rfl ?_); refine box_event ?hg (N := 1) ?hd (cs := #[.int .i64 a0_0, .slice A0_1 l0_1.length c0_1]) (t := 31) ?hr ?_; (case hd => rfl); (case hg => rfl); (case hr => first | (go_simp; done) | (go_simp; rfl)); intro gb549 hg w4 hbox hb; have n0_ := Aside0.mk (below_step (by repeat (first | (with_reducible first | exact HB.out | apply below_alloc | apply pw_below_drewN | apply below_drew1) | exact HB.out)) hb); have n1_ := Aside0.mk (hbox); have n2_ := Aside0.mk ((by rw [hg]; exact (below_size (by repeat (first | (with_reducible first | exact HB.out | apply below_alloc | apply pw_below_drewN | apply below_drew1) | exact HB.out))) : w.heap.size ≤ gb549)); have n3_ := Aside0.mk ((by rw [hg]; exact (below_size (by repeat (first | (with_reducible first | exact HB.out | apply below_alloc | apply pw_below_drewN | apply below_drew1) | exact HB.out))) : w.heap.size ≤ gb549)); clear HB; have HB := n0_; have BK549 := n1_; have GW549 := n2_; have GE549 := n3_; clear n0_ n1_ n2_ n3_; clear hb hbox hg) | ((with_reducible refine gate_dst (N := 2) rfl ?_); refine box_event ?hg (N := 2) ?hd (cs := #[.int .u64 0, .int .i64 0]) (t := 51) ?hr ?_; (case hd => rfl); (case hg => rfl); (case hr => first | (go_simp; done) | (go_simp; rfl)); intro gb550 hg w5 hbox hb; have n0_ := Aside0.mk (blk_below (g := gb549) (o := .cells #[.int .i64 a0_0, .slice A0_1 l0_1.length c0_1] 31 (0, 0)) (by (with_reducible repeat (first | refine blk_drewN ?_ _ | refine blk_drew ?_ | refine blk_alloc ?_ _)); exact BK549.out) hb); have n1_ := Aside0.mk (below_step (by repeat (first | (with_reducible first | exact HB.out | apply below_alloc | apply pw_below_drewN | apply below_drew1 | refine below_set ?_ GE549.out) | exact HB.out)) hb); have n2_ := Aside0.mk (hbox); have n3_ := Aside0.mk ((by rw [hg]; exact (below_size (by repeat (first | (with_reducible first | exact HB.out | apply below_alloc | apply pw_below_drewN | apply below_drew1 | refine below_set ?_ GE549.out) | exact HB.out))) : w.heap.size ≤ gb550)); have n4_ := Aside0.mk ((by rw [hg]; exact (below_size (by repeat (first | (with_reducible first | exact HB.out | apply below_alloc | apply pw_below_drewN | apply below_drew1 | refine below_set ?_ GE549.out) | exact HB.out))) : w.heap.size ≤ gb550)); have n5_ := Aside0.mk ((by rw [hg]; exact Nat.ne_of_lt (blk_lt (g := gb549) (o := .cells #[.int .i64 a0_0, .slice A0_1 l0_1.length c0_1] 31 (0, 0)) (by (with_reducible repeat (first | refine blk_drewN ?_ _ | refine blk_drew ?_ | refine blk_alloc ?_ _)); exact BK549.out)) : gb549 ≠ gb550)); have n6_ := Aside0.mk ((by rw [hg]; exact Nat.ne_of_gt (blk_lt (g := gb549) (o := .cells #[.int .i64 a0_0, .slice A0_1 l0_1.length c0_1] 31 (0, 0)) (by (with_reducible repeat (first | refine blk_drewN ?_ _ | refine blk_drew ?_ | refine blk_alloc ?_ _)); exact BK549.out)) : gb550 ≠ gb549)); clear BK549; clear HB; have BK549 := n0_; have HB := n1_; have BK550 := n2_; have GW550 := n3_; have GE550 := n4_; have NB549_550 := n5_; have NB550_549 := n6_; clear n0_ n1_ n2_ n3_ n4_ n5_ n6_; clear hb hbox hg; have hnb6 := NB549_550.out; have hnc6 := NB550_549.out; have hcz7_0 : w5.cell? ⟨gb549, 0, none⟩ = some (.int .i64 a0_0) := (blk_cell BK549.out 0).trans rfl; have hcz7_1 : w5.cell? ⟨gb549, 1, none⟩ = some (.slice A0_1 l0_1.length c0_1) := (blk_cell BK549.out 1).trans rfl; have hfz7_0 := blk_frozen BK549.out 0; have hfz7_1 := blk_frozen BK549.out 1) | ((with_reducible refine gate_callee (f := 45) rfl ?_); refine goesL_ (some 9) rfl rfl Try.func45 (by kernel_rfl) rfl #[.agg #[.int .i64 a0_0, .slice A0_1 l0_1.length c0_1]] rfl (by (try simp only [List.map_toArray, List.map_cons, List.map_nil]); first | done | rfl | (simp only [List.length_drop, List.length_take]; rfl)) ?_; (with_reducible refine (manifest_Check.calls k a0_0 _ _ l0_1 t551 _ ?side1 ?side2 A2.out).mono ?_); (case side1 => repeat (first | exact (Kd.C_below HR0_1.out HB.out) | (with_reducible refine Kd.C_alloc ?_ _) | (with_reducible refine Kd.C_drewN ?_ _) | (with_reducible refine Kd.C_drew ?_))); (case side2 => exact HC0_1.out); rintro e w8 ⟨rfl, hb⟩; refine ⟨_, rfl, ?_⟩; have n0_ := Aside0.mk (blk_below (g := gb549) (o := .cells #[.int .i64 a0_0, .slice A0_1 l0_1.length c0_1] 31 (0, 0)) (by (with_reducible repeat (first | refine blk_drewN ?_ _ | refine blk_drew ?_ | refine blk_alloc ?_ _)); exact BK549.out) hb); have n1_ := Aside0.mk (blk_below (g := gb550) (o := .cells #[.int .u64 0, .int .i64 0] 51 (0, 0)) (by (with_reducible repeat (first | refine blk_drewN ?_ _ | refine blk_drew ?_ | refine blk_alloc ?_ _)); exact BK550.out) hb); have n2_ := Aside0.mk (below_step (by repeat (first | (with_reducible first | exact HB.out | apply below_alloc | apply pw_below_drewN | apply below_drew1 | refine below_set ?_ GE549.out | refine below_set ?_ GE550.out) | exact HB.out)) hb); clear BK549; clear BK550; clear HB; have BK549 := n0_; have BK550 := n1_; have HB := n2_; clear n0_ n1_ n2_; (try clear hb); (try clear hb2); (try clear hk); (try clear hi)) | ((with_reducible refine gate_dst (N := 5) rfl ?_); refine box_event ?hg (N := 5) ?hd (cs := #[.int .u64 0, .int .i64 0]) (t := 51) ?hr ?_; (case hd => rfl); (case hg => rfl); (case hr => first | (go_simp; done) | (go_simp; rfl)); intro gb552 hg w9 hbox hb; have n0_ := Aside0.mk (blk_below (g := gb549) (o := .cells #[.int .i64 a0_0, .slice A0_1 l0_1.length c0_1] 31 (0, 0)) (by (with_reducible repeat (first | refine blk_drewN ?_ _ | refine blk_drew ?_ | refine blk_alloc ?_ _)); exact BK549.out) hb); have n1_ := Aside0.mk (blk_below (g := gb550) (o := .cells #[.int .u64 0, .int .i64 0] 51 (0, 0)) (by (with_reducible repeat (first | refine blk_drewN ?_ _ | refine blk_drew ?_ | refine blk_alloc ?_ _)); exact BK550.out) hb); have n2_ := Aside0.mk (below_step (by repeat (first | (with_reducible first | exact HB.out | apply below_alloc | apply pw_below_drewN | apply below_drew1 | refine below_set ?_ GE549.out | refine below_set ?_ GE550.out) | exact HB.out)) hb); have n3_ := Aside0.mk (hbox); have n4_ := Aside0.mk ((by rw [hg]; exact (below_size (by repeat (first | (with_reducible first | exact HB.out | apply below_alloc | apply pw_below_drewN | apply below_drew1 | refine below_set ?_ GE549.out | refine below_set ?_ GE550.out) | exact HB.out))) : w.heap.size ≤ gb552)); have n5_ := Aside0.mk ((by rw [hg]; exact (below_size (by repeat (first | (with_reducible first | exact HB.out | apply below_alloc | apply pw_below_drewN | apply below_drew1 | refine below_set ?_ GE549.out | refine below_set ?_ GE550.out) | exact HB.out))) : w.heap.size ≤ gb552)); have n6_ := Aside0.mk ((by rw [hg]; exact Nat.ne_of_lt (blk_lt (g := gb549) (o := .cells #[.int .i64 a0_0, .slice A0_1 l0_1.length c0_1] 31 (0, 0)) (by (with_reducible repeat (first | refine blk_drewN ?_ _ | refine blk_drew ?_ | refine blk_alloc ?_ _)); exact BK549.out)) : gb549 ≠ gb552)); have n7_ := Aside0.mk ((by rw [hg]; exact Nat.ne_of_gt (blk_lt (g := gb549) (o := .cells #[.int .i64 a0_0, .slice A0_1 l0_1.length c0_1] 31 (0, 0)) (by (with_reducible repeat (first | refine blk_drewN ?_ _ | refine blk_drew ?_ | refine blk_alloc ?_ _)); exact BK549.out)) : gb552 ≠ gb549)); have n8_ := Aside0.mk ((by rw [hg]; exact Nat.ne_of_lt (blk_lt (g := gb550) (o := .cells #[.int .u64 0, .int .i64 0] 51 (0, 0)) (by (with_reducible repeat (first | refine blk_drewN ?_ _ | refine blk_drew ?_ | refine blk_alloc ?_ _)); exact BK550.out)) : gb550 ≠ gb552)); have n9_ := Aside0.mk ((by rw [hg]; exact Nat.ne_of_gt (blk_lt (g := gb550) (o := .cells #[.int .u64 0, .int .i64 0] 51 (0, 0)) (by (with_reducible repeat (first | refine blk_drewN ?_ _ | refine blk_drew ?_ | refine blk_alloc ?_ _)); exact BK550.out)) : gb552 ≠ gb550)); clear BK549; clear BK550; clear HB; have BK549 := n0_; have BK550 := n1_; have HB := n2_; have BK552 := n3_; have GW552 := n4_; have GE552 := n5_; have NB549_552 := n6_; have NB552_549 := n7_; have NB550_552 := n8_; have NB552_550 := n9_; clear n0_ n1_ n2_ n3_ n4_ n5_ n6_ n7_ n8_ n9_; clear hb hbox hg; have hnb10 := NB549_552.out; have hnc10 := NB552_549.out; have hcz11_0 : w9.cell? ⟨gb549, 0, none⟩ = some (.int .i64 a0_0) := (blk_cell BK549.out 0).trans rfl; have hcz11_1 : w9.cell? ⟨gb549, 1, none⟩ = some (.slice A0_1 l0_1.length c0_1) := (blk_cell BK549.out 1).trans rfl; have hfz11_0 := blk_frozen BK549.out 0; have hfz11_1 := blk_frozen BK549.out 1))
    go_loopg [17] k (fun kq v17 w' => ∃ (x17_1 : Int) (x553000_1 : Int) (x553001_1 : Int), v17 = .int .i64 x17_1 ∧ Aside0 (manifest_Whole.l0 kq l0_1 (l0_1.length : Int) x17_1 x553000_1 x553001_1 = some (r1, r2, r3)) ∧ Aside0 (kq ≤ k) ∧ Aside0 (w'.heap[gb549]? = some (.cells #[.int .i64 a0_0, (.slice A0_1 l0_1.length c0_1)] 31 (0, 0))) ∧ Aside0 (w'.heap[gb550]? = some (.cells #[.int .u64 0, .int .i64 0] 51 (0, 0))) ∧ Aside0 (w'.heap[gb552]? = some (.cells #[.int .u64 x553000_1, .int .i64 x553001_1] 51 (0, 0))) ∧ Aside0 (Below w.heap.size w w'))
    case atStart => exact ⟨(0), (0), (0), (by first | rfl | (simp; done) | (simp [*]; done)), H', ⟨Nat.le_refl _⟩, ⟨by (with_reducible repeat (first | refine blk_drewN ?_ _ | refine blk_drew ?_ | refine blk_alloc ?_ _)); exact BK549.out⟩, ⟨by (with_reducible repeat (first | refine blk_drewN ?_ _ | refine blk_drew ?_ | refine blk_alloc ?_ _)); exact BK550.out⟩, ⟨by (with_reducible repeat (first | refine blk_drewN ?_ _ | refine blk_drew ?_ | refine blk_alloc ?_ _)); exact BK552.out⟩, ⟨by repeat (first | (with_reducible first | exact HB.out | apply below_alloc | apply pw_below_drewN | apply below_drew1 | refine below_set ?_ GE549.out | refine below_set ?_ GE550.out | refine below_set ?_ GE552.out) | exact HB.out)⟩⟩
    case round =>
      clear H'
      try clear c1
      try clear p2
      try clear c3
      try clear c3b0
      try clear c3b1
      try clear c4
      try clear c6
      try clear c10
      try clear hcz11_0
      try clear hcz11_1
      try clear hcz7_0
      try clear hcz7_1
      try clear hfz11_0
      try clear hfz11_1
      try clear hfz7_0
      try clear hfz7_1
      obtain ⟨x17_1, x553000_1, x553001_1, rfl, HA, HK1, BK549, BK550, BK552, HB⟩ := hrel
      cases gk with
      | zero => exact absurd HA.out (by simp [manifest_Whole.l0])
      | succ k1 =>
        have H := HA.out
        clear HA
        simp only [manifest_Whole.l0] at H
        by_cases c12 : x17_1 < (l0_1.length : Int)
        · rw [if_pos c12] at H
          have c12b0 : decide (x17_1 < (l0_1.length : Int)) = true := decide_eq_true c12
          clear c12
          by_cases c13 : 0 ≤ x17_1
          · rw [if_pos c13] at H
            have c13b0 : decide (0 ≤ x17_1) = true := decide_eq_true c13
            clear c13
            by_cases c14 : x17_1 < (l0_1.length : Int)
            · rw [if_pos c14] at H
              have c14b0 : decide (x17_1 < (l0_1.length : Int)) = true := decide_eq_true c14
              clear c14
              replace H := Option.bind_eq_some_iff.mp H
              obtain ⟨⟨t555, t556, t557⟩, A150, H⟩ := H
              replace H : (manifest_Whole.l0 k1 l0_1 (l0_1.length : Int) (wrap64 (x17_1 + 1)) t555 t556) = some (r1, r2, r3) := H
              have A15 := Aside0.mk A150
              clear A150
              have H' := Aside0.mk H
              clear H
              have p553 : 0 ≤ (x17_1 : Int) := of_decide_eq_true (by first | (with_reducible assumption) | assumption)
              have q553 : x17_1 < (l0_1.length : Int) := of_decide_eq_true (by first | (with_reducible assumption) | assumption)
              obtain ⟨ad553, e553, hx553_0, hx553_1⟩ := at_T51 HR0_1.out x17_1 p553 q553
              cases e553
              replace hx553_0 := (HB.out.cell (World.block_lt_of_cell? w _ hx553_0)).trans hx553_0
              replace hx553_1 := (HB.out.cell (World.block_lt_of_cell? w _ hx553_1)).trans hx553_1
              replace p553 := eq_true p553
              replace q553 := eq_true q553
              go_wp2_with (first | ((with_reducible refine gate_dst (N := 7) rfl ?_); refine box_event ?hg (N := 7) ?hd (cs := #[.int .u64 0, .int .i64 0]) (t := 51) ?hr ?_; (case hd => rfl); (case hg => rfl); (case hr => first | (go_simp; done) | (go_simp; rfl)); intro gb554 hg w16 hbox hb; have n0_ := Aside0.mk (blk_below (g := gb549) (o := .cells #[.int .i64 a0_0, .slice (some ad553) l0_1.length c0_1] 31 (0, 0)) (by (with_reducible repeat (first | refine blk_drewN ?_ _ | refine blk_drew ?_ | refine blk_alloc ?_ _)); exact BK549.out) hb); have n1_ := Aside0.mk (blk_below (g := gb550) (o := .cells #[.int .u64 0, .int .i64 0] 51 (0, 0)) (by (with_reducible repeat (first | refine blk_drewN ?_ _ | refine blk_drew ?_ | refine blk_alloc ?_ _)); exact BK550.out) hb); have n2_ := Aside0.mk (blk_below (g := gb552) (o := .cells #[.int .u64 x553000_1, .int .i64 x553001_1] 51 (0, 0)) (by (with_reducible repeat (first | refine blk_drewN ?_ _ | refine blk_drew ?_ | refine blk_alloc ?_ _)); exact BK552.out) hb); have n3_ := Aside0.mk (below_step (by repeat (first | (with_reducible first | exact HB.out | apply below_alloc | apply pw_below_drewN | apply below_drew1 | refine below_set ?_ GE549.out | refine below_set ?_ GE550.out | refine below_set ?_ GE552.out) | exact HB.out)) hb); have n4_ := Aside0.mk (hbox); have n5_ := Aside0.mk ((by rw [hg]; exact (below_size (by repeat (first | (with_reducible first | exact HB.out | apply below_alloc | apply pw_below_drewN | apply below_drew1 | refine below_set ?_ GE549.out | refine below_set ?_ GE550.out | refine below_set ?_ GE552.out) | exact HB.out))) : w.heap.size ≤ gb554)); have n6_ := Aside0.mk ((by rw [hg]; exact (below_size (by repeat (first | (with_reducible first | exact HB.out | apply below_alloc | apply pw_below_drewN | apply below_drew1 | refine below_set ?_ GE549.out | refine below_set ?_ GE550.out | refine below_set ?_ GE552.out) | exact HB.out))) : w.heap.size ≤ gb554)); have n7_ := Aside0.mk ((by rw [hg]; exact Nat.ne_of_lt (blk_lt (g := gb549) (o := .cells #[.int .i64 a0_0, .slice (some ad553) l0_1.length c0_1] 31 (0, 0)) (by (with_reducible repeat (first | refine blk_drewN ?_ _ | refine blk_drew ?_ | refine blk_alloc ?_ _)); exact BK549.out)) : gb549 ≠ gb554)); have n8_ := Aside0.mk ((by rw [hg]; exact Nat.ne_of_gt (blk_lt (g := gb549) (o := .cells #[.int .i64 a0_0, .slice (some ad553) l0_1.length c0_1] 31 (0, 0)) (by (with_reducible repeat (first | refine blk_drewN ?_ _ | refine blk_drew ?_ | refine blk_alloc ?_ _)); exact BK549.out)) : gb554 ≠ gb549)); have n9_ := Aside0.mk ((by rw [hg]; exact Nat.ne_of_lt (blk_lt (g := gb550) (o := .cells #[.int .u64 0, .int .i64 0] 51 (0, 0)) (by (with_reducible repeat (first | refine blk_drewN ?_ _ | refine blk_drew ?_ | refine blk_alloc ?_ _)); exact BK550.out)) : gb550 ≠ gb554)); have n10_ := Aside0.mk ((by rw [hg]; exact Nat.ne_of_gt (blk_lt (g := gb550) (o := .cells #[.int .u64 0, .int .i64 0] 51 (0, 0)) (by (with_reducible repeat (first | refine blk_drewN ?_ _ | refine blk_drew ?_ | refine blk_alloc ?_ _)); exact BK550.out)) : gb554 ≠ gb550)); have n11_ := Aside0.mk ((by rw [hg]; exact Nat.ne_of_lt (blk_lt (g := gb552) (o := .cells #[.int .u64 x553000_1, .int .i64 x553001_1] 51 (0, 0)) (by (with_reducible repeat (first | refine blk_drewN ?_ _ | refine blk_drew ?_ | refine blk_alloc ?_ _)); exact BK552.out)) : gb552 ≠ gb554)); have n12_ := Aside0.mk ((by rw [hg]; exact Nat.ne_of_gt (blk_lt (g := gb552) (o := .cells #[.int .u64 x553000_1, .int .i64 x553001_1] 51 (0, 0)) (by (with_reducible repeat (first | refine blk_drewN ?_ _ | refine blk_drew ?_ | refine blk_alloc ?_ _)); exact BK552.out)) : gb554 ≠ gb552)); clear BK549; clear BK550; clear BK552; clear HB; have BK549 := n0_; have BK550 := n1_; have BK552 := n2_; have HB := n3_; have BK554 := n4_; have GW554 := n5_; have GE554 := n6_; have NB549_554 := n7_; have NB554_549 := n8_; have NB550_554 := n9_; have NB554_550 := n10_; have NB552_554 := n11_; have NB554_552 := n12_; clear n0_ n1_ n2_ n3_ n4_ n5_ n6_ n7_ n8_ n9_ n10_ n11_ n12_; clear hb hbox hg; have hnb17 := NB554_549.out; have hnc17 := NB549_554.out; have hnb18 := NB554_550.out; have hnc18 := NB550_554.out; have hnb19 := NB554_552.out; have hnc19 := NB552_554.out; have hcz20_0 : w16.cell? ⟨gb554, 0, none⟩ = some (.int .u64 0) := (blk_cell BK554.out 0).trans rfl; have hcz20_1 : w16.cell? ⟨gb554, 1, none⟩ = some (.int .i64 0) := (blk_cell BK554.out 1).trans rfl; have hfz20_0 := blk_frozen BK554.out 0; have hfz20_1 := blk_frozen BK554.out 1; have hnb21 := NB552_549.out; have hnc21 := NB549_552.out; have hnb22 := NB552_550.out; have hnc22 := NB550_552.out; have hcz23_0 : w16.cell? ⟨gb552, 0, none⟩ = some (.int .u64 x553000_1) := (blk_cell BK552.out 0).trans rfl; have hcz23_1 : w16.cell? ⟨gb552, 1, none⟩ = some (.int .i64 x553001_1) := (blk_cell BK552.out 1).trans rfl; have hfz23_0 := blk_frozen BK552.out 0; have hfz23_1 := blk_frozen BK552.out 1) | ((with_reducible refine gate_callee (f := 48) rfl ?_); refine goesL_ (some 24) rfl rfl Try.func48 (by kernel_rfl) rfl #[.agg #[.int .u64 x553000_1, .int .i64 x553001_1], .agg #[.int .u64 ((rd_T51 l0_1 x17_1).f0), .int .i64 ((rd_T51 l0_1 x17_1).f1)]] rfl (by (try simp only [List.map_toArray, List.map_cons, List.map_nil]); first | done | rfl | (simp only [List.length_drop, List.length_take]; rfl)) ?_; (with_reducible refine (fingerprint_Join.calls k1 x553000_1 x553001_1 ((rd_T51 l0_1 x17_1).f0) ((rd_T51 l0_1 x17_1).f1) t555 t556 t557 _ A15.out).mono ?_); rintro e w24 ⟨rfl, hb⟩; refine ⟨_, rfl, ?_⟩; have n0_ := Aside0.mk (blk_below (g := gb549) (o := .cells #[.int .i64 a0_0, .slice (some ad553) l0_1.length c0_1] 31 (0, 0)) (by (with_reducible repeat (first | refine blk_drewN ?_ _ | refine blk_drew ?_ | refine blk_alloc ?_ _)); refine blk_far ?_ NB549_554.out _; (with_reducible repeat (first | refine blk_drewN ?_ _ | refine blk_drew ?_ | refine blk_alloc ?_ _)); refine blk_far ?_ NB549_554.out _; (with_reducible repeat (first | refine blk_drewN ?_ _ | refine blk_drew ?_ | refine blk_alloc ?_ _)); exact BK549.out) hb); have n1_ := Aside0.mk (blk_below (g := gb550) (o := .cells #[.int .u64 0, .int .i64 0] 51 (0, 0)) (by (with_reducible repeat (first | refine blk_drewN ?_ _ | refine blk_drew ?_ | refine blk_alloc ?_ _)); refine blk_far ?_ NB550_554.out _; (with_reducible repeat (first | refine blk_drewN ?_ _ | refine blk_drew ?_ | refine blk_alloc ?_ _)); refine blk_far ?_ NB550_554.out _; (with_reducible repeat (first | refine blk_drewN ?_ _ | refine blk_drew ?_ | refine blk_alloc ?_ _)); exact BK550.out) hb); have n2_ := Aside0.mk (blk_below (g := gb552) (o := .cells #[.int .u64 x553000_1, .int .i64 x553001_1] 51 (0, 0)) (by (with_reducible repeat (first | refine blk_drewN ?_ _ | refine blk_drew ?_ | refine blk_alloc ?_ _)); refine blk_far ?_ NB552_554.out _; (with_reducible repeat (first | refine blk_drewN ?_ _ | refine blk_drew ?_ | refine blk_alloc ?_ _)); refine blk_far ?_ NB552_554.out _; (with_reducible repeat (first | refine blk_drewN ?_ _ | refine blk_drew ?_ | refine blk_alloc ?_ _)); exact BK552.out) hb); have n3_ := Aside0.mk (blk_below (g := gb554) (o := .cells #[.int .u64 ((rd_T51 l0_1 x17_1).f0), .int .i64 ((rd_T51 l0_1 x17_1).f1)] 51 (0, 0)) (by (with_reducible repeat (first | refine blk_drewN ?_ _ | refine blk_drew ?_ | refine blk_alloc ?_ _)); refine blk_put (cs := #[.int .u64 ((rd_T51 l0_1 x17_1).f0), .int .i64 0]) ?_ 1 _ rfl; (with_reducible repeat (first | refine blk_drewN ?_ _ | refine blk_drew ?_ | refine blk_alloc ?_ _)); refine blk_put (cs := #[.int .u64 0, .int .i64 0]) ?_ 0 _ rfl; (with_reducible repeat (first | refine blk_drewN ?_ _ | refine blk_drew ?_ | refine blk_alloc ?_ _)); exact BK554.out) hb); have n4_ := Aside0.mk (below_step (by repeat (first | (with_reducible first | exact HB.out | apply below_alloc | apply pw_below_drewN | apply below_drew1 | refine below_set ?_ GE549.out | refine below_set ?_ GE550.out | refine below_set ?_ GE552.out | refine below_set ?_ GE554.out) | exact HB.out)) hb); clear BK549; clear BK550; clear BK552; clear BK554; clear HB; have BK549 := n0_; have BK550 := n1_; have BK552 := n2_; have BK554 := n3_; have HB := n4_; clear n0_ n1_ n2_ n3_ n4_; (try clear hb); (try clear hb2); (try clear hk); (try clear hi); have hcz25_0 : w24.cell? ⟨gb552, 0, none⟩ = some (.int .u64 x553000_1) := (blk_cell BK552.out 0).trans rfl; have hcz25_1 : w24.cell? ⟨gb552, 1, none⟩ = some (.int .i64 x553001_1) := (blk_cell BK552.out 1).trans rfl; have hfz25_0 := blk_frozen BK552.out 0; have hfz25_1 := blk_frozen BK552.out 1))
              go_roundg k1
              case measure => have := HK1.out; omega
              case rel => exact ⟨(wrap64 (x17_1 + 1)), (t555), (t556), (by first | rfl | (simp; done) | (simp [*]; done)), H', ⟨by have := HK1.out; omega⟩, ⟨by (with_reducible repeat (first | refine blk_drewN ?_ _ | refine blk_drew ?_ | refine blk_alloc ?_ _)); refine blk_far ?_ NB549_552.out _; (with_reducible repeat (first | refine blk_drewN ?_ _ | refine blk_drew ?_ | refine blk_alloc ?_ _)); refine blk_far ?_ NB549_552.out _; (with_reducible repeat (first | refine blk_drewN ?_ _ | refine blk_drew ?_ | refine blk_alloc ?_ _)); exact BK549.out⟩, ⟨by (with_reducible repeat (first | refine blk_drewN ?_ _ | refine blk_drew ?_ | refine blk_alloc ?_ _)); refine blk_far ?_ NB550_552.out _; (with_reducible repeat (first | refine blk_drewN ?_ _ | refine blk_drew ?_ | refine blk_alloc ?_ _)); refine blk_far ?_ NB550_552.out _; (with_reducible repeat (first | refine blk_drewN ?_ _ | refine blk_drew ?_ | refine blk_alloc ?_ _)); exact BK550.out⟩, ⟨by (with_reducible repeat (first | refine blk_drewN ?_ _ | refine blk_drew ?_ | refine blk_alloc ?_ _)); refine blk_put (cs := #[.int .u64 t555, .int .i64 x553001_1]) ?_ 1 _ rfl; (with_reducible repeat (first | refine blk_drewN ?_ _ | refine blk_drew ?_ | refine blk_alloc ?_ _)); refine blk_put (cs := #[.int .u64 x553000_1, .int .i64 x553001_1]) ?_ 0 _ rfl; (with_reducible repeat (first | refine blk_drewN ?_ _ | refine blk_drew ?_ | refine blk_alloc ?_ _)); exact BK552.out⟩, ⟨by repeat (first | (with_reducible first | exact HB.out | apply below_alloc | apply pw_below_drewN | apply below_drew1 | refine below_set ?_ GE549.out | refine below_set ?_ GE550.out | refine below_set ?_ GE552.out | refine below_set ?_ GE554.out) | exact HB.out)⟩⟩
            · rw [if_neg c14] at H
              exact absurd H (by simp)
          · rw [if_neg c13] at H
            exact absurd H (by simp)
        · rw [if_neg c12] at H
          have c12b0 : decide (x17_1 < (l0_1.length : Int)) = false := decide_eq_false c12
          clear c12
          simp only [Option.some.injEq, Prod.mk.injEq] at H
          obtain ⟨rfl, rfl, rfl⟩ := H
          have hnb26 := NB552_549.out
          have hnc26 := NB549_552.out
          have hnb27 := NB552_550.out
          have hnc27 := NB550_552.out
          have hcz28_0 : wr.cell? ⟨gb552, 0, none⟩ = some (.int .u64 x553000_1) := (blk_cell BK552.out 0).trans rfl
          have hcz28_1 : wr.cell? ⟨gb552, 1, none⟩ = some (.int .i64 x553001_1) := (blk_cell BK552.out 1).trans rfl
          have hfz28_0 := blk_frozen BK552.out 0
          have hfz28_1 := blk_frozen BK552.out 1
          have hnb29 := NB550_549.out
          have hnc29 := NB549_550.out
          have hcz30_0 : wr.cell? ⟨gb550, 0, none⟩ = some (.int .u64 0) := (blk_cell BK550.out 0).trans rfl
          have hcz30_1 : wr.cell? ⟨gb550, 1, none⟩ = some (.int .i64 0) := (blk_cell BK550.out 1).trans rfl
          have hfz30_0 := blk_frozen BK550.out 0
          have hfz30_1 := blk_frozen BK550.out 1
          go_wp2
          refine bodyPost_ret (results_ct rfl _ _ gb550 51 #[.int .u64 x553000_1, .int .i64 x553001_1] (0, 0) _ rfl (by (with_reducible repeat (first | refine blk_drewN ?_ _ | refine blk_drew ?_ | refine blk_alloc ?_ _)); refine blk_put (cs := #[.int .u64 x553000_1, .int .i64 0]) ?_ 1 _ rfl; (with_reducible repeat (first | refine blk_drewN ?_ _ | refine blk_drew ?_ | refine blk_alloc ?_ _)); refine blk_put (cs := #[.int .u64 0, .int .i64 0]) ?_ 0 _ rfl; (with_reducible repeat (first | refine blk_drewN ?_ _ | refine blk_drew ?_ | refine blk_alloc ?_ _)); exact BK550.out) Try.underlying51 rfl (by kernel_rfl)) rfl ?_
          exact ⟨by first | rfl | (simp [errW_none, errW_some] <;> rfl) | (simp [*, errW_none, errW_some] <;> rfl), by repeat (first | (with_reducible first | exact HB.out | apply below_alloc | apply pw_below_drewN | apply below_drew1 | refine below_set ?_ GE549.out | refine below_set ?_ GE550.out | refine below_set ?_ GE552.out) | exact HB.out)⟩
  · rw [if_neg c3] at H
    have c3b0 : (t551 == 0) = false := beq_eq_false_iff_ne.mpr c3
    have c3b1 : (t551 != 0) = true := bne_iff_ne.mpr c3
    simp only [Option.some.injEq, Prod.mk.injEq] at H
    obtain ⟨rfl, rfl, rfl⟩ := H
    go_enter Try.func41, Try.ntmps41
    go_wp2_with (first | ((with_reducible refine gate_dst (N := 1) rfl ?_); refine box_event ?hg (N := 1) ?hd (cs := #[.int .i64 a0_0, .slice A0_1 l0_1.length c0_1]) (t := 31) ?hr ?_; (case hd => rfl); (case hg => rfl); (case hr => first | (go_simp; done) | (go_simp; rfl)); intro gb549 hg w31 hbox hb; have n0_ := Aside0.mk (below_step (by repeat (first | (with_reducible first | exact HB.out | apply below_alloc | apply pw_below_drewN | apply below_drew1) | exact HB.out)) hb); have n1_ := Aside0.mk (hbox); have n2_ := Aside0.mk ((by rw [hg]; exact (below_size (by repeat (first | (with_reducible first | exact HB.out | apply below_alloc | apply pw_below_drewN | apply below_drew1) | exact HB.out))) : w.heap.size ≤ gb549)); have n3_ := Aside0.mk ((by rw [hg]; exact (below_size (by repeat (first | (with_reducible first | exact HB.out | apply below_alloc | apply pw_below_drewN | apply below_drew1) | exact HB.out))) : w.heap.size ≤ gb549)); clear HB; have HB := n0_; have BK549 := n1_; have GW549 := n2_; have GE549 := n3_; clear n0_ n1_ n2_ n3_; clear hb hbox hg) | ((with_reducible refine gate_dst (N := 2) rfl ?_); refine box_event ?hg (N := 2) ?hd (cs := #[.int .u64 0, .int .i64 0]) (t := 51) ?hr ?_; (case hd => rfl); (case hg => rfl); (case hr => first | (go_simp; done) | (go_simp; rfl)); intro gb550 hg w32 hbox hb; have n0_ := Aside0.mk (blk_below (g := gb549) (o := .cells #[.int .i64 a0_0, .slice A0_1 l0_1.length c0_1] 31 (0, 0)) (by (with_reducible repeat (first | refine blk_drewN ?_ _ | refine blk_drew ?_ | refine blk_alloc ?_ _)); exact BK549.out) hb); have n1_ := Aside0.mk (below_step (by repeat (first | (with_reducible first | exact HB.out | apply below_alloc | apply pw_below_drewN | apply below_drew1 | refine below_set ?_ GE549.out) | exact HB.out)) hb); have n2_ := Aside0.mk (hbox); have n3_ := Aside0.mk ((by rw [hg]; exact (below_size (by repeat (first | (with_reducible first | exact HB.out | apply below_alloc | apply pw_below_drewN | apply below_drew1 | refine below_set ?_ GE549.out) | exact HB.out))) : w.heap.size ≤ gb550)); have n4_ := Aside0.mk ((by rw [hg]; exact (below_size (by repeat (first | (with_reducible first | exact HB.out | apply below_alloc | apply pw_below_drewN | apply below_drew1 | refine below_set ?_ GE549.out) | exact HB.out))) : w.heap.size ≤ gb550)); have n5_ := Aside0.mk ((by rw [hg]; exact Nat.ne_of_lt (blk_lt (g := gb549) (o := .cells #[.int .i64 a0_0, .slice A0_1 l0_1.length c0_1] 31 (0, 0)) (by (with_reducible repeat (first | refine blk_drewN ?_ _ | refine blk_drew ?_ | refine blk_alloc ?_ _)); exact BK549.out)) : gb549 ≠ gb550)); have n6_ := Aside0.mk ((by rw [hg]; exact Nat.ne_of_gt (blk_lt (g := gb549) (o := .cells #[.int .i64 a0_0, .slice A0_1 l0_1.length c0_1] 31 (0, 0)) (by (with_reducible repeat (first | refine blk_drewN ?_ _ | refine blk_drew ?_ | refine blk_alloc ?_ _)); exact BK549.out)) : gb550 ≠ gb549)); clear BK549; clear HB; have BK549 := n0_; have HB := n1_; have BK550 := n2_; have GW550 := n3_; have GE550 := n4_; have NB549_550 := n5_; have NB550_549 := n6_; clear n0_ n1_ n2_ n3_ n4_ n5_ n6_; clear hb hbox hg; have hnb33 := NB549_550.out; have hnc33 := NB550_549.out; have hcz34_0 : w32.cell? ⟨gb549, 0, none⟩ = some (.int .i64 a0_0) := (blk_cell BK549.out 0).trans rfl; have hcz34_1 : w32.cell? ⟨gb549, 1, none⟩ = some (.slice A0_1 l0_1.length c0_1) := (blk_cell BK549.out 1).trans rfl; have hfz34_0 := blk_frozen BK549.out 0; have hfz34_1 := blk_frozen BK549.out 1) | ((with_reducible refine gate_callee (f := 45) rfl ?_); refine goesL_ (some 9) rfl rfl Try.func45 (by kernel_rfl) rfl #[.agg #[.int .i64 a0_0, .slice A0_1 l0_1.length c0_1]] rfl (by (try simp only [List.map_toArray, List.map_cons, List.map_nil]); first | done | rfl | (simp only [List.length_drop, List.length_take]; rfl)) ?_; (with_reducible refine (manifest_Check.calls k a0_0 _ _ l0_1 t551 _ ?side1 ?side2 A2.out).mono ?_); (case side1 => repeat (first | exact (Kd.C_below HR0_1.out HB.out) | (with_reducible refine Kd.C_alloc ?_ _) | (with_reducible refine Kd.C_drewN ?_ _) | (with_reducible refine Kd.C_drew ?_))); (case side2 => exact HC0_1.out); rintro e w35 ⟨rfl, hb⟩; refine ⟨_, rfl, ?_⟩; have n0_ := Aside0.mk (blk_below (g := gb549) (o := .cells #[.int .i64 a0_0, .slice A0_1 l0_1.length c0_1] 31 (0, 0)) (by (with_reducible repeat (first | refine blk_drewN ?_ _ | refine blk_drew ?_ | refine blk_alloc ?_ _)); exact BK549.out) hb); have n1_ := Aside0.mk (blk_below (g := gb550) (o := .cells #[.int .u64 0, .int .i64 0] 51 (0, 0)) (by (with_reducible repeat (first | refine blk_drewN ?_ _ | refine blk_drew ?_ | refine blk_alloc ?_ _)); exact BK550.out) hb); have n2_ := Aside0.mk (below_step (by repeat (first | (with_reducible first | exact HB.out | apply below_alloc | apply pw_below_drewN | apply below_drew1 | refine below_set ?_ GE549.out | refine below_set ?_ GE550.out) | exact HB.out)) hb); clear BK549; clear BK550; clear HB; have BK549 := n0_; have BK550 := n1_; have HB := n2_; clear n0_ n1_ n2_; (try clear hb); (try clear hb2); (try clear hk); (try clear hi); have hcz36_0 : w35.cell? ⟨gb550, 0, none⟩ = some (.int .u64 0) := (blk_cell BK550.out 0).trans rfl; have hcz36_1 : w35.cell? ⟨gb550, 1, none⟩ = some (.int .i64 0) := (blk_cell BK550.out 1).trans rfl; have hfz36_0 := blk_frozen BK550.out 0; have hfz36_1 := blk_frozen BK550.out 1))
    refine bodyPost_ret (results_ct rfl _ _ gb550 51 #[.int .u64 0, .int .i64 0] (0, 0) _ rfl (by (with_reducible repeat (first | refine blk_drewN ?_ _ | refine blk_drew ?_ | refine blk_alloc ?_ _)); refine blk_put (cs := #[.int .u64 0, .int .i64 0]) ?_ 1 _ rfl; (with_reducible repeat (first | refine blk_drewN ?_ _ | refine blk_drew ?_ | refine blk_alloc ?_ _)); refine blk_put (cs := #[.int .u64 0, .int .i64 0]) ?_ 0 _ rfl; (with_reducible repeat (first | refine blk_drewN ?_ _ | refine blk_drew ?_ | refine blk_alloc ?_ _)); exact BK550.out) Try.underlying51 rfl (by kernel_rfl)) rfl ?_
    exact ⟨by first | rfl | (simp [errW_none, errW_some] <;> rfl) | (simp [*, errW_none, errW_some] <;> rfl), by repeat (first | (with_reducible first | exact HB.out | apply below_alloc | apply pw_below_drewN | apply below_drew1 | refine below_set ?_ GE549.out | refine below_set ?_ GE550.out) | exact HB.out)⟩

-- NOT PRINTED: function 9 (stockyardlaw25_ManifestTrue)

end Go.Proofs.Ytleapbbdpediiaa.P
