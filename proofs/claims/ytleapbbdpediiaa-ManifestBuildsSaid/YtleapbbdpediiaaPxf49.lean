-- What this claim does not use is left out (shake.py).
import Derived.Test.YtleapbbdpediiaaPx0
import Derived.Test.YtleapbbdpediiaaPxf30
-- Printed by a program (pr.py over the kit's print) out of the translation.
namespace Go.Proofs.Ytleapbbdpediiaa.P
open Go.RowKit Go.Proofs.YtleapbbdpediiaaW.PrintWords Go.Proofs.YtleapbbdpediiaaW.PrintLast Go.Proofs.YtleapbbdpediiaaW.PrintMore
attribute [local go_sem] max2_int min2_int max_two min_two max_three min_three max_four min_four   -- for this text's walks alone
set_option linter.unusedVariables false
set_option linter.unusedSimpArgs false

-- NOT PRINTED: function 11 (stockyardlaw25_ManifestConcats)

/-! ### stockyardlaw25_cut: function 49 -/
def stockyardlaw25_cut.f (s0_0 : List Int) (s0_1 : Int) : Option (Int × Int × Int × Int × Int) := (stockyardmake_Tape_Next.f s0_0 s0_1 3).bind fun bt647 => ((stockyardmake_Tape_Next.f s0_0 bt647.2 3).bind fun bt650 => ((stockyardmake_Tape_Next.f s0_0 bt650.2 9).bind fun bt652 => ((stockyardmake_Tape_Next.f s0_0 bt652.2 4).bind fun bt654 => (if 0 ≤ bt654.1 then (some (wrap64 ((wrap64 (1 + bt647.1)) + bt650.1), wrap64 ((wrap64 ((wrap64 (1 + bt647.1)) + bt650.1)) + bt652.1), wrap64 (1 + bt647.1), IntKind.u64.wrap ((shl .u64 1 bt654.1) - 1), bt654.2)) else (none)))))
set_option maxHeartbeats 8000000 in
set_option maxRecDepth 100000 in
theorem stockyardlaw25_cut.calls (g : Nat) (s0_0 : List Int) (s0_1 : Int) (r1 : Int) (r2 : Int) (r3 : Int) (r4 : Int) (r5 : Int) (w0 w : World) (hI : IsS26 w0 w g s0_0 s0_1) (hB : Below w0.heap.size w0 w) (h : stockyardlaw25_cut.f s0_0 s0_1 = some (r1, r2, r3, r4, r5)) :
    Calls Try.prog 49 #[.pointer (some ⟨g, 0, none⟩)] w fun e w' => e = .returned (.agg #[.int .i64 r1, .int .i64 r2, .int .i64 r3, .int .u64 r4]) ∧ IsS26 w0 w' g s0_0 r5 ∧ Below w0.heap.size w0 w' ∧ KeepBut w w' g none := by
  have hu83 := Try.underlying83
  have HI0 := Aside0.mk hI
  have HK := Aside0.mk (KeepBut.refl w g none)
  have HL := Aside0.mk hB.size
  clear hI
  have HW0 := Aside0.mk hB.size
  have HB := Aside0.mk hB
  clear hB
  have H : ((stockyardmake_Tape_Next.f s0_0 s0_1 3).bind fun bt647 => ((stockyardmake_Tape_Next.f s0_0 bt647.2 3).bind fun bt650 => ((stockyardmake_Tape_Next.f s0_0 bt650.2 9).bind fun bt652 => ((stockyardmake_Tape_Next.f s0_0 bt652.2 4).bind fun bt654 => (if 0 ≤ bt654.1 then (some (wrap64 ((wrap64 (1 + bt647.1)) + bt650.1), wrap64 ((wrap64 ((wrap64 (1 + bt647.1)) + bt650.1)) + bt652.1), wrap64 (1 + bt647.1), IntKind.u64.wrap ((shl .u64 1 bt654.1) - 1), bt654.2)) else (none)))))) = some (r1, r2, r3, r4, r5) := h
  clear h
  replace H := Option.bind_eq_some_iff.mp H
  obtain ⟨⟨t647, t648⟩, A20, H⟩ := H
  replace H : ((stockyardmake_Tape_Next.f s0_0 t648 3).bind fun bt650 => ((stockyardmake_Tape_Next.f s0_0 bt650.2 9).bind fun bt652 => ((stockyardmake_Tape_Next.f s0_0 bt652.2 4).bind fun bt654 => (if 0 ≤ bt654.1 then (some (wrap64 ((wrap64 (1 + t647)) + bt650.1), wrap64 ((wrap64 ((wrap64 (1 + t647)) + bt650.1)) + bt652.1), wrap64 (1 + t647), IntKind.u64.wrap ((shl .u64 1 bt654.1) - 1), bt654.2)) else (none))))) = some (r1, r2, r3, r4, r5) := H
  have A2 := Aside0.mk A20
  clear A20
  replace H := Option.bind_eq_some_iff.mp H
  obtain ⟨⟨t650, t651⟩, A30, H⟩ := H
  replace H : ((stockyardmake_Tape_Next.f s0_0 t651 9).bind fun bt652 => ((stockyardmake_Tape_Next.f s0_0 bt652.2 4).bind fun bt654 => (if 0 ≤ bt654.1 then (some (wrap64 ((wrap64 (1 + t647)) + t650), wrap64 ((wrap64 ((wrap64 (1 + t647)) + t650)) + bt652.1), wrap64 (1 + t647), IntKind.u64.wrap ((shl .u64 1 bt654.1) - 1), bt654.2)) else (none)))) = some (r1, r2, r3, r4, r5) := H
  have A3 := Aside0.mk A30
  clear A30
  replace H := Option.bind_eq_some_iff.mp H
  obtain ⟨⟨t652, t653⟩, A40, H⟩ := H
  replace H : ((stockyardmake_Tape_Next.f s0_0 t653 4).bind fun bt654 => (if 0 ≤ bt654.1 then (some (wrap64 ((wrap64 (1 + t647)) + t650), wrap64 ((wrap64 ((wrap64 (1 + t647)) + t650)) + t652), wrap64 (1 + t647), IntKind.u64.wrap ((shl .u64 1 bt654.1) - 1), bt654.2)) else (none))) = some (r1, r2, r3, r4, r5) := H
  have A4 := Aside0.mk A40
  clear A40
  replace H := Option.bind_eq_some_iff.mp H
  obtain ⟨⟨t654, t655⟩, A50, H⟩ := H
  replace H : (if 0 ≤ t654 then (some (wrap64 ((wrap64 (1 + t647)) + t650), wrap64 ((wrap64 ((wrap64 (1 + t647)) + t650)) + t652), wrap64 (1 + t647), IntKind.u64.wrap ((shl .u64 1 t654) - 1), t655)) else (none)) = some (r1, r2, r3, r4, r5) := H
  have A5 := Aside0.mk A50
  clear A50
  by_cases c6 : 0 ≤ t654
  · rw [if_pos c6] at H
    have c6b0 := eq_true c6
    have c6b1 : decide (0 ≤ t654) = true := decide_eq_true c6
    clear c6
    obtain ⟨ji7, hji7⟩ : ∃ j_ : Int, (shl .u64 1 t654) = j_ := ⟨_, rfl⟩
    replace H : (some (wrap64 ((wrap64 (1 + t647)) + t650), wrap64 ((wrap64 ((wrap64 (1 + t647)) + t650)) + t652), wrap64 (1 + t647), IntKind.u64.wrap ((ji7) - 1), t655)) = some (r1, r2, r3, r4, r5) := by first | (rw [hji7] at H; exact H) | (simp only [hji7] at H ⊢; exact H)
    (try rw [hji7] at A2)
    (try rw [hji7] at A3)
    (try rw [hji7] at A4)
    (try rw [hji7] at A5)
    have hji7_ : (IntKind.u64.wrap (1 * 2 ^ min t654.toNat 64)) = ji7 := hji7
    have hji7z : t654 ≤ 64 → (IntKind.u64.wrap (1 * 2 ^ t654.toNat)) = ji7 := shl_small hji7
    have hji7u : (IntKind.u64.wrap (2 ^ min t654.toNat 64)) = ji7 := by have h_ := hji7_; rw [Int.one_mul] at h_; exact h_
    have hji7v : t654 ≤ 64 → (IntKind.u64.wrap (2 ^ t654.toNat)) = ji7 := fun hle_ => by have h_ := hji7z hle_; rw [Int.one_mul] at h_; exact h_
    simp only [Option.some.injEq, Prod.mk.injEq] at H
    obtain ⟨rfl, rfl, rfl, rfl, rfl⟩ := H
    go_enter Try.func49, Try.ntmps49
    try go_wp2_with (first | ((with_reducible refine gate_dst (N := 2) rfl ?_); refine box_event ?hg (N := 2) ?hd (cs := #[.int .i64 0, .int .i64 0, .int .i64 0, .int .u64 0]) (t := 83) ?hr ?_; (case hd => rfl); (case hg => rfl); (case hr => first | (go_simp; done) | (go_simp; rfl)); intro gb646 hg w8 hbox hb; have n0_ := Aside0.mk (IsS26.below (by repeat (first | (with_reducible first | exact HI0.out | apply IsS26.alloc | apply IsS26.drewN | apply IsS26.drew | apply IsS26.set_1) | exact HI0.out)) hb); have n1_ := Aside0.mk (KeepBut.trans (by repeat (first | (with_reducible first | exact HK.out | apply KeepBut.set_ | apply keep_drewN | apply keep_drew | apply keep_alloc) | exact HK.out)) (KeepBut.of_below hb g none) (.inl rfl)); have n2_ := Aside0.mk (below_step (by repeat (first | (with_reducible first | exact HB.out | apply below_alloc | apply pw_below_drewN | apply below_drew1 | refine below_set ?_ (IsS26.ge HI0.out)) | exact HB.out)) hb); have n3_ := Aside0.mk (hbox); have n4_ := Aside0.mk ((by rw [hg]; exact (keep_size (w := w) (g := g) (row := none) (by repeat (first | (with_reducible first | exact HK.out | apply KeepBut.set_ | apply keep_drewN | apply keep_drew | apply keep_alloc) | exact HK.out))) : w.heap.size ≤ gb646)); have n5_ := Aside0.mk ((Nat.le_trans HW0.out (by rw [hg]; exact (keep_size (w := w) (g := g) (row := none) (by repeat (first | (with_reducible first | exact HK.out | apply KeepBut.set_ | apply keep_drewN | apply keep_drew | apply keep_alloc) | exact HK.out))) : w.heap.size ≤ gb646) : w0.heap.size ≤ gb646)); have n6_ := Aside0.mk ((by rw [hg]; exact Nat.ne_of_lt (IsS26.lt (show IsS26 w0 _ g s0_0 s0_1 from by repeat (first | (with_reducible first | exact HI0.out | apply IsS26.alloc | apply IsS26.drewN | apply IsS26.drew | apply IsS26.set_1) | exact HI0.out))) : g ≠ gb646)); have n7_ := Aside0.mk ((by rw [hg]; exact Nat.ne_of_gt (IsS26.lt (show IsS26 w0 _ g s0_0 s0_1 from by repeat (first | (with_reducible first | exact HI0.out | apply IsS26.alloc | apply IsS26.drewN | apply IsS26.drew | apply IsS26.set_1) | exact HI0.out))) : gb646 ≠ g)); clear HI0; clear HK; clear HB; have HI0 := n0_; have HK := n1_; have HB := n2_; have BK646 := n3_; have GW646 := n4_; have GE646 := n5_; have NB0_646 := n6_; have NB646_0 := n7_; clear n0_ n1_ n2_ n3_ n4_ n5_ n6_ n7_; clear hb hbox hg) | ((with_reducible refine gate_callee (f := 20) rfl ?_); refine goesL_ (some 5) rfl rfl Try.func20 (by kernel_rfl) rfl #[.pointer (some ⟨g, 0, none⟩), .int .i64 3] rfl (by (try simp only [List.map_toArray, List.map_cons, List.map_nil]); first | done | rfl | (simp only [List.length_drop, List.length_take]; rfl)) ?_; (with_reducible refine (stockyardmake_Tape_Next.calls g s0_0 s0_1 3 t647 t648 w0 _ ?side1 ?side2 A2.out).mono ?_); (case side1 => repeat (first | (with_reducible first | exact HI0.out | apply IsS26.alloc | apply IsS26.drewN | apply IsS26.drew | apply IsS26.set_1 | refine IsS26.far ?_ NB0_646.out _) | exact HI0.out)); (case side2 => repeat (first | (with_reducible first | exact HB.out | apply below_alloc | apply pw_below_drewN | apply below_drew1 | refine below_set ?_ (IsS26.ge HI0.out) | refine below_set ?_ GE646.out) | exact HB.out)); rintro e w9 ⟨rfl, hi, hb, hk⟩; refine ⟨_, rfl, ?_⟩; have n0_ := Aside0.mk (KeepBut.blk hk (g' := gb646) (o := .cells #[.int .i64 0, .int .i64 0, .int .i64 0, .int .u64 0] 83 (0, 0)) (by (with_reducible repeat (first | refine blk_drewN ?_ _ | refine blk_drew ?_ | refine blk_alloc ?_ _)); exact BK646.out) NB646_0.out (by simp)); have n1_ := Aside0.mk (KeepBut.trans (by repeat (first | (with_reducible first | exact HK.out | apply KeepBut.set_ | apply keep_drewN | apply keep_drew | apply keep_alloc | refine keep_far ?_ GW646.out _) | exact HK.out)) hk (.inl rfl)); have n2_ := Aside0.mk (hb); have n3_ := Aside0.mk (hi); clear BK646; clear HK; clear HB; clear HI0; have BK646 := n0_; have HK := n1_; have HB := n2_; have HI0 := n3_; clear n0_ n1_ n2_ n3_; (try clear hb); (try clear hb2); (try clear hk); (try clear hi)) | ((with_reducible refine gate_dst (N := 3) rfl ?_); refine box_event ?hg (N := 3) ?hd (cs := #[.int .i64 0, .int .i64 0, .int .i64 0, .int .u64 0]) (t := 83) ?hr ?_; (case hd => rfl); (case hg => rfl); (case hr => first | (go_simp; done) | (go_simp; rfl)); intro gb649 hg w10 hbox hb; have n0_ := Aside0.mk (IsS26.below (by repeat (first | (with_reducible first | exact HI0.out | apply IsS26.alloc | apply IsS26.drewN | apply IsS26.drew | apply IsS26.set_1 | refine IsS26.far ?_ NB0_646.out _) | exact HI0.out)) hb); have n1_ := Aside0.mk (blk_below (g := gb646) (o := .cells #[.int .i64 0, .int .i64 0, .int .i64 0, .int .u64 0] 83 (0, 0)) (by (with_reducible repeat (first | refine blk_drewN ?_ _ | refine blk_drew ?_ | refine blk_alloc ?_ _)); exact BK646.out) hb); have n2_ := Aside0.mk (KeepBut.trans (by repeat (first | (with_reducible first | exact HK.out | apply KeepBut.set_ | apply keep_drewN | apply keep_drew | apply keep_alloc | refine keep_far ?_ GW646.out _) | exact HK.out)) (KeepBut.of_below hb g none) (.inl rfl)); have n3_ := Aside0.mk (below_step (by repeat (first | (with_reducible first | exact HB.out | apply below_alloc | apply pw_below_drewN | apply below_drew1 | refine below_set ?_ (IsS26.ge HI0.out) | refine below_set ?_ GE646.out) | exact HB.out)) hb); have n4_ := Aside0.mk (hbox); have n5_ := Aside0.mk ((by rw [hg]; exact (keep_size (w := w) (g := g) (row := none) (by repeat (first | (with_reducible first | exact HK.out | apply KeepBut.set_ | apply keep_drewN | apply keep_drew | apply keep_alloc | refine keep_far ?_ GW646.out _) | exact HK.out))) : w.heap.size ≤ gb649)); have n6_ := Aside0.mk ((Nat.le_trans HW0.out (by rw [hg]; exact (keep_size (w := w) (g := g) (row := none) (by repeat (first | (with_reducible first | exact HK.out | apply KeepBut.set_ | apply keep_drewN | apply keep_drew | apply keep_alloc | refine keep_far ?_ GW646.out _) | exact HK.out))) : w.heap.size ≤ gb649) : w0.heap.size ≤ gb649)); have n7_ := Aside0.mk ((by rw [hg]; exact Nat.ne_of_lt (blk_lt (g := gb646) (o := .cells #[.int .i64 0, .int .i64 0, .int .i64 0, .int .u64 0] 83 (0, 0)) (by (with_reducible repeat (first | refine blk_drewN ?_ _ | refine blk_drew ?_ | refine blk_alloc ?_ _)); exact BK646.out)) : gb646 ≠ gb649)); have n8_ := Aside0.mk ((by rw [hg]; exact Nat.ne_of_gt (blk_lt (g := gb646) (o := .cells #[.int .i64 0, .int .i64 0, .int .i64 0, .int .u64 0] 83 (0, 0)) (by (with_reducible repeat (first | refine blk_drewN ?_ _ | refine blk_drew ?_ | refine blk_alloc ?_ _)); exact BK646.out)) : gb649 ≠ gb646)); have n9_ := Aside0.mk ((by rw [hg]; exact Nat.ne_of_lt (IsS26.lt (show IsS26 w0 _ g s0_0 t648 from by repeat (first | (with_reducible first | exact HI0.out | apply IsS26.alloc | apply IsS26.drewN | apply IsS26.drew | apply IsS26.set_1 | refine IsS26.far ?_ NB0_646.out _) | exact HI0.out))) : g ≠ gb649)); have n10_ := Aside0.mk ((by rw [hg]; exact Nat.ne_of_gt (IsS26.lt (show IsS26 w0 _ g s0_0 t648 from by repeat (first | (with_reducible first | exact HI0.out | apply IsS26.alloc | apply IsS26.drewN | apply IsS26.drew | apply IsS26.set_1 | refine IsS26.far ?_ NB0_646.out _) | exact HI0.out))) : gb649 ≠ g)); clear HI0; clear BK646; clear HK; clear HB; have HI0 := n0_; have BK646 := n1_; have HK := n2_; have HB := n3_; have BK649 := n4_; have GW649 := n5_; have GE649 := n6_; have NB646_649 := n7_; have NB649_646 := n8_; have NB0_649 := n9_; have NB649_0 := n10_; clear n0_ n1_ n2_ n3_ n4_ n5_ n6_ n7_ n8_ n9_ n10_; clear hb hbox hg; have hnb11 := NB649_646.out; have hnc11 := NB646_649.out; have hnb12 := NB649_0.out; have hnc12 := NB0_649.out; have hcz13_0 : w10.cell? ⟨gb649, 0, none⟩ = some (.int .i64 0) := (blk_cell BK649.out 0).trans rfl; have hcz13_1 : w10.cell? ⟨gb649, 1, none⟩ = some (.int .i64 0) := (blk_cell BK649.out 1).trans rfl; have hcz13_2 : w10.cell? ⟨gb649, 2, none⟩ = some (.int .i64 0) := (blk_cell BK649.out 2).trans rfl; have hcz13_3 : w10.cell? ⟨gb649, 3, none⟩ = some (.int .u64 0) := (blk_cell BK649.out 3).trans rfl; have hfz13_0 := blk_frozen BK649.out 0; have hfz13_1 := blk_frozen BK649.out 1; have hfz13_2 := blk_frozen BK649.out 2; have hfz13_3 := blk_frozen BK649.out 3))
    have n0_ : Aside0 (((((w10.setCell ⟨gb649, 0, none⟩ (.int .i64 0)).setCell ⟨gb649, 1, none⟩ (.int .i64 0)).setCell ⟨gb649, 2, none⟩ (.int .i64 (wrap64 (1 + t647)))).setCell ⟨gb649, 3, none⟩ (.int .u64 0)).heap[gb646]? = some (.cells #[.int .i64 0, .int .i64 0, .int .i64 0, .int .u64 0] 83 (0, 0))) := ⟨by (with_reducible repeat (first | refine blk_drewN ?_ _ | refine blk_drew ?_ | refine blk_alloc ?_ _)); refine blk_far ?_ NB646_649.out _; (with_reducible repeat (first | refine blk_drewN ?_ _ | refine blk_drew ?_ | refine blk_alloc ?_ _)); refine blk_far ?_ NB646_649.out _; (with_reducible repeat (first | refine blk_drewN ?_ _ | refine blk_drew ?_ | refine blk_alloc ?_ _)); refine blk_far ?_ NB646_649.out _; (with_reducible repeat (first | refine blk_drewN ?_ _ | refine blk_drew ?_ | refine blk_alloc ?_ _)); refine blk_far ?_ NB646_649.out _; (with_reducible repeat (first | refine blk_drewN ?_ _ | refine blk_drew ?_ | refine blk_alloc ?_ _)); exact BK646.out⟩
    have n1_ : Aside0 (((((w10.setCell ⟨gb649, 0, none⟩ (.int .i64 0)).setCell ⟨gb649, 1, none⟩ (.int .i64 0)).setCell ⟨gb649, 2, none⟩ (.int .i64 (wrap64 (1 + t647)))).setCell ⟨gb649, 3, none⟩ (.int .u64 0)).heap[gb649]? = some (.cells #[.int .i64 0, .int .i64 0, .int .i64 (wrap64 (1 + t647)), .int .u64 0] 83 (0, 0))) := ⟨by (with_reducible repeat (first | refine blk_drewN ?_ _ | refine blk_drew ?_ | refine blk_alloc ?_ _)); refine blk_put (cs := #[.int .i64 0, .int .i64 0, .int .i64 (wrap64 (1 + t647)), .int .u64 0]) ?_ 3 _ rfl; (with_reducible repeat (first | refine blk_drewN ?_ _ | refine blk_drew ?_ | refine blk_alloc ?_ _)); refine blk_put (cs := #[.int .i64 0, .int .i64 0, .int .i64 0, .int .u64 0]) ?_ 2 _ rfl; (with_reducible repeat (first | refine blk_drewN ?_ _ | refine blk_drew ?_ | refine blk_alloc ?_ _)); refine blk_put (cs := #[.int .i64 0, .int .i64 0, .int .i64 0, .int .u64 0]) ?_ 1 _ rfl; (with_reducible repeat (first | refine blk_drewN ?_ _ | refine blk_drew ?_ | refine blk_alloc ?_ _)); refine blk_put (cs := #[.int .i64 0, .int .i64 0, .int .i64 0, .int .u64 0]) ?_ 0 _ rfl; (with_reducible repeat (first | refine blk_drewN ?_ _ | refine blk_drew ?_ | refine blk_alloc ?_ _)); exact BK649.out⟩
    have n2_ : Aside0 (IsS26 w0 ((((w10.setCell ⟨gb649, 0, none⟩ (.int .i64 0)).setCell ⟨gb649, 1, none⟩ (.int .i64 0)).setCell ⟨gb649, 2, none⟩ (.int .i64 (wrap64 (1 + t647)))).setCell ⟨gb649, 3, none⟩ (.int .u64 0)) g s0_0 t648) := ⟨by repeat (first | (with_reducible first | exact HI0.out | apply IsS26.alloc | apply IsS26.drewN | apply IsS26.drew | apply IsS26.set_1 | refine IsS26.far ?_ NB0_646.out _ | refine IsS26.far ?_ NB0_649.out _) | exact HI0.out)⟩
    have n3_ : Aside0 (KeepBut w ((((w10.setCell ⟨gb649, 0, none⟩ (.int .i64 0)).setCell ⟨gb649, 1, none⟩ (.int .i64 0)).setCell ⟨gb649, 2, none⟩ (.int .i64 (wrap64 (1 + t647)))).setCell ⟨gb649, 3, none⟩ (.int .u64 0)) g none) := ⟨by repeat (first | (with_reducible first | exact HK.out | apply KeepBut.set_ | apply keep_drewN | apply keep_drew | apply keep_alloc | refine keep_far ?_ GW646.out _ | refine keep_far ?_ GW649.out _) | exact HK.out)⟩
    have n4_ : Aside0 (Below w0.heap.size w0 ((((w10.setCell ⟨gb649, 0, none⟩ (.int .i64 0)).setCell ⟨gb649, 1, none⟩ (.int .i64 0)).setCell ⟨gb649, 2, none⟩ (.int .i64 (wrap64 (1 + t647)))).setCell ⟨gb649, 3, none⟩ (.int .u64 0))) := ⟨by repeat (first | (with_reducible first | exact HB.out | apply below_alloc | apply pw_below_drewN | apply below_drew1 | refine below_set ?_ (IsS26.ge HI0.out) | refine below_set ?_ GE646.out | refine below_set ?_ GE649.out) | exact HB.out)⟩
    (try clear BK646)
    (try clear BK649)
    (try clear HI0)
    (try clear HK)
    (try clear HB)
    generalize ((((w10.setCell ⟨gb649, 0, none⟩ (.int .i64 0)).setCell ⟨gb649, 1, none⟩ (.int .i64 0)).setCell ⟨gb649, 2, none⟩ (.int .i64 (wrap64 (1 + t647)))).setCell ⟨gb649, 3, none⟩ (.int .u64 0)) = w14 at n0_ n1_ n2_ n3_ n4_ ⊢
    have BK646 := n0_
    have BK649 := n1_
    have HI0 := n2_
    have HK := n3_
    have HB := n4_
    clear n0_ n1_ n2_ n3_ n4_
    have n0_ := Aside0.mk (blk_drew BK646.out)
    have n1_ := Aside0.mk (blk_drew BK649.out)
    have n2_ := Aside0.mk (IsS26.drew HI0.out)
    have n3_ := Aside0.mk (keep_drew HK.out)
    have n4_ := Aside0.mk (below_drew1 HB.out)
    clear BK646
    clear BK649
    clear HI0
    clear HK
    clear HB
    have BK646 := n0_
    have BK649 := n1_
    have HI0 := n2_
    have HK := n3_
    have HB := n4_
    clear n0_ n1_ n2_ n3_ n4_
    refine start_ (n := 7) (S := fun w' => w'.cell? ⟨gb649, 0, none⟩ = some (.int .i64 0) ∧ w'.cell? ⟨gb649, 1, none⟩ = some (.int .i64 0) ∧ w'.cell? ⟨gb649, 2, none⟩ = some (.int .i64 (wrap64 (1 + t647))) ∧ w'.cell? ⟨gb649, 3, none⟩ = some (.int .u64 0)) (ds := [6]) #[false, false, false, false, false, false, false] (by kernel_rfl) rfl rfl ⟨(blk_cell BK649.out 0).trans rfl, (blk_cell BK649.out 1).trans rfl, (blk_cell BK649.out 2).trans rfl, (blk_cell BK649.out 3).trans rfl⟩ (fun hHeld => ?_)
    generalize w14.drew = w15 at BK646 BK649 HI0 HK HB hHeld ⊢
    refine pure_ (i := 0) (N := some 8) (v := ?_) (a' := ?_) #[true, false, false, false, false, false, false] rfl rfl (by kernel_rfl) (fun _ _ _ h => h) (Or.inl ⟨by rfl, ?_⟩) ?_ ?_
    rotate_left
    · intro w'
      go_simp
      with_reducible rfl
    rotate_left
    · simp only [Act.put, List.setIfInBounds_toArray, List.set_cons_zero, List.set_cons_succ, i64_w, i32_w]
      rfl
    refine pure_ (i := 2) (N := some 10) (v := ?_) (a' := ?_) #[true, false, true, false, false, false, false] rfl rfl (by kernel_rfl) (fun _ _ _ h => h) (Or.inl ⟨by rfl, ?_⟩) ?_ ?_
    rotate_left
    · intro w'
      go_simp
      with_reducible rfl
    rotate_left
    · simp only [Act.put, List.setIfInBounds_toArray, List.set_cons_zero, List.set_cons_succ, i64_w, i32_w]
      rfl
    refine take_ (i := 1) (N := some 9) (v := ?_) (a' := ?_) #[true, true, true, false, false, false, false] rfl rfl (by kernel_rfl) (fun _ _ _ h => h) (Or.inl ⟨by rfl, ?_⟩) hHeld ?_ ?_
    rotate_left
    · rintro w' ⟨s0, s1, s2, s3⟩
      go_simp
      with_reducible rfl
    rotate_left
    · simp only [Act.put, List.setIfInBounds_toArray, List.set_cons_zero, List.set_cons_succ, i64_w, i32_w]
      rfl
    refine one_ (i := 3) (N := some 11) #[true, true, true, true, false, false, false] rfl rfl (by kernel_rfl) (by decide) (fun K hK => ?_)
    refine goes_ Try.func20 (by kernel_rfl) rfl #[.pointer (some ⟨g, 0, none⟩), .int .i64 3] (by rfl) rfl rfl (by (try simp only [List.map_toArray, List.map_cons, List.map_nil]); first | done | rfl | (simp only [List.length_drop, List.length_take]; rfl)) ?_
    with_reducible refine (stockyardmake_Tape_Next.calls g s0_0 t648 3 t650 t651 w0 _ ?side1 ?side2 A3.out).mono ?_
    (case side1 => repeat (first | (with_reducible first | exact HI0.out | apply IsS26.alloc | apply IsS26.drewN | apply IsS26.drew | apply IsS26.set_1 | refine IsS26.far ?_ NB0_646.out _ | refine IsS26.far ?_ NB0_649.out _) | exact HI0.out))
    (case side2 => repeat (first | (with_reducible first | exact HB.out | apply below_alloc | apply pw_below_drewN | apply below_drew1 | refine below_set ?_ (IsS26.ge HI0.out) | refine below_set ?_ GE646.out | refine below_set ?_ GE649.out) | exact HB.out))
    rintro e w16 ⟨rfl, hi, hb, hk⟩
    refine ⟨_, rfl, ?_⟩
    have n0_ := Aside0.mk (KeepBut.blk hk (g' := gb646) (o := .cells #[.int .i64 0, .int .i64 0, .int .i64 0, .int .u64 0] 83 (0, 0)) (by (with_reducible repeat (first | refine blk_drewN ?_ _ | refine blk_drew ?_ | refine blk_alloc ?_ _)); exact BK646.out) NB646_0.out (by simp))
    have n1_ := Aside0.mk (KeepBut.blk hk (g' := gb649) (o := .cells #[.int .i64 0, .int .i64 0, .int .i64 (wrap64 (1 + t647)), .int .u64 0] 83 (0, 0)) (by (with_reducible repeat (first | refine blk_drewN ?_ _ | refine blk_drew ?_ | refine blk_alloc ?_ _)); exact BK649.out) NB649_0.out (by simp))
    have n2_ := Aside0.mk (KeepBut.trans (by repeat (first | (with_reducible first | exact HK.out | apply KeepBut.set_ | apply keep_drewN | apply keep_drew | apply keep_alloc | refine keep_far ?_ GW646.out _ | refine keep_far ?_ GW649.out _) | exact HK.out)) hk (.inl rfl))
    have n3_ := Aside0.mk (hb)
    have n4_ := Aside0.mk (hi)
    clear BK646
    clear BK649
    clear HK
    clear HB
    clear HI0
    have BK646 := n0_
    have BK649 := n1_
    have HK := n2_
    have HB := n3_
    have HI0 := n4_
    clear n0_ n1_ n2_ n3_ n4_
    (try clear hb)
    (try clear hb2)
    (try clear hk)
    (try clear hi)
    refine hK.out _ _ ⟨(blk_cell BK649.out 0).trans rfl, (blk_cell BK649.out 1).trans rfl, (blk_cell BK649.out 2).trans rfl, (blk_cell BK649.out 3).trans rfl⟩ (fun hHeld => ?_)
    clear hK K
    refine norm_ (a' := ?_) ?_ ?_
    rotate_left
    · show Act.put _ (some 11) _ = _
      simp only [Act.put, List.setIfInBounds_toArray, List.set_cons_zero, List.set_cons_succ, i64_w, i32_w]
      rfl
    refine pure_ (i := 4) (N := some 12) (v := ?_) (a' := ?_) #[true, true, true, true, true, false, false] rfl rfl (by kernel_rfl) (fun _ _ _ h => h) (Or.inl ⟨by rfl, ?_⟩) ?_ ?_
    rotate_left
    · intro w'
      go_simp
      with_reducible rfl
    rotate_left
    · simp only [Act.put, List.setIfInBounds_toArray, List.set_cons_zero, List.set_cons_succ, i64_w, i32_w]
      rfl
    refine pure_ (i := 5) (N := some 13) (v := ?_) (a' := ?_) #[true, true, true, true, true, true, false] rfl rfl (by kernel_rfl) (fun _ _ _ h => h) (Or.inl ⟨by rfl, ?_⟩) ?_ ?_
    rotate_left
    · intro w'
      go_simp
      with_reducible rfl
    rotate_left
    · simp only [Act.put, List.setIfInBounds_toArray, List.set_cons_zero, List.set_cons_succ, i64_w, i32_w]
      rfl
    refine last_ (i := 6) (N := none) #[true, true, true, true, true, true, true] rfl rfl (by kernel_rfl) (by decide) (fun K hK => ?_)
    have hs17 : w16.cell? ⟨gb649, 0, none⟩ = some (.int .i64 0) := (blk_cell BK649.out 0).trans rfl
    have hfs17 := blk_frozen BK649.out 0
    have hns17_0 := NB646_649.out
    have hms17_0 := NB649_646.out
    refine skip_ (w1 := ?_) (by rfl) rfl ?_ ?_
    rotate_left
    · go_simp
      rfl
    refine hK.out _ _ ?_
    clear hK K
    refine done_ (by kernel_rfl) ?_
    try go_wp2
    have n0_ : Aside0 ((w16.setCell ⟨gb649, 0, none⟩ (.int .i64 (wrap64 ((wrap64 (1 + t647)) + t650)))).heap[gb646]? = some (.cells #[.int .i64 0, .int .i64 0, .int .i64 0, .int .u64 0] 83 (0, 0))) := ⟨by (with_reducible repeat (first | refine blk_drewN ?_ _ | refine blk_drew ?_ | refine blk_alloc ?_ _)); refine blk_far ?_ NB646_649.out _; (with_reducible repeat (first | refine blk_drewN ?_ _ | refine blk_drew ?_ | refine blk_alloc ?_ _)); exact BK646.out⟩
    have n1_ : Aside0 ((w16.setCell ⟨gb649, 0, none⟩ (.int .i64 (wrap64 ((wrap64 (1 + t647)) + t650)))).heap[gb649]? = some (.cells #[.int .i64 (wrap64 ((wrap64 (1 + t647)) + t650)), .int .i64 0, .int .i64 (wrap64 (1 + t647)), .int .u64 0] 83 (0, 0))) := ⟨by (with_reducible repeat (first | refine blk_drewN ?_ _ | refine blk_drew ?_ | refine blk_alloc ?_ _)); refine blk_put (cs := #[.int .i64 0, .int .i64 0, .int .i64 (wrap64 (1 + t647)), .int .u64 0]) ?_ 0 _ rfl; (with_reducible repeat (first | refine blk_drewN ?_ _ | refine blk_drew ?_ | refine blk_alloc ?_ _)); exact BK649.out⟩
    have n2_ : Aside0 (IsS26 w0 (w16.setCell ⟨gb649, 0, none⟩ (.int .i64 (wrap64 ((wrap64 (1 + t647)) + t650)))) g s0_0 t651) := ⟨by repeat (first | (with_reducible first | exact HI0.out | apply IsS26.alloc | apply IsS26.drewN | apply IsS26.drew | apply IsS26.set_1 | refine IsS26.far ?_ NB0_646.out _ | refine IsS26.far ?_ NB0_649.out _) | exact HI0.out)⟩
    have n3_ : Aside0 (KeepBut w (w16.setCell ⟨gb649, 0, none⟩ (.int .i64 (wrap64 ((wrap64 (1 + t647)) + t650)))) g none) := ⟨by repeat (first | (with_reducible first | exact HK.out | apply KeepBut.set_ | apply keep_drewN | apply keep_drew | apply keep_alloc | refine keep_far ?_ GW646.out _ | refine keep_far ?_ GW649.out _) | exact HK.out)⟩
    have n4_ : Aside0 (Below w0.heap.size w0 (w16.setCell ⟨gb649, 0, none⟩ (.int .i64 (wrap64 ((wrap64 (1 + t647)) + t650))))) := ⟨by repeat (first | (with_reducible first | exact HB.out | apply below_alloc | apply pw_below_drewN | apply below_drew1 | refine below_set ?_ (IsS26.ge HI0.out) | refine below_set ?_ GE646.out | refine below_set ?_ GE649.out) | exact HB.out)⟩
    (try clear BK646)
    (try clear BK649)
    (try clear HI0)
    (try clear HK)
    (try clear HB)
    generalize (w16.setCell ⟨gb649, 0, none⟩ (.int .i64 (wrap64 ((wrap64 (1 + t647)) + t650)))) = w18 at n0_ n1_ n2_ n3_ n4_ ⊢
    have BK646 := n0_
    have BK649 := n1_
    have HI0 := n2_
    have HK := n3_
    have HB := n4_
    clear n0_ n1_ n2_ n3_ n4_
    have n0_ := Aside0.mk (blk_drew BK646.out)
    have n1_ := Aside0.mk (blk_drew BK649.out)
    have n2_ := Aside0.mk (IsS26.drew HI0.out)
    have n3_ := Aside0.mk (keep_drew HK.out)
    have n4_ := Aside0.mk (below_drew1 HB.out)
    clear BK646
    clear BK649
    clear HI0
    clear HK
    clear HB
    have BK646 := n0_
    have BK649 := n1_
    have HI0 := n2_
    have HK := n3_
    have HB := n4_
    clear n0_ n1_ n2_ n3_ n4_
    refine start_ (n := 7) (S := fun w' => w'.cell? ⟨gb649, 0, none⟩ = some (.int .i64 (wrap64 ((wrap64 (1 + t647)) + t650))) ∧ w'.cell? ⟨gb649, 1, none⟩ = some (.int .i64 0) ∧ w'.cell? ⟨gb649, 2, none⟩ = some (.int .i64 (wrap64 (1 + t647))) ∧ w'.cell? ⟨gb649, 3, none⟩ = some (.int .u64 0)) (ds := [6]) #[false, false, false, false, false, false, false] (by kernel_rfl) rfl rfl ⟨(blk_cell BK649.out 0).trans rfl, (blk_cell BK649.out 1).trans rfl, (blk_cell BK649.out 2).trans rfl, (blk_cell BK649.out 3).trans rfl⟩ (fun hHeld => ?_)
    generalize w18.drew = w19 at BK646 BK649 HI0 HK HB hHeld ⊢
    refine pure_ (i := 0) (N := some 14) (v := ?_) (a' := ?_) #[true, false, false, false, false, false, false] rfl rfl (by kernel_rfl) (fun _ _ _ h => h) (Or.inl ⟨by rfl, ?_⟩) ?_ ?_
    rotate_left
    · intro w'
      go_simp
      with_reducible rfl
    rotate_left
    · simp only [Act.put, List.setIfInBounds_toArray, List.set_cons_zero, List.set_cons_succ, i64_w, i32_w]
      rfl
    refine pure_ (i := 2) (N := some 16) (v := ?_) (a' := ?_) #[true, false, true, false, false, false, false] rfl rfl (by kernel_rfl) (fun _ _ _ h => h) (Or.inl ⟨by rfl, ?_⟩) ?_ ?_
    rotate_left
    · intro w'
      go_simp
      with_reducible rfl
    rotate_left
    · simp only [Act.put, List.setIfInBounds_toArray, List.set_cons_zero, List.set_cons_succ, i64_w, i32_w]
      rfl
    refine take_ (i := 1) (N := some 15) (v := ?_) (a' := ?_) #[true, true, true, false, false, false, false] rfl rfl (by kernel_rfl) (fun _ _ _ h => h) (Or.inl ⟨by rfl, ?_⟩) hHeld ?_ ?_
    rotate_left
    · rintro w' ⟨s0, s1, s2, s3⟩
      go_simp
      with_reducible rfl
    rotate_left
    · simp only [Act.put, List.setIfInBounds_toArray, List.set_cons_zero, List.set_cons_succ, i64_w, i32_w]
      rfl
    refine one_ (i := 3) (N := some 17) #[true, true, true, true, false, false, false] rfl rfl (by kernel_rfl) (by decide) (fun K hK => ?_)
    refine goes_ Try.func20 (by kernel_rfl) rfl #[.pointer (some ⟨g, 0, none⟩), .int .i64 9] (by rfl) rfl rfl (by (try simp only [List.map_toArray, List.map_cons, List.map_nil]); first | done | rfl | (simp only [List.length_drop, List.length_take]; rfl)) ?_
    with_reducible refine (stockyardmake_Tape_Next.calls g s0_0 t651 9 t652 t653 w0 _ ?side1 ?side2 A4.out).mono ?_
    (case side1 => repeat (first | (with_reducible first | exact HI0.out | apply IsS26.alloc | apply IsS26.drewN | apply IsS26.drew | apply IsS26.set_1 | refine IsS26.far ?_ NB0_646.out _ | refine IsS26.far ?_ NB0_649.out _) | exact HI0.out))
    (case side2 => repeat (first | (with_reducible first | exact HB.out | apply below_alloc | apply pw_below_drewN | apply below_drew1 | refine below_set ?_ (IsS26.ge HI0.out) | refine below_set ?_ GE646.out | refine below_set ?_ GE649.out) | exact HB.out))
    rintro e w20 ⟨rfl, hi, hb, hk⟩
    refine ⟨_, rfl, ?_⟩
    have n0_ := Aside0.mk (KeepBut.blk hk (g' := gb646) (o := .cells #[.int .i64 0, .int .i64 0, .int .i64 0, .int .u64 0] 83 (0, 0)) (by (with_reducible repeat (first | refine blk_drewN ?_ _ | refine blk_drew ?_ | refine blk_alloc ?_ _)); exact BK646.out) NB646_0.out (by simp))
    have n1_ := Aside0.mk (KeepBut.blk hk (g' := gb649) (o := .cells #[.int .i64 (wrap64 ((wrap64 (1 + t647)) + t650)), .int .i64 0, .int .i64 (wrap64 (1 + t647)), .int .u64 0] 83 (0, 0)) (by (with_reducible repeat (first | refine blk_drewN ?_ _ | refine blk_drew ?_ | refine blk_alloc ?_ _)); exact BK649.out) NB649_0.out (by simp))
    have n2_ := Aside0.mk (KeepBut.trans (by repeat (first | (with_reducible first | exact HK.out | apply KeepBut.set_ | apply keep_drewN | apply keep_drew | apply keep_alloc | refine keep_far ?_ GW646.out _ | refine keep_far ?_ GW649.out _) | exact HK.out)) hk (.inl rfl))
    have n3_ := Aside0.mk (hb)
    have n4_ := Aside0.mk (hi)
    clear BK646
    clear BK649
    clear HK
    clear HB
    clear HI0
    have BK646 := n0_
    have BK649 := n1_
    have HK := n2_
    have HB := n3_
    have HI0 := n4_
    clear n0_ n1_ n2_ n3_ n4_
    (try clear hb)
    (try clear hb2)
    (try clear hk)
    (try clear hi)
    refine hK.out _ _ ⟨(blk_cell BK649.out 0).trans rfl, (blk_cell BK649.out 1).trans rfl, (blk_cell BK649.out 2).trans rfl, (blk_cell BK649.out 3).trans rfl⟩ (fun hHeld => ?_)
    clear hK K
    refine norm_ (a' := ?_) ?_ ?_
    rotate_left
    · show Act.put _ (some 17) _ = _
      simp only [Act.put, List.setIfInBounds_toArray, List.set_cons_zero, List.set_cons_succ, i64_w, i32_w]
      rfl
    refine pure_ (i := 4) (N := some 18) (v := ?_) (a' := ?_) #[true, true, true, true, true, false, false] rfl rfl (by kernel_rfl) (fun _ _ _ h => h) (Or.inl ⟨by rfl, ?_⟩) ?_ ?_
    rotate_left
    · intro w'
      go_simp
      with_reducible rfl
    rotate_left
    · simp only [Act.put, List.setIfInBounds_toArray, List.set_cons_zero, List.set_cons_succ, i64_w, i32_w]
      rfl
    refine pure_ (i := 5) (N := some 19) (v := ?_) (a' := ?_) #[true, true, true, true, true, true, false] rfl rfl (by kernel_rfl) (fun _ _ _ h => h) (Or.inl ⟨by rfl, ?_⟩) ?_ ?_
    rotate_left
    · intro w'
      go_simp
      with_reducible rfl
    rotate_left
    · simp only [Act.put, List.setIfInBounds_toArray, List.set_cons_zero, List.set_cons_succ, i64_w, i32_w]
      rfl
    refine last_ (i := 6) (N := none) #[true, true, true, true, true, true, true] rfl rfl (by kernel_rfl) (by decide) (fun K hK => ?_)
    have hs21 : w20.cell? ⟨gb649, 1, none⟩ = some (.int .i64 0) := (blk_cell BK649.out 1).trans rfl
    have hfs21 := blk_frozen BK649.out 1
    have hns21_0 := NB646_649.out
    have hms21_0 := NB649_646.out
    refine skip_ (w1 := ?_) (by rfl) rfl ?_ ?_
    rotate_left
    · go_simp
      rfl
    refine hK.out _ _ ?_
    clear hK K
    refine done_ (by kernel_rfl) ?_
    try go_wp2_with (first | ((with_reducible refine gate_callee (f := 20) rfl ?_); refine goesL_ (some 21) rfl rfl Try.func20 (by kernel_rfl) rfl #[.pointer (some ⟨g, 0, none⟩), .int .i64 4] rfl (by (try simp only [List.map_toArray, List.map_cons, List.map_nil]); first | done | rfl | (simp only [List.length_drop, List.length_take]; rfl)) ?_; (with_reducible refine (stockyardmake_Tape_Next.calls g s0_0 t653 4 t654 t655 w0 _ ?side1 ?side2 A5.out).mono ?_); (case side1 => repeat (first | (with_reducible first | exact HI0.out | apply IsS26.alloc | apply IsS26.drewN | apply IsS26.drew | apply IsS26.set_1 | refine IsS26.far ?_ NB0_646.out _ | refine IsS26.far ?_ NB0_649.out _) | exact HI0.out)); (case side2 => repeat (first | (with_reducible first | exact HB.out | apply below_alloc | apply pw_below_drewN | apply below_drew1 | refine below_set ?_ (IsS26.ge HI0.out) | refine below_set ?_ GE646.out | refine below_set ?_ GE649.out) | exact HB.out)); rintro e w22 ⟨rfl, hi, hb, hk⟩; refine ⟨_, rfl, ?_⟩; have n0_ := Aside0.mk (KeepBut.blk hk (g' := gb646) (o := .cells #[.int .i64 0, .int .i64 0, .int .i64 0, .int .u64 0] 83 (0, 0)) (by (with_reducible repeat (first | refine blk_drewN ?_ _ | refine blk_drew ?_ | refine blk_alloc ?_ _)); refine blk_far ?_ NB646_649.out _; (with_reducible repeat (first | refine blk_drewN ?_ _ | refine blk_drew ?_ | refine blk_alloc ?_ _)); exact BK646.out) NB646_0.out (by simp)); have n1_ := Aside0.mk (KeepBut.blk hk (g' := gb649) (o := .cells #[.int .i64 (wrap64 ((wrap64 (1 + t647)) + t650)), .int .i64 (wrap64 ((wrap64 ((wrap64 (1 + t647)) + t650)) + t652)), .int .i64 (wrap64 (1 + t647)), .int .u64 0] 83 (0, 0)) (by (with_reducible repeat (first | refine blk_drewN ?_ _ | refine blk_drew ?_ | refine blk_alloc ?_ _)); refine blk_put (cs := #[.int .i64 (wrap64 ((wrap64 (1 + t647)) + t650)), .int .i64 0, .int .i64 (wrap64 (1 + t647)), .int .u64 0]) ?_ 1 _ rfl; (with_reducible repeat (first | refine blk_drewN ?_ _ | refine blk_drew ?_ | refine blk_alloc ?_ _)); exact BK649.out) NB649_0.out (by simp)); have n2_ := Aside0.mk (KeepBut.trans (by repeat (first | (with_reducible first | exact HK.out | apply KeepBut.set_ | apply keep_drewN | apply keep_drew | apply keep_alloc | refine keep_far ?_ GW646.out _ | refine keep_far ?_ GW649.out _) | exact HK.out)) hk (.inl rfl)); have n3_ := Aside0.mk (hb); have n4_ := Aside0.mk (hi); clear BK646; clear BK649; clear HK; clear HB; clear HI0; have BK646 := n0_; have BK649 := n1_; have HK := n2_; have HB := n3_; have HI0 := n4_; clear n0_ n1_ n2_ n3_ n4_; (try clear hb); (try clear hb2); (try clear hk); (try clear hi); have hcz23_0 : w22.cell? ⟨gb649, 0, none⟩ = some (.int .i64 (wrap64 ((wrap64 (1 + t647)) + t650))) := (blk_cell BK649.out 0).trans rfl; have hcz23_1 : w22.cell? ⟨gb649, 1, none⟩ = some (.int .i64 (wrap64 ((wrap64 ((wrap64 (1 + t647)) + t650)) + t652))) := (blk_cell BK649.out 1).trans rfl; have hcz23_2 : w22.cell? ⟨gb649, 2, none⟩ = some (.int .i64 (wrap64 (1 + t647))) := (blk_cell BK649.out 2).trans rfl; have hcz23_3 : w22.cell? ⟨gb649, 3, none⟩ = some (.int .u64 0) := (blk_cell BK649.out 3).trans rfl; have hfz23_0 := blk_frozen BK649.out 0; have hfz23_1 := blk_frozen BK649.out 1; have hfz23_2 := blk_frozen BK649.out 2; have hfz23_3 := blk_frozen BK649.out 3; have hnb24 := NB646_0.out; have hnc24 := NB0_646.out; have hcz25_0 : w22.cell? ⟨gb646, 0, none⟩ = some (.int .i64 0) := (blk_cell BK646.out 0).trans rfl; have hcz25_1 : w22.cell? ⟨gb646, 1, none⟩ = some (.int .i64 0) := (blk_cell BK646.out 1).trans rfl; have hcz25_2 : w22.cell? ⟨gb646, 2, none⟩ = some (.int .i64 0) := (blk_cell BK646.out 2).trans rfl; have hcz25_3 : w22.cell? ⟨gb646, 3, none⟩ = some (.int .u64 0) := (blk_cell BK646.out 3).trans rfl; have hfz25_0 := blk_frozen BK646.out 0; have hfz25_1 := blk_frozen BK646.out 1; have hfz25_2 := blk_frozen BK646.out 2; have hfz25_3 := blk_frozen BK646.out 3))
    refine bodyPost_ret (results_cell_row rfl _ _ gb646 83 #[.int .i64 (wrap64 ((wrap64 (1 + t647)) + t650)), .int .i64 (wrap64 ((wrap64 ((wrap64 (1 + t647)) + t650)) + t652)), .int .i64 (wrap64 (1 + t647)), .int .u64 (IntKind.u64.wrap ((ji7) - 1))] (0, 0) _ rfl (by (with_reducible repeat (first | refine blk_drewN ?_ _ | refine blk_drew ?_ | refine blk_alloc ?_ _)); refine blk_put (cs := #[.int .i64 (wrap64 ((wrap64 (1 + t647)) + t650)), .int .i64 (wrap64 ((wrap64 ((wrap64 (1 + t647)) + t650)) + t652)), .int .i64 (wrap64 (1 + t647)), .int .u64 0]) ?_ 3 _ rfl; (with_reducible repeat (first | refine blk_drewN ?_ _ | refine blk_drew ?_ | refine blk_alloc ?_ _)); refine blk_put (cs := #[.int .i64 (wrap64 ((wrap64 (1 + t647)) + t650)), .int .i64 (wrap64 ((wrap64 ((wrap64 (1 + t647)) + t650)) + t652)), .int .i64 0, .int .u64 0]) ?_ 2 _ rfl; (with_reducible repeat (first | refine blk_drewN ?_ _ | refine blk_drew ?_ | refine blk_alloc ?_ _)); refine blk_put (cs := #[.int .i64 (wrap64 ((wrap64 (1 + t647)) + t650)), .int .i64 0, .int .i64 0, .int .u64 0]) ?_ 1 _ rfl; (with_reducible repeat (first | refine blk_drewN ?_ _ | refine blk_drew ?_ | refine blk_alloc ?_ _)); refine blk_put (cs := #[.int .i64 0, .int .i64 0, .int .i64 0, .int .u64 0]) ?_ 0 _ rfl; (with_reducible repeat (first | refine blk_drewN ?_ _ | refine blk_drew ?_ | refine blk_alloc ?_ _)); refine blk_far ?_ NB646_649.out _; (with_reducible repeat (first | refine blk_drewN ?_ _ | refine blk_drew ?_ | refine blk_alloc ?_ _)); exact BK646.out) Try.underlying83 rfl (by kernel_rfl)) rfl ?_
    exact ⟨by first | rfl | (simp [errW_none, errW_some] <;> rfl) | (simp only [← hji7]; first | rfl | (simp [errW_none, errW_some] <;> rfl)) | (simp [*, errW_none, errW_some] <;> rfl), by repeat (first | (with_reducible first | exact HI0.out | apply IsS26.alloc | apply IsS26.drewN | apply IsS26.drew | apply IsS26.set_1 | refine IsS26.far ?_ NB0_646.out _ | refine IsS26.far ?_ NB0_649.out _) | exact HI0.out), by repeat (first | (with_reducible first | exact HB.out | apply below_alloc | apply pw_below_drewN | apply below_drew1 | refine below_set ?_ (IsS26.ge HI0.out) | refine below_set ?_ GE646.out | refine below_set ?_ GE649.out) | exact HB.out), by repeat (first | (with_reducible first | exact HK.out | apply KeepBut.set_ | apply keep_drewN | apply keep_drew | apply keep_alloc | refine keep_far ?_ GW646.out _ | refine keep_far ?_ GW649.out _) | exact HK.out)⟩
  · rw [if_neg c6] at H
    exact absurd H (by simp)

/-! ### chunker_Check: function 84 -/
def chunker_Check.f (a0_0 : Int) (a0_1 : Int) (a0_2 : Int) (a0_3 : Int) : Option (Int) := if a0_2 < 1 then (some 240) else (if a0_2 > 64 then (some 240) else (if a0_0 < a0_2 then (some 240) else (if a0_1 < a0_0 then (some 240) else (if a0_1 > 8192 then (some 240) else (some 0)))))
set_option maxHeartbeats 8000000 in
set_option maxRecDepth 100000 in
theorem chunker_Check.calls (a0_0 : Int) (a0_1 : Int) (a0_2 : Int) (a0_3 : Int) (r : Int) (w : World) (h : chunker_Check.f a0_0 a0_1 a0_2 a0_3 = some r) :
    Calls Try.prog 84 #[.agg #[.int .i64 a0_0, .int .i64 a0_1, .int .i64 a0_2, .int .u64 a0_3]] w fun e w' => e = .returned (.int .i64 r) ∧ Below w.heap.size w w' := by
  have hu83 := Try.underlying83
  have HB := Aside0.mk (Below.refl w.heap.size w)
  have H : (if a0_2 < 1 then (some 240) else (if a0_2 > 64 then (some 240) else (if a0_0 < a0_2 then (some 240) else (if a0_1 < a0_0 then (some 240) else (if a0_1 > 8192 then (some 240) else (some 0)))))) = some r := h
  clear h
  by_cases c2 : a0_2 < 1
  · rw [if_pos c2] at H
    have c2b0 : decide (a0_2 < 1) = true := decide_eq_true c2
    clear c2
    obtain rfl := Option.some.inj H
    go_enter Try.func84, Try.ntmps84
    go_wp2_with (first | ((with_reducible refine gate_dst (N := 1) rfl ?_); refine box_event ?hg (N := 1) ?hd (cs := #[.int .i64 a0_0, .int .i64 a0_1, .int .i64 a0_2, .int .u64 a0_3]) (t := 83) ?hr ?_; (case hd => rfl); (case hg => rfl); (case hr => first | (go_simp; done) | (go_simp; rfl)); intro gb656 hg w3 hbox hb; have n0_ := Aside0.mk (below_step (by repeat (first | (with_reducible first | exact HB.out | apply below_alloc | apply pw_below_drewN | apply below_drew1) | exact HB.out)) hb); have n1_ := Aside0.mk (hbox); have n2_ := Aside0.mk ((by rw [hg]; exact (below_size (by repeat (first | (with_reducible first | exact HB.out | apply below_alloc | apply pw_below_drewN | apply below_drew1) | exact HB.out))) : w.heap.size ≤ gb656)); have n3_ := Aside0.mk ((by rw [hg]; exact (below_size (by repeat (first | (with_reducible first | exact HB.out | apply below_alloc | apply pw_below_drewN | apply below_drew1) | exact HB.out))) : w.heap.size ≤ gb656)); clear HB; have HB := n0_; have BK656 := n1_; have GW656 := n2_; have GE656 := n3_; clear n0_ n1_ n2_ n3_; clear hb hbox hg; have hcz4_0 : w3.cell? ⟨gb656, 0, none⟩ = some (.int .i64 a0_0) := (blk_cell BK656.out 0).trans rfl; have hcz4_1 : w3.cell? ⟨gb656, 1, none⟩ = some (.int .i64 a0_1) := (blk_cell BK656.out 1).trans rfl; have hcz4_2 : w3.cell? ⟨gb656, 2, none⟩ = some (.int .i64 a0_2) := (blk_cell BK656.out 2).trans rfl; have hcz4_3 : w3.cell? ⟨gb656, 3, none⟩ = some (.int .u64 a0_3) := (blk_cell BK656.out 3).trans rfl; have hfz4_0 := blk_frozen BK656.out 0; have hfz4_1 := blk_frozen BK656.out 1; have hfz4_2 := blk_frozen BK656.out 2; have hfz4_3 := blk_frozen BK656.out 3))
    go_ret
    exact ⟨by first | rfl | (simp [errW_none, errW_some] <;> rfl) | (simp [*, errW_none, errW_some] <;> rfl), by repeat (first | (with_reducible first | exact HB.out | apply below_alloc | apply pw_below_drewN | apply below_drew1 | refine below_set ?_ GE656.out) | exact HB.out)⟩
  · rw [if_neg c2] at H
    have c2b0 : decide (a0_2 < 1) = false := decide_eq_false c2
    clear c2
    by_cases c5 : a0_2 > 64
    · rw [if_pos c5] at H
      have c5b0 : decide (64 < a0_2) = true := decide_eq_true c5
      clear c5
      obtain rfl := Option.some.inj H
      go_enter Try.func84, Try.ntmps84
      go_wp2_with (first | ((with_reducible refine gate_dst (N := 1) rfl ?_); refine box_event ?hg (N := 1) ?hd (cs := #[.int .i64 a0_0, .int .i64 a0_1, .int .i64 a0_2, .int .u64 a0_3]) (t := 83) ?hr ?_; (case hd => rfl); (case hg => rfl); (case hr => first | (go_simp; done) | (go_simp; rfl)); intro gb656 hg w6 hbox hb; have n0_ := Aside0.mk (below_step (by repeat (first | (with_reducible first | exact HB.out | apply below_alloc | apply pw_below_drewN | apply below_drew1) | exact HB.out)) hb); have n1_ := Aside0.mk (hbox); have n2_ := Aside0.mk ((by rw [hg]; exact (below_size (by repeat (first | (with_reducible first | exact HB.out | apply below_alloc | apply pw_below_drewN | apply below_drew1) | exact HB.out))) : w.heap.size ≤ gb656)); have n3_ := Aside0.mk ((by rw [hg]; exact (below_size (by repeat (first | (with_reducible first | exact HB.out | apply below_alloc | apply pw_below_drewN | apply below_drew1) | exact HB.out))) : w.heap.size ≤ gb656)); clear HB; have HB := n0_; have BK656 := n1_; have GW656 := n2_; have GE656 := n3_; clear n0_ n1_ n2_ n3_; clear hb hbox hg; have hcz7_0 : w6.cell? ⟨gb656, 0, none⟩ = some (.int .i64 a0_0) := (blk_cell BK656.out 0).trans rfl; have hcz7_1 : w6.cell? ⟨gb656, 1, none⟩ = some (.int .i64 a0_1) := (blk_cell BK656.out 1).trans rfl; have hcz7_2 : w6.cell? ⟨gb656, 2, none⟩ = some (.int .i64 a0_2) := (blk_cell BK656.out 2).trans rfl; have hcz7_3 : w6.cell? ⟨gb656, 3, none⟩ = some (.int .u64 a0_3) := (blk_cell BK656.out 3).trans rfl; have hfz7_0 := blk_frozen BK656.out 0; have hfz7_1 := blk_frozen BK656.out 1; have hfz7_2 := blk_frozen BK656.out 2; have hfz7_3 := blk_frozen BK656.out 3))
      go_ret
      exact ⟨by first | rfl | (simp [errW_none, errW_some] <;> rfl) | (simp [*, errW_none, errW_some] <;> rfl), by repeat (first | (with_reducible first | exact HB.out | apply below_alloc | apply pw_below_drewN | apply below_drew1 | refine below_set ?_ GE656.out) | exact HB.out)⟩
    · rw [if_neg c5] at H
      have c5b0 : decide (64 < a0_2) = false := decide_eq_false c5
      clear c5
      by_cases c8 : a0_0 < a0_2
      · rw [if_pos c8] at H
        have c8b0 : decide (a0_0 < a0_2) = true := decide_eq_true c8
        clear c8
        obtain rfl := Option.some.inj H
        go_enter Try.func84, Try.ntmps84
        go_wp2_with (first | ((with_reducible refine gate_dst (N := 1) rfl ?_); refine box_event ?hg (N := 1) ?hd (cs := #[.int .i64 a0_0, .int .i64 a0_1, .int .i64 a0_2, .int .u64 a0_3]) (t := 83) ?hr ?_; (case hd => rfl); (case hg => rfl); (case hr => first | (go_simp; done) | (go_simp; rfl)); intro gb656 hg w9 hbox hb; have n0_ := Aside0.mk (below_step (by repeat (first | (with_reducible first | exact HB.out | apply below_alloc | apply pw_below_drewN | apply below_drew1) | exact HB.out)) hb); have n1_ := Aside0.mk (hbox); have n2_ := Aside0.mk ((by rw [hg]; exact (below_size (by repeat (first | (with_reducible first | exact HB.out | apply below_alloc | apply pw_below_drewN | apply below_drew1) | exact HB.out))) : w.heap.size ≤ gb656)); have n3_ := Aside0.mk ((by rw [hg]; exact (below_size (by repeat (first | (with_reducible first | exact HB.out | apply below_alloc | apply pw_below_drewN | apply below_drew1) | exact HB.out))) : w.heap.size ≤ gb656)); clear HB; have HB := n0_; have BK656 := n1_; have GW656 := n2_; have GE656 := n3_; clear n0_ n1_ n2_ n3_; clear hb hbox hg; have hcz10_0 : w9.cell? ⟨gb656, 0, none⟩ = some (.int .i64 a0_0) := (blk_cell BK656.out 0).trans rfl; have hcz10_1 : w9.cell? ⟨gb656, 1, none⟩ = some (.int .i64 a0_1) := (blk_cell BK656.out 1).trans rfl; have hcz10_2 : w9.cell? ⟨gb656, 2, none⟩ = some (.int .i64 a0_2) := (blk_cell BK656.out 2).trans rfl; have hcz10_3 : w9.cell? ⟨gb656, 3, none⟩ = some (.int .u64 a0_3) := (blk_cell BK656.out 3).trans rfl; have hfz10_0 := blk_frozen BK656.out 0; have hfz10_1 := blk_frozen BK656.out 1; have hfz10_2 := blk_frozen BK656.out 2; have hfz10_3 := blk_frozen BK656.out 3))
        go_ret
        exact ⟨by first | rfl | (simp [errW_none, errW_some] <;> rfl) | (simp [*, errW_none, errW_some] <;> rfl), by repeat (first | (with_reducible first | exact HB.out | apply below_alloc | apply pw_below_drewN | apply below_drew1 | refine below_set ?_ GE656.out) | exact HB.out)⟩
      · rw [if_neg c8] at H
        have c8b0 : decide (a0_0 < a0_2) = false := decide_eq_false c8
        clear c8
        by_cases c11 : a0_1 < a0_0
        · rw [if_pos c11] at H
          have c11b0 : decide (a0_1 < a0_0) = true := decide_eq_true c11
          clear c11
          obtain rfl := Option.some.inj H
          go_enter Try.func84, Try.ntmps84
          go_wp2_with (first | ((with_reducible refine gate_dst (N := 1) rfl ?_); refine box_event ?hg (N := 1) ?hd (cs := #[.int .i64 a0_0, .int .i64 a0_1, .int .i64 a0_2, .int .u64 a0_3]) (t := 83) ?hr ?_; (case hd => rfl); (case hg => rfl); (case hr => first | (go_simp; done) | (go_simp; rfl)); intro gb656 hg w12 hbox hb; have n0_ := Aside0.mk (below_step (by repeat (first | (with_reducible first | exact HB.out | apply below_alloc | apply pw_below_drewN | apply below_drew1) | exact HB.out)) hb); have n1_ := Aside0.mk (hbox); have n2_ := Aside0.mk ((by rw [hg]; exact (below_size (by repeat (first | (with_reducible first | exact HB.out | apply below_alloc | apply pw_below_drewN | apply below_drew1) | exact HB.out))) : w.heap.size ≤ gb656)); have n3_ := Aside0.mk ((by rw [hg]; exact (below_size (by repeat (first | (with_reducible first | exact HB.out | apply below_alloc | apply pw_below_drewN | apply below_drew1) | exact HB.out))) : w.heap.size ≤ gb656)); clear HB; have HB := n0_; have BK656 := n1_; have GW656 := n2_; have GE656 := n3_; clear n0_ n1_ n2_ n3_; clear hb hbox hg; have hcz13_0 : w12.cell? ⟨gb656, 0, none⟩ = some (.int .i64 a0_0) := (blk_cell BK656.out 0).trans rfl; have hcz13_1 : w12.cell? ⟨gb656, 1, none⟩ = some (.int .i64 a0_1) := (blk_cell BK656.out 1).trans rfl; have hcz13_2 : w12.cell? ⟨gb656, 2, none⟩ = some (.int .i64 a0_2) := (blk_cell BK656.out 2).trans rfl; have hcz13_3 : w12.cell? ⟨gb656, 3, none⟩ = some (.int .u64 a0_3) := (blk_cell BK656.out 3).trans rfl; have hfz13_0 := blk_frozen BK656.out 0; have hfz13_1 := blk_frozen BK656.out 1; have hfz13_2 := blk_frozen BK656.out 2; have hfz13_3 := blk_frozen BK656.out 3))
          go_ret
          exact ⟨by first | rfl | (simp [errW_none, errW_some] <;> rfl) | (simp [*, errW_none, errW_some] <;> rfl), by repeat (first | (with_reducible first | exact HB.out | apply below_alloc | apply pw_below_drewN | apply below_drew1 | refine below_set ?_ GE656.out) | exact HB.out)⟩
        · rw [if_neg c11] at H
          have c11b0 : decide (a0_1 < a0_0) = false := decide_eq_false c11
          clear c11
          by_cases c14 : a0_1 > 8192
          · rw [if_pos c14] at H
            have c14b0 : decide (8192 < a0_1) = true := decide_eq_true c14
            clear c14
            obtain rfl := Option.some.inj H
            go_enter Try.func84, Try.ntmps84
            go_wp2_with (first | ((with_reducible refine gate_dst (N := 1) rfl ?_); refine box_event ?hg (N := 1) ?hd (cs := #[.int .i64 a0_0, .int .i64 a0_1, .int .i64 a0_2, .int .u64 a0_3]) (t := 83) ?hr ?_; (case hd => rfl); (case hg => rfl); (case hr => first | (go_simp; done) | (go_simp; rfl)); intro gb656 hg w15 hbox hb; have n0_ := Aside0.mk (below_step (by repeat (first | (with_reducible first | exact HB.out | apply below_alloc | apply pw_below_drewN | apply below_drew1) | exact HB.out)) hb); have n1_ := Aside0.mk (hbox); have n2_ := Aside0.mk ((by rw [hg]; exact (below_size (by repeat (first | (with_reducible first | exact HB.out | apply below_alloc | apply pw_below_drewN | apply below_drew1) | exact HB.out))) : w.heap.size ≤ gb656)); have n3_ := Aside0.mk ((by rw [hg]; exact (below_size (by repeat (first | (with_reducible first | exact HB.out | apply below_alloc | apply pw_below_drewN | apply below_drew1) | exact HB.out))) : w.heap.size ≤ gb656)); clear HB; have HB := n0_; have BK656 := n1_; have GW656 := n2_; have GE656 := n3_; clear n0_ n1_ n2_ n3_; clear hb hbox hg; have hcz16_0 : w15.cell? ⟨gb656, 0, none⟩ = some (.int .i64 a0_0) := (blk_cell BK656.out 0).trans rfl; have hcz16_1 : w15.cell? ⟨gb656, 1, none⟩ = some (.int .i64 a0_1) := (blk_cell BK656.out 1).trans rfl; have hcz16_2 : w15.cell? ⟨gb656, 2, none⟩ = some (.int .i64 a0_2) := (blk_cell BK656.out 2).trans rfl; have hcz16_3 : w15.cell? ⟨gb656, 3, none⟩ = some (.int .u64 a0_3) := (blk_cell BK656.out 3).trans rfl; have hfz16_0 := blk_frozen BK656.out 0; have hfz16_1 := blk_frozen BK656.out 1; have hfz16_2 := blk_frozen BK656.out 2; have hfz16_3 := blk_frozen BK656.out 3))
            go_ret
            exact ⟨by first | rfl | (simp [errW_none, errW_some] <;> rfl) | (simp [*, errW_none, errW_some] <;> rfl), by repeat (first | (with_reducible first | exact HB.out | apply below_alloc | apply pw_below_drewN | apply below_drew1 | refine below_set ?_ GE656.out) | exact HB.out)⟩
          · rw [if_neg c14] at H
            have c14b0 : decide (8192 < a0_1) = false := decide_eq_false c14
            clear c14
            obtain rfl := Option.some.inj H
            go_enter Try.func84, Try.ntmps84
            go_wp2_with (first | ((with_reducible refine gate_dst (N := 1) rfl ?_); refine box_event ?hg (N := 1) ?hd (cs := #[.int .i64 a0_0, .int .i64 a0_1, .int .i64 a0_2, .int .u64 a0_3]) (t := 83) ?hr ?_; (case hd => rfl); (case hg => rfl); (case hr => first | (go_simp; done) | (go_simp; rfl)); intro gb656 hg w17 hbox hb; have n0_ := Aside0.mk (below_step (by repeat (first | (with_reducible first | exact HB.out | apply below_alloc | apply pw_below_drewN | apply below_drew1) | exact HB.out)) hb); have n1_ := Aside0.mk (hbox); have n2_ := Aside0.mk ((by rw [hg]; exact (below_size (by repeat (first | (with_reducible first | exact HB.out | apply below_alloc | apply pw_below_drewN | apply below_drew1) | exact HB.out))) : w.heap.size ≤ gb656)); have n3_ := Aside0.mk ((by rw [hg]; exact (below_size (by repeat (first | (with_reducible first | exact HB.out | apply below_alloc | apply pw_below_drewN | apply below_drew1) | exact HB.out))) : w.heap.size ≤ gb656)); clear HB; have HB := n0_; have BK656 := n1_; have GW656 := n2_; have GE656 := n3_; clear n0_ n1_ n2_ n3_; clear hb hbox hg; have hcz18_0 : w17.cell? ⟨gb656, 0, none⟩ = some (.int .i64 a0_0) := (blk_cell BK656.out 0).trans rfl; have hcz18_1 : w17.cell? ⟨gb656, 1, none⟩ = some (.int .i64 a0_1) := (blk_cell BK656.out 1).trans rfl; have hcz18_2 : w17.cell? ⟨gb656, 2, none⟩ = some (.int .i64 a0_2) := (blk_cell BK656.out 2).trans rfl; have hcz18_3 : w17.cell? ⟨gb656, 3, none⟩ = some (.int .u64 a0_3) := (blk_cell BK656.out 3).trans rfl; have hfz18_0 := blk_frozen BK656.out 0; have hfz18_1 := blk_frozen BK656.out 1; have hfz18_2 := blk_frozen BK656.out 2; have hfz18_3 := blk_frozen BK656.out 3))
            go_ret
            exact ⟨by first | rfl | (simp [errW_none, errW_some] <;> rfl) | (simp [*, errW_none, errW_some] <;> rfl), by repeat (first | (with_reducible first | exact HB.out | apply below_alloc | apply pw_below_drewN | apply below_drew1 | refine below_set ?_ GE656.out) | exact HB.out)⟩

/-! ### fingerprint_sub: function 95 -/
def fingerprint_sub.f (a0 : Int) (a1 : Int) : Option (Int) := if a0 ≥ a1 then (some (IntKind.u64.wrap (a0 - a1))) else (some (IntKind.u64.wrap ((IntKind.u64.wrap (a0 + 2305843009213693951)) - a1)))
set_option maxHeartbeats 8000000 in
set_option maxRecDepth 100000 in
theorem fingerprint_sub.calls (a0 : Int) (a1 : Int) (r : Int) (w : World) (h : fingerprint_sub.f a0 a1 = some r) :
    Calls Try.prog 95 #[.int .u64 a0, .int .u64 a1] w fun e w' => e = .returned (.int .u64 r) ∧ Drawn0 w w' := by
  have H : (if a0 ≥ a1 then (some (IntKind.u64.wrap (a0 - a1))) else (some (IntKind.u64.wrap ((IntKind.u64.wrap (a0 + 2305843009213693951)) - a1)))) = some r := h
  clear h
  by_cases c3 : a0 ≥ a1
  · rw [if_pos c3] at H
    have c3b0 : decide (a1 ≤ a0) = true := decide_eq_true c3
    clear c3
    obtain rfl := Option.some.inj H
    go_enter Try.func95, Try.ntmps95
    go_wp2
    go_ret
    exact ⟨by first | rfl | (simp; done) | (simp [*]; done), by repeat (first | exact Drawn0.refl _ | apply Drawn0.step)⟩
  · rw [if_neg c3] at H
    have c3b0 : decide (a1 ≤ a0) = false := decide_eq_false c3
    clear c3
    obtain rfl := Option.some.inj H
    go_enter Try.func95, Try.ntmps95
    go_wp2
    go_ret
    exact ⟨by first | rfl | (simp; done) | (simp [*]; done), by repeat (first | exact Drawn0.refl _ | apply Drawn0.step)⟩

end Go.Proofs.Ytleapbbdpediiaa.P
