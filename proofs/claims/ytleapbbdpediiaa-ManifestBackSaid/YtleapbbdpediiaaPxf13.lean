-- What this claim does not use is left out (shake.py).
import Derived.Test.YtleapbbdpediiaaPx0
import Derived.Test.YtleapbbdpediiaaPxe51
import Derived.Test.YtleapbbdpediiaaPxf18
import Derived.Test.YtleapbbdpediiaaPxf23
import Derived.Test.YtleapbbdpediiaaPxf25
import Derived.Test.YtleapbbdpediiaaPxf30
import Derived.Test.YtleapbbdpediiaaPxf48
import Derived.Test.YtleapbbdpediiaaPxf49
import Derived.Test.YtleapbbdpediiaaPxf63
import Derived.Test.YtleapbbdpediiaaPxf70
-- Printed by a program (pr.py over the kit's print) out of the translation.
namespace Go.Proofs.Ytleapbbdpediiaa.P
open Go.RowKit Go.Proofs.YtleapbbdpediiaaW.PrintWords Go.Proofs.YtleapbbdpediiaaW.PrintLast Go.Proofs.YtleapbbdpediiaaW.PrintMore
attribute [local go_sem] max2_int min2_int max_two min_two max_three min_three max_four min_four   -- for this text's walks alone
set_option linter.unusedVariables false
set_option linter.unusedSimpArgs false

attribute [local go_sem high] eqA51
/-! ### stockyardlaw25_ManifestBack: function 13 -/
mutual
def stockyardlaw25_ManifestBack.j0 : Nat → List Int → List (List Int) → Bool → Int → List (S51) → Option (Bool)
  | 0, _, _, _, _, _ => none
  | k + 1, x5, x7, x47, x783000, x783001 => if x47 = true then (some false) else ((stockyardmake_Distinct.f x7).bind fun t784 => (if t784 = true then (stockyardlaw25_ManifestBack.l0 k x5 x7 ([] : List (S53)) 0 x783000 x783001) else (some true)))
def stockyardlaw25_ManifestBack.l0 : Nat → List Int → List (List Int) → List (S53) → Int → Int → List (S51) → Option (Bool)
  | 0, _, _, _, _, _, _ => none
  | k + 1, x5, x7, x9, x10, x783000, x783001 => if x10 < (x7.length : Int) then (if 0 ≤ x10 then ((fingerprint_Of.f k (rd_L2 x7 x10)).bind fun bt786 => (if x9.length < 3518437208883 then (stockyardlaw25_ManifestBack.l0 k x5 x7 (x9 ++ [(⟨(⟨bt786.1, bt786.2⟩ : S51), rd_L2 x7 x10⟩ : S53)]) (wrap64 (x10 + 1)) x783000 x783001) else (none))) else (none)) else ((manifest_Assemble.f x783000 x783001 x9).bind fun bt792 => ((manifest_Whole.f k x783000 x783001).bind fun bt796 => (if bt792.2 = 0 then (if (strOfNums bt792.1).toList = (strOfNums x5).toList then (if bt796.2.2 = 0 then ((fingerprint_Of.f k x5).bind fun bt800 => (some (bt796.1 == bt800.1 && (bt796.2.1 == bt800.2)))) else (some false)) else (some false)) else (some false))))
end
def stockyardlaw25_ManifestBack.f (k : Nat) (l0 : List Int) : Option (Bool) := (stockyardlaw25_cut.f l0 0).bind fun bt760 => ((stockyardmake_Tape_Next.f l0 bt760.2.2.2.2 90).bind fun bt766 => ((stockyardmake_Tape_Next.f l0 bt766.2 4).bind fun bt768 => ((stockyardmake_Tape_Bytes.f k l0 bt768.2 bt766.1 (wrap64 (1 + bt768.1))).bind fun bt770 => ((manifest_Build.f k bt760.1 bt760.2.1 bt760.2.2.1 bt760.2.2.2.1 bt770.1).bind fun bt774 => ((stockyardlaw25_known.f k).bind fun t783 => (if t783 = true then (if bt774.2.2.2 = 0 then (stockyardlaw25_ManifestBack.j0 k bt770.1 bt774.2.2.1 ((bt774.2.2.1.length : Int) != (bt774.2.1.length : Int)) bt774.1 bt774.2.1) else (stockyardlaw25_ManifestBack.j0 k bt770.1 bt774.2.2.1 true bt774.1 bt774.2.1)) else (stockyardlaw25_ManifestBack.j0 k bt770.1 bt774.2.2.1 true bt774.1 bt774.2.1)))))))
def stockyardlaw25_ManifestBack.T13 : Bool × List (List Nat × List Nat) := (true, [([], []), ([], []), ([], []), ([1, 2], [1, 2]), ([3], [3]), ([4], [4]), ([], []), ([], []), ([6, 7], [6, 7]), ([8], [8]), ([5, 9], [5, 9]), ([10], [10]), ([0, 11, 5], [0, 11]), ([12, 12, 0, 1, 2, 3, 4, 5, 6, 7, 8, 9, 10, 11, 12], [0, 12])])
def stockyardlaw25_ManifestBack.B13 : List Nat := [0, 0, 0, 6, 14, 30, 0, 0, 192, 448, 1022, 2046, 4095, 8191]
theorem stockyardlaw25_ManifestBack.tab13 : rtab .any (opsOf Try.f13 13) = stockyardlaw25_ManifestBack.T13 := by kernel_rfl
theorem stockyardlaw25_ManifestBack.bits13 : waitsOk stockyardlaw25_ManifestBack.T13.2 stockyardlaw25_ManifestBack.B13 = true := by kernel_rfl
def stockyardlaw25_ManifestBack.T16 : Bool × List (List Nat × List Nat) := (true, [([], []), ([0], [0]), ([1], [1]), ([2], [2]), ([3, 2], [2, 3]), ([2], [2]), ([5, 2], [2, 5]), ([4, 6, 2], [2, 4, 6]), ([2, 7], [2, 7]), ([8, 2], [8]), ([9], [9]), ([10, 9], [9, 10]), ([9, 11], [9, 11]), ([12, 9], [12]), ([13], [13]), ([13], [13]), ([15, 13, 13], [13, 15]), ([14, 16, 13], [13, 14, 16]), ([13, 17], [13, 17]), ([18, 16, 0, 1, 2, 3, 4, 5, 6, 7, 8, 9, 10, 11, 12, 13, 14, 15, 16, 17, 18], [18])])
def stockyardlaw25_ManifestBack.B16 : List Nat := [0, 1, 3, 7, 15, 7, 39, 127, 255, 511, 1023, 2047, 4095, 8191, 16383, 16383, 49151, 131071, 262143, 524287]
theorem stockyardlaw25_ManifestBack.tab16 : rtab .any (opsOf Try.f13 16) = stockyardlaw25_ManifestBack.T16 := by kernel_rfl
theorem stockyardlaw25_ManifestBack.bits16 : waitsOk stockyardlaw25_ManifestBack.T16.2 stockyardlaw25_ManifestBack.B16 = true := by kernel_rfl
set_option maxHeartbeats 8000000 in
set_option maxRecDepth 100000 in
theorem stockyardlaw25_ManifestBack.calls (k : Nat) (A0 : Option Addr) (c0 : Nat) (l0 : List Int) (r : Bool) (w : World) (hr0 : Kd.C (Kd.int .i64) w A0 l0.length l0) (hc0 : l0.length ≤ c0) (h : stockyardlaw25_ManifestBack.f k l0 = some r) (hrt : r = true) :
    Calls Try.prog 13 #[.slice A0 l0.length c0] w fun e w' => e = .returned (.bool r) ∧ Below w.heap.size w w' := by
  have HRT := Aside0.mk hrt
  clear hrt
  have hu26 := Try.underlying26
  have hu83 := Try.underlying83
  have hu31 := Try.underlying31
  have hu53 := Try.underlying53
  have hu51 := Try.underlying51
  have HR0 := Aside0.mk hr0
  have HC0 := Aside0.mk hc0
  clear hr0 hc0
  have HB := Aside0.mk (Below.refl w.heap.size w)
  have H : ((stockyardlaw25_cut.f l0 0).bind fun bt760 => ((stockyardmake_Tape_Next.f l0 bt760.2.2.2.2 90).bind fun bt766 => ((stockyardmake_Tape_Next.f l0 bt766.2 4).bind fun bt768 => ((stockyardmake_Tape_Bytes.f k l0 bt768.2 bt766.1 (wrap64 (1 + bt768.1))).bind fun bt770 => ((manifest_Build.f k bt760.1 bt760.2.1 bt760.2.2.1 bt760.2.2.2.1 bt770.1).bind fun bt774 => ((stockyardlaw25_known.f k).bind fun t783 => (if t783 = true then (if bt774.2.2.2 = 0 then (stockyardlaw25_ManifestBack.j0 k bt770.1 bt774.2.2.1 ((bt774.2.2.1.length : Int) != (bt774.2.1.length : Int)) bt774.1 bt774.2.1) else (stockyardlaw25_ManifestBack.j0 k bt770.1 bt774.2.2.1 true bt774.1 bt774.2.1)) else (stockyardlaw25_ManifestBack.j0 k bt770.1 bt774.2.2.1 true bt774.1 bt774.2.1)))))))) = some r := h
  clear h
  replace H := Option.bind_eq_some_iff.mp H
  obtain ⟨⟨t760, t761, t762, t763, t764⟩, A20, H⟩ := H
  replace H : ((stockyardmake_Tape_Next.f l0 t764 90).bind fun bt766 => ((stockyardmake_Tape_Next.f l0 bt766.2 4).bind fun bt768 => ((stockyardmake_Tape_Bytes.f k l0 bt768.2 bt766.1 (wrap64 (1 + bt768.1))).bind fun bt770 => ((manifest_Build.f k t760 t761 t762 t763 bt770.1).bind fun bt774 => ((stockyardlaw25_known.f k).bind fun t783 => (if t783 = true then (if bt774.2.2.2 = 0 then (stockyardlaw25_ManifestBack.j0 k bt770.1 bt774.2.2.1 ((bt774.2.2.1.length : Int) != (bt774.2.1.length : Int)) bt774.1 bt774.2.1) else (stockyardlaw25_ManifestBack.j0 k bt770.1 bt774.2.2.1 true bt774.1 bt774.2.1)) else (stockyardlaw25_ManifestBack.j0 k bt770.1 bt774.2.2.1 true bt774.1 bt774.2.1))))))) = some r := H
  have A2 := Aside0.mk A20
  clear A20
  replace H := Option.bind_eq_some_iff.mp H
  obtain ⟨⟨t766, t767⟩, A30, H⟩ := H
  replace H : ((stockyardmake_Tape_Next.f l0 t767 4).bind fun bt768 => ((stockyardmake_Tape_Bytes.f k l0 bt768.2 t766 (wrap64 (1 + bt768.1))).bind fun bt770 => ((manifest_Build.f k t760 t761 t762 t763 bt770.1).bind fun bt774 => ((stockyardlaw25_known.f k).bind fun t783 => (if t783 = true then (if bt774.2.2.2 = 0 then (stockyardlaw25_ManifestBack.j0 k bt770.1 bt774.2.2.1 ((bt774.2.2.1.length : Int) != (bt774.2.1.length : Int)) bt774.1 bt774.2.1) else (stockyardlaw25_ManifestBack.j0 k bt770.1 bt774.2.2.1 true bt774.1 bt774.2.1)) else (stockyardlaw25_ManifestBack.j0 k bt770.1 bt774.2.2.1 true bt774.1 bt774.2.1)))))) = some r := H
  have A3 := Aside0.mk A30
  clear A30
  replace H := Option.bind_eq_some_iff.mp H
  obtain ⟨⟨t768, t769⟩, A40, H⟩ := H
  replace H : ((stockyardmake_Tape_Bytes.f k l0 t769 t766 (wrap64 (1 + t768))).bind fun bt770 => ((manifest_Build.f k t760 t761 t762 t763 bt770.1).bind fun bt774 => ((stockyardlaw25_known.f k).bind fun t783 => (if t783 = true then (if bt774.2.2.2 = 0 then (stockyardlaw25_ManifestBack.j0 k bt770.1 bt774.2.2.1 ((bt774.2.2.1.length : Int) != (bt774.2.1.length : Int)) bt774.1 bt774.2.1) else (stockyardlaw25_ManifestBack.j0 k bt770.1 bt774.2.2.1 true bt774.1 bt774.2.1)) else (stockyardlaw25_ManifestBack.j0 k bt770.1 bt774.2.2.1 true bt774.1 bt774.2.1))))) = some r := H
  have A4 := Aside0.mk A40
  clear A40
  replace H := Option.bind_eq_some_iff.mp H
  obtain ⟨⟨t770, t773⟩, A50, H⟩ := H
  replace H : ((manifest_Build.f k t760 t761 t762 t763 t770).bind fun bt774 => ((stockyardlaw25_known.f k).bind fun t783 => (if t783 = true then (if bt774.2.2.2 = 0 then (stockyardlaw25_ManifestBack.j0 k t770 bt774.2.2.1 ((bt774.2.2.1.length : Int) != (bt774.2.1.length : Int)) bt774.1 bt774.2.1) else (stockyardlaw25_ManifestBack.j0 k t770 bt774.2.2.1 true bt774.1 bt774.2.1)) else (stockyardlaw25_ManifestBack.j0 k t770 bt774.2.2.1 true bt774.1 bt774.2.1)))) = some r := H
  have A5 := Aside0.mk A50
  clear A50
  replace H := Option.bind_eq_some_iff.mp H
  obtain ⟨⟨t774, t775, t778, t781⟩, A60, H⟩ := H
  replace H : ((stockyardlaw25_known.f k).bind fun t783 => (if t783 = true then (if t781 = 0 then (stockyardlaw25_ManifestBack.j0 k t770 t778 ((t778.length : Int) != (t775.length : Int)) t774 t775) else (stockyardlaw25_ManifestBack.j0 k t770 t778 true t774 t775)) else (stockyardlaw25_ManifestBack.j0 k t770 t778 true t774 t775))) = some r := H
  have A6 := Aside0.mk A60
  clear A60
  have HC7 := Aside0.mk H
  clear H
  go_enter Try.func13, Try.ntmps13
  go_upto_region 5 with (first | ((with_reducible refine gate_dst (N := 17) rfl ?_); (try (refine gate_guard (by rfl) ?_; dsimp only)); refine box_event ?hg (N := 17) ?hd (cs := #[.slice A0 l0.length c0, .int .i64 0]) (t := 26) ?hr ?_; (case hd => rfl); (case hg => rfl); (case hr => first | (go_simp; done) | (go_simp; rfl)); intro gb759 hg w8 hbox hb; have n0_ := Aside0.mk (below_step (by repeat (first | (with_reducible first | exact HB.out | apply below_alloc | apply pw_below_drewN | apply below_drew1) | exact HB.out)) hb); have n1_ := Aside0.mk ((by rw [hg]; exact (below_size (by repeat (first | (with_reducible first | exact HB.out | apply below_alloc | apply pw_below_drewN | apply below_drew1) | exact HB.out))) : w.heap.size ≤ gb759)); have n2_ := Aside0.mk ((by rw [hg]; exact (below_size (by repeat (first | (with_reducible first | exact HB.out | apply below_alloc | apply pw_below_drewN | apply below_drew1) | exact HB.out))) : w.heap.size ≤ gb759)); have n3_ := Aside0.mk ((show IsS26 w w8 gb759 l0 0 from ⟨_, _, hbox, (by rw [hg]; exact (below_size (by repeat (first | (with_reducible first | exact HB.out | apply below_alloc | apply pw_below_drewN | apply below_drew1) | exact HB.out))) : w.heap.size ≤ gb759), HR0.out⟩)); clear HB; have HB := n0_; have GW759 := n1_; have GE759 := n2_; have HI759 := n3_; clear n0_ n1_ n2_ n3_; clear hb hbox hg) | ((with_reducible refine gate_callee (f := 49) rfl ?_); refine goesL_ (some 19) rfl rfl Try.func49 (by kernel_rfl) rfl #[.pointer (some ⟨gb759, 0, none⟩)] rfl (by (try simp only [List.map_toArray, List.map_cons, List.map_nil]); first | done | rfl | (simp only [List.length_drop, List.length_take]; rfl)) ?_; (with_reducible refine (stockyardlaw25_cut.calls gb759 l0 0 t760 t761 t762 t763 t764 w _ ?side1 ?side2 A2.out).mono ?_); (case side1 => repeat (first | (with_reducible first | exact HI759.out | apply IsS26.alloc | apply IsS26.drewN | apply IsS26.drew | apply IsS26.set_1) | exact HI759.out)); (case side2 => repeat (first | (with_reducible first | exact HB.out | apply below_alloc | apply pw_below_drewN | apply below_drew1 | refine below_set ?_ (IsS26.ge HI759.out)) | exact HB.out)); rintro e w9 ⟨rfl, hi, hb, hk⟩; refine ⟨_, rfl, ?_⟩; have n0_ := Aside0.mk (hb); have n1_ := Aside0.mk (hi); clear HB; clear HI759; have HB := n0_; have HI759 := n1_; clear n0_ n1_; (try clear hb); (try clear hb2); (try clear hk); (try clear hi)) | ((with_reducible refine gate_dst (N := 4) rfl ?_); (try (refine gate_guard (by rfl) ?_; dsimp only)); refine box_event ?hg (N := 4) ?hd (cs := #[.int .i64 0, .int .i64 0, .int .i64 0, .int .u64 0]) (t := 83) ?hr ?_; (case hd => rfl); (case hg => rfl); (case hr => first | (go_simp; done) | (go_simp; rfl)); intro gb765 hg w10 hbox hb; have n0_ := Aside0.mk (IsS26.below (by repeat (first | (with_reducible first | exact HI759.out | apply IsS26.alloc | apply IsS26.drewN | apply IsS26.drew | apply IsS26.set_1) | exact HI759.out)) hb); have n1_ := Aside0.mk (below_step (by repeat (first | (with_reducible first | exact HB.out | apply below_alloc | apply pw_below_drewN | apply below_drew1 | refine below_set ?_ (IsS26.ge HI759.out)) | exact HB.out)) hb); have n2_ := Aside0.mk (hbox); have n3_ := Aside0.mk ((by rw [hg]; exact (below_size (by repeat (first | (with_reducible first | exact HB.out | apply below_alloc | apply pw_below_drewN | apply below_drew1 | refine below_set ?_ (IsS26.ge HI759.out)) | exact HB.out))) : w.heap.size ≤ gb765)); have n4_ := Aside0.mk ((by rw [hg]; exact (below_size (by repeat (first | (with_reducible first | exact HB.out | apply below_alloc | apply pw_below_drewN | apply below_drew1 | refine below_set ?_ (IsS26.ge HI759.out)) | exact HB.out))) : w.heap.size ≤ gb765)); have n5_ := Aside0.mk ((by rw [hg]; exact Nat.ne_of_lt (IsS26.lt (show IsS26 w _ gb759 l0 t764 from by repeat (first | (with_reducible first | exact HI759.out | apply IsS26.alloc | apply IsS26.drewN | apply IsS26.drew | apply IsS26.set_1) | exact HI759.out))) : gb759 ≠ gb765)); have n6_ := Aside0.mk ((by rw [hg]; exact Nat.ne_of_gt (IsS26.lt (show IsS26 w _ gb759 l0 t764 from by repeat (first | (with_reducible first | exact HI759.out | apply IsS26.alloc | apply IsS26.drewN | apply IsS26.drew | apply IsS26.set_1) | exact HI759.out))) : gb765 ≠ gb759)); clear HI759; clear HB; have HI759 := n0_; have HB := n1_; have BK765 := n2_; have GW765 := n3_; have GE765 := n4_; have NB759_765 := n5_; have NB765_759 := n6_; clear n0_ n1_ n2_ n3_ n4_ n5_ n6_; clear hb hbox hg; have hnb11 := NB765_759.out; have hnc11 := NB759_765.out; have hcz12_0 : w10.cell? ⟨gb765, 0, none⟩ = some (.int .i64 0) := (blk_cell BK765.out 0).trans rfl; have hcz12_1 : w10.cell? ⟨gb765, 1, none⟩ = some (.int .i64 0) := (blk_cell BK765.out 1).trans rfl; have hcz12_2 : w10.cell? ⟨gb765, 2, none⟩ = some (.int .i64 0) := (blk_cell BK765.out 2).trans rfl; have hcz12_3 : w10.cell? ⟨gb765, 3, none⟩ = some (.int .u64 0) := (blk_cell BK765.out 3).trans rfl; have hfz12_0 := blk_frozen BK765.out 0; have hfz12_1 := blk_frozen BK765.out 1; have hfz12_2 := blk_frozen BK765.out 2; have hfz12_3 := blk_frozen BK765.out 3) | ((with_reducible refine gate_callee (f := 20) rfl ?_); refine goesL_ (some 22) rfl rfl Try.func20 (by kernel_rfl) rfl #[.pointer (some ⟨gb759, 0, none⟩), .int .i64 90] rfl (by (try simp only [List.map_toArray, List.map_cons, List.map_nil]); first | done | rfl | (simp only [List.length_drop, List.length_take]; rfl)) ?_; (with_reducible refine (stockyardmake_Tape_Next.calls gb759 l0 t764 90 t766 t767 w _ ?side1 ?side2 A3.out).mono ?_); (case side1 => repeat (first | (with_reducible first | exact HI759.out | apply IsS26.alloc | apply IsS26.drewN | apply IsS26.drew | apply IsS26.set_1 | refine IsS26.far ?_ NB759_765.out _) | exact HI759.out)); (case side2 => repeat (first | (with_reducible first | exact HB.out | apply below_alloc | apply pw_below_drewN | apply below_drew1 | refine below_set ?_ (IsS26.ge HI759.out) | refine below_set ?_ GE765.out) | exact HB.out)); rintro e w13 ⟨rfl, hi, hb, hk⟩; refine ⟨_, rfl, ?_⟩; have n0_ := Aside0.mk (KeepBut.blk hk (g' := gb765) (o := .cells #[.int .i64 t760, .int .i64 t761, .int .i64 t762, .int .u64 t763] 83 (0, 0)) (by (with_reducible repeat (first | refine blk_drewN ?_ _ | refine blk_drew ?_ | refine blk_alloc ?_ _)); refine blk_put (cs := #[.int .i64 t760, .int .i64 t761, .int .i64 t762, .int .u64 0]) ?_ 3 _ rfl; (with_reducible repeat (first | refine blk_drewN ?_ _ | refine blk_drew ?_ | refine blk_alloc ?_ _)); refine blk_put (cs := #[.int .i64 t760, .int .i64 t761, .int .i64 0, .int .u64 0]) ?_ 2 _ rfl; (with_reducible repeat (first | refine blk_drewN ?_ _ | refine blk_drew ?_ | refine blk_alloc ?_ _)); refine blk_put (cs := #[.int .i64 t760, .int .i64 0, .int .i64 0, .int .u64 0]) ?_ 1 _ rfl; (with_reducible repeat (first | refine blk_drewN ?_ _ | refine blk_drew ?_ | refine blk_alloc ?_ _)); refine blk_put (cs := #[.int .i64 0, .int .i64 0, .int .i64 0, .int .u64 0]) ?_ 0 _ rfl; (with_reducible repeat (first | refine blk_drewN ?_ _ | refine blk_drew ?_ | refine blk_alloc ?_ _)); exact BK765.out) NB765_759.out (by simp)); have n1_ := Aside0.mk (hb); have n2_ := Aside0.mk (hi); clear BK765; clear HB; clear HI759; have BK765 := n0_; have HB := n1_; have HI759 := n2_; clear n0_ n1_ n2_; (try clear hb); (try clear hb2); (try clear hk); (try clear hi)) | ((with_reducible refine gate_callee (f := 20) rfl ?_); refine goesL_ (some 24) rfl rfl Try.func20 (by kernel_rfl) rfl #[.pointer (some ⟨gb759, 0, none⟩), .int .i64 4] rfl (by (try simp only [List.map_toArray, List.map_cons, List.map_nil]); first | done | rfl | (simp only [List.length_drop, List.length_take]; rfl)) ?_; (with_reducible refine (stockyardmake_Tape_Next.calls gb759 l0 t767 4 t768 t769 w _ ?side1 ?side2 A4.out).mono ?_); (case side1 => repeat (first | (with_reducible first | exact HI759.out | apply IsS26.alloc | apply IsS26.drewN | apply IsS26.drew | apply IsS26.set_1 | refine IsS26.far ?_ NB759_765.out _) | exact HI759.out)); (case side2 => repeat (first | (with_reducible first | exact HB.out | apply below_alloc | apply pw_below_drewN | apply below_drew1 | refine below_set ?_ (IsS26.ge HI759.out) | refine below_set ?_ GE765.out) | exact HB.out)); rintro e w14 ⟨rfl, hi, hb, hk⟩; refine ⟨_, rfl, ?_⟩; have n0_ := Aside0.mk (KeepBut.blk hk (g' := gb765) (o := .cells #[.int .i64 t760, .int .i64 t761, .int .i64 t762, .int .u64 t763] 83 (0, 0)) (by (with_reducible repeat (first | refine blk_drewN ?_ _ | refine blk_drew ?_ | refine blk_alloc ?_ _)); exact BK765.out) NB765_759.out (by simp)); have n1_ := Aside0.mk (hb); have n2_ := Aside0.mk (hi); clear BK765; clear HB; clear HI759; have BK765 := n0_; have HB := n1_; have HI759 := n2_; clear n0_ n1_ n2_; (try clear hb); (try clear hb2); (try clear hk); (try clear hi)) | ((with_reducible refine gate_callee (f := 50) rfl ?_); refine goesL_ (some 26) rfl rfl Try.func50 (by kernel_rfl) rfl #[.pointer (some ⟨gb759, 0, none⟩), .int .i64 t766, .int .i64 (wrap64 (1 + t768))] rfl (by (try simp only [List.map_toArray, List.map_cons, List.map_nil]); first | done | rfl | (simp only [List.length_drop, List.length_take]; rfl)) ?_; (with_reducible refine (stockyardmake_Tape_Bytes.calls k gb759 l0 t769 t766 (wrap64 (1 + t768)) t770 t773 w _ ?side1 ?side2 A5.out).mono ?_); (case side1 => repeat (first | (with_reducible first | exact HI759.out | apply IsS26.alloc | apply IsS26.drewN | apply IsS26.drew | apply IsS26.set_1 | refine IsS26.far ?_ NB759_765.out _) | exact HI759.out)); (case side2 => repeat (first | (with_reducible first | exact HB.out | apply below_alloc | apply pw_below_drewN | apply below_drew1 | refine below_set ?_ (IsS26.ge HI759.out) | refine below_set ?_ GE765.out) | exact HB.out)); rintro e w15 ⟨v771, rfl, ho0, hi, hb, hk⟩; refine ⟨_, rfl, ?_⟩; have n0_ := Aside0.mk (KeepBut.blk hk (g' := gb765) (o := .cells #[.int .i64 t760, .int .i64 t761, .int .i64 t762, .int .u64 t763] 83 (0, 0)) (by (with_reducible repeat (first | refine blk_drewN ?_ _ | refine blk_drew ?_ | refine blk_alloc ?_ _)); exact BK765.out) NB765_759.out (by simp)); have n1_ := Aside0.mk (Kd.R_lower ho0 (below_size (by repeat (first | (with_reducible first | exact HB.out | apply below_alloc | apply pw_below_drewN | apply below_drew1 | refine below_set ?_ (IsS26.ge HI759.out) | refine below_set ?_ GE765.out) | exact HB.out)))); have n2_ := Aside0.mk (hb); have n3_ := Aside0.mk (hi); clear BK765; clear HB; clear HI759; have BK765 := n0_; have HO772 := n1_; have HB := n2_; have HI759 := n3_; clear n0_ n1_ n2_ n3_; (try clear hb); (try clear hb2); (try clear hk); (try clear hi); (try clear ho0); have hcz16_0 : w15.cell? ⟨gb765, 0, none⟩ = some (.int .i64 t760) := (blk_cell BK765.out 0).trans rfl; have hcz16_1 : w15.cell? ⟨gb765, 1, none⟩ = some (.int .i64 t761) := (blk_cell BK765.out 1).trans rfl; have hcz16_2 : w15.cell? ⟨gb765, 2, none⟩ = some (.int .i64 t762) := (blk_cell BK765.out 2).trans rfl; have hcz16_3 : w15.cell? ⟨gb765, 3, none⟩ = some (.int .u64 t763) := (blk_cell BK765.out 3).trans rfl; have hfz16_0 := blk_frozen BK765.out 0; have hfz16_1 := blk_frozen BK765.out 1; have hfz16_2 := blk_frozen BK765.out 2; have hfz16_3 := blk_frozen BK765.out 3; obtain ⟨Ao17, co17, eo17⟩ := Kd.R_slice HO772.out; subst eo17) | ((with_reducible refine gate_callee (f := 51) rfl ?_); refine goesL_ (some 30) rfl rfl Try.func51 (by kernel_rfl) rfl #[.agg #[.int .i64 t760, .int .i64 t761, .int .i64 t762, .int .u64 t763], .slice Ao17 t770.length co17] rfl (by (try simp only [List.map_toArray, List.map_cons, List.map_nil]); first | done | rfl | (simp only [List.length_drop, List.length_take]; rfl)) ?_; (with_reducible refine (manifest_Build.calls k t760 t761 t762 t763 _ _ t770 t774 t775 t778 t781 _ ?side1 ?side2 A6.out).mono ?_); (case side1 => repeat (first | exact (Kd.R_reads' HO772.out).2.2 | (with_reducible refine Kd.C_alloc ?_ _) | (with_reducible refine Kd.C_drewN ?_ _) | (with_reducible refine Kd.C_drew ?_))); (case side2 => exact (Kd.R_reads' HO772.out).2.1); rintro e w18 ⟨v776, v779, rfl, ho0, ho1, hb⟩; refine ⟨_, rfl, ?_⟩; have n0_ := Aside0.mk (Kd.R_below (by (with_reducible repeat (first | apply Kd.R_alloc | apply Kd.R_drewN | apply Kd.R_drew)); exact HO772.out) hb); have n1_ := Aside0.mk (Kd.R_lower ho0 (below_size (by repeat (first | (with_reducible first | exact HB.out | apply below_alloc | apply pw_below_drewN | apply below_drew1 | refine below_set ?_ (IsS26.ge HI759.out) | refine below_set ?_ GE765.out) | exact HB.out)))); have n2_ := Aside0.mk (Kd.N_lower (Kd.N_mono (ok' := fun k_ => some k_ ≠ (v776 : Value).ownBlock ∧ some k_ ≠ (.slice Ao17 t770.length co17 : Value).ownBlock ∧ k_ ≠ gb765 ∧ k_ ≠ gb759) (Kd.S_N (Kd.S_bound (Kd.S_apart' ho1 (Kd.R_typed ho0) (by decide)))) (fun k_ hk_ => ⟨hk_.1.2, (Kd.fresh' (Kd.R_lt (by (with_reducible repeat (first | apply Kd.R_alloc | apply Kd.R_drewN | apply Kd.R_drew)); exact HO772.out)) k_ hk_.2.1), (Kd.freshB (g := gb765) (o := .cells #[.int .i64 t760, .int .i64 t761, .int .i64 t762, .int .u64 t763] 83 (0, 0)) (by (with_reducible repeat (first | refine blk_drewN ?_ _ | refine blk_drew ?_ | refine blk_alloc ?_ _)); exact BK765.out) k_ hk_.2.1), (IsS26.fresh (by repeat (first | (with_reducible first | exact HI759.out | apply IsS26.alloc | apply IsS26.drewN | apply IsS26.drew | apply IsS26.set_1 | refine IsS26.far ?_ NB759_765.out _) | exact HI759.out)) k_ hk_.2.1)⟩)) (below_size (by repeat (first | (with_reducible first | exact HB.out | apply below_alloc | apply pw_below_drewN | apply below_drew1 | refine below_set ?_ (IsS26.ge HI759.out) | refine below_set ?_ GE765.out) | exact HB.out)))); have n3_ := Aside0.mk (IsS26.below (by repeat (first | (with_reducible first | exact HI759.out | apply IsS26.alloc | apply IsS26.drewN | apply IsS26.drew | apply IsS26.set_1 | refine IsS26.far ?_ NB759_765.out _) | exact HI759.out)) hb); have n4_ := Aside0.mk (blk_below (g := gb765) (o := .cells #[.int .i64 t760, .int .i64 t761, .int .i64 t762, .int .u64 t763] 83 (0, 0)) (by (with_reducible repeat (first | refine blk_drewN ?_ _ | refine blk_drew ?_ | refine blk_alloc ?_ _)); exact BK765.out) hb); have n5_ := Aside0.mk (below_step (by repeat (first | (with_reducible first | exact HB.out | apply below_alloc | apply pw_below_drewN | apply below_drew1 | refine below_set ?_ (IsS26.ge HI759.out) | refine below_set ?_ GE765.out) | exact HB.out)) hb); clear HO772; clear HI759; clear BK765; clear HB; have HO772 := n0_; have HO777 := n1_; have HO780 := n2_; have HI759 := n3_; have BK765 := n4_; have HB := n5_; clear n0_ n1_ n2_ n3_ n4_ n5_; (try clear hb); (try clear hb2); (try clear hk); (try clear hi); (try clear ho0); (try clear ho1)) | ((with_reducible refine gate_dst (N := 6) rfl ?_); (try (refine gate_guard (by rfl) ?_; dsimp only)); refine box_event ?hg (N := 6) ?hd (cs := #[.int .i64 0, .slice none 0 0]) (t := 31) ?hr ?_; (case hd => rfl); (case hg => rfl); (case hr => first | (go_simp; done) | (go_simp; rfl)); intro gb782 hg w19 hbox hb; have n0_ := Aside0.mk (Kd.R_below (by (with_reducible repeat (first | apply Kd.R_alloc | apply Kd.R_drewN | apply Kd.R_drew)); exact HO772.out) hb); have n1_ := Aside0.mk (Kd.R_below (by (with_reducible repeat (first | apply Kd.R_alloc | apply Kd.R_drewN | apply Kd.R_drew)); exact HO777.out) hb); have n2_ := Aside0.mk (Kd.N_below (Kd.N_elderB (by (with_reducible repeat (first | apply Kd.N_alloc | apply Kd.N_drewN | apply Kd.N_drew)); exact HO780.out) gb782 (Nat.le_of_eq hg.symm)) hb); have n3_ := Aside0.mk (IsS26.below (by repeat (first | (with_reducible first | exact HI759.out | apply IsS26.alloc | apply IsS26.drewN | apply IsS26.drew | apply IsS26.set_1 | refine IsS26.far ?_ NB759_765.out _) | exact HI759.out)) hb); have n4_ := Aside0.mk (blk_below (g := gb765) (o := .cells #[.int .i64 t760, .int .i64 t761, .int .i64 t762, .int .u64 t763] 83 (0, 0)) (by (with_reducible repeat (first | refine blk_drewN ?_ _ | refine blk_drew ?_ | refine blk_alloc ?_ _)); exact BK765.out) hb); have n5_ := Aside0.mk (below_step (by repeat (first | (with_reducible first | exact HB.out | apply below_alloc | apply pw_below_drewN | apply below_drew1 | refine below_set ?_ (IsS26.ge HI759.out) | refine below_set ?_ GE765.out) | exact HB.out)) hb); have n6_ := Aside0.mk (hbox); have n7_ := Aside0.mk ((by rw [hg]; exact (below_size (by repeat (first | (with_reducible first | exact HB.out | apply below_alloc | apply pw_below_drewN | apply below_drew1 | refine below_set ?_ (IsS26.ge HI759.out) | refine below_set ?_ GE765.out) | exact HB.out))) : w.heap.size ≤ gb782)); have n8_ := Aside0.mk ((by rw [hg]; exact (below_size (by repeat (first | (with_reducible first | exact HB.out | apply below_alloc | apply pw_below_drewN | apply below_drew1 | refine below_set ?_ (IsS26.ge HI759.out) | refine below_set ?_ GE765.out) | exact HB.out))) : w.heap.size ≤ gb782)); have n9_ := Aside0.mk ((by rw [hg]; exact Nat.ne_of_lt (blk_lt (g := gb765) (o := .cells #[.int .i64 t760, .int .i64 t761, .int .i64 t762, .int .u64 t763] 83 (0, 0)) (by (with_reducible repeat (first | refine blk_drewN ?_ _ | refine blk_drew ?_ | refine blk_alloc ?_ _)); exact BK765.out)) : gb765 ≠ gb782)); have n10_ := Aside0.mk ((by rw [hg]; exact Nat.ne_of_gt (blk_lt (g := gb765) (o := .cells #[.int .i64 t760, .int .i64 t761, .int .i64 t762, .int .u64 t763] 83 (0, 0)) (by (with_reducible repeat (first | refine blk_drewN ?_ _ | refine blk_drew ?_ | refine blk_alloc ?_ _)); exact BK765.out)) : gb782 ≠ gb765)); have n11_ := Aside0.mk ((by rw [hg]; exact Nat.ne_of_lt (IsS26.lt (show IsS26 w _ gb759 l0 t773 from by repeat (first | (with_reducible first | exact HI759.out | apply IsS26.alloc | apply IsS26.drewN | apply IsS26.drew | apply IsS26.set_1 | refine IsS26.far ?_ NB759_765.out _) | exact HI759.out))) : gb759 ≠ gb782)); have n12_ := Aside0.mk ((by rw [hg]; exact Nat.ne_of_gt (IsS26.lt (show IsS26 w _ gb759 l0 t773 from by repeat (first | (with_reducible first | exact HI759.out | apply IsS26.alloc | apply IsS26.drewN | apply IsS26.drew | apply IsS26.set_1 | refine IsS26.far ?_ NB759_765.out _) | exact HI759.out))) : gb782 ≠ gb759)); clear HO772; clear HO777; clear HO780; clear HI759; clear BK765; clear HB; have HO772 := n0_; have HO777 := n1_; have HO780 := n2_; have HI759 := n3_; have BK765 := n4_; have HB := n5_; have BK782 := n6_; have GW782 := n7_; have GE782 := n8_; have NB765_782 := n9_; have NB782_765 := n10_; have NB759_782 := n11_; have NB782_759 := n12_; clear n0_ n1_ n2_ n3_ n4_ n5_ n6_ n7_ n8_ n9_ n10_ n11_ n12_; clear hb hbox hg; have hnb20 := NB782_765.out; have hnc20 := NB765_782.out; have hnb21 := NB782_759.out; have hnc21 := NB759_782.out; have hcz22_0 : w19.cell? ⟨gb782, 0, none⟩ = some (.int .i64 0) := (blk_cell BK782.out 0).trans rfl; have hcz22_1 : w19.cell? ⟨gb782, 1, none⟩ = some (.slice none 0 0) := (blk_cell BK782.out 1).trans rfl; have hfz22_0 := blk_frozen BK782.out 0; have hfz22_1 := blk_frozen BK782.out 1; obtain ⟨Ao23, co23, eo23⟩ := Kd.R_slice HO777.out; subst eo23))
  (try simp only [Act.put, List.setIfInBounds_toArray, List.set_cons_zero, List.set_cons_succ])
  go_cut [47] (fun v47 wc => ∃ (kq : Nat) (x47_6 : Bool), v47 = .bool x47_6 ∧ Aside0 (stockyardlaw25_ManifestBack.j0 kq t770 t778 x47_6 t774 t775 = some r) ∧ Aside0 (kq ≤ k) ∧ Aside0 (Kd.R (Kd.int .u8) 5 wc w.heap.size (fun _ => True) (.slice Ao17 t770.length co17) t770) ∧ Aside0 (Kd.N (Kd.slice 5 (Kd.int .u8)) 34 wc w.heap.size (fun k_ => some k_ ≠ ((.slice Ao17 t770.length co17) : Value).ownBlock ∧ some k_ ≠ ((.slice Ao23 t775.length co23) : Value).ownBlock ∧ k_ ≠ gb765 ∧ k_ ≠ gb782) v779 t778) ∧ Aside0 (Kd.R k51 51 wc w.heap.size (fun _ => True) (.slice Ao23 t775.length co23) t775) ∧ Aside0 (wc.heap[gb765]? = some (.cells #[.int .i64 t760, .int .i64 t761, .int .i64 t762, .int .u64 t763] 83 (0, 0))) ∧ Aside0 (wc.heap[gb782]? = some (.cells #[.int .i64 t774, (.slice Ao23 t775.length co23)] 31 (0, 0))) ∧ Aside0 (Below w.heap.size w wc))
  case first =>
    have H := HC7.out
    clear HC7
    replace H := Option.bind_eq_some_iff.mp H
    obtain ⟨t783, A240, H⟩ := H
    replace H : (if t783 = true then (if t781 = 0 then (stockyardlaw25_ManifestBack.j0 k t770 t778 ((t778.length : Int) != (t775.length : Int)) t774 t775) else (stockyardlaw25_ManifestBack.j0 k t770 t778 true t774 t775)) else (stockyardlaw25_ManifestBack.j0 k t770 t778 true t774 t775)) = some r := H
    have A24 := Aside0.mk A240
    clear A240
    by_cases c25 : t783 = true
    · subst c25
      have H1 : (if t781 = 0 then (stockyardlaw25_ManifestBack.j0 k t770 t778 ((t778.length : Int) != (t775.length : Int)) t774 t775) else (stockyardlaw25_ManifestBack.j0 k t770 t778 true t774 t775)) = some r := by rw [if_pos rfl] at H; exact H
      clear H
      have H := H1
      clear H1
      by_cases c26 : t781 = 0
      · rw [if_pos c26] at H
        have c26b0 : (t781 == 0) = true := beq_iff_eq.mpr c26
        have c26b1 : (t781 != 0) = false := bne_eq_false_iff_eq.mpr c26
        clear c26
        (first | rw [c26b0] | (simp only [i64_w, i32_w]; rw [c26b0]) | skip)
        have H' := Aside0.mk H
        clear H
        go_wp2_with (first | ((with_reducible refine gate_callee (f := 23) rfl ?_); refine goesL_ (some 34) rfl rfl Try.func23 (by kernel_rfl) rfl #[] rfl (by (try simp only [List.map_toArray, List.map_cons, List.map_nil]); first | done | rfl | (simp only [List.length_drop, List.length_take]; rfl)) ?_; (with_reducible refine (stockyardlaw25_known.calls k  true _ A24.out).mono ?_); rintro e w27 ⟨rfl, hb⟩; refine ⟨_, rfl, ?_⟩; have n0_ := Aside0.mk (Kd.R_below (by (with_reducible repeat (first | apply Kd.R_alloc | apply Kd.R_drewN | apply Kd.R_drew)); exact (Kd.R_mono (Kd.R_far (p := ⟨gb782, 1, none⟩) (Kd.R_far (p := ⟨gb782, 0, none⟩) (Kd.R_types HO772.out BK782.out (by decide)) (fun _ hk => hk.2) (.int .i64 t774)) (fun _ hk => hk.2) (.slice Ao23 t775.length co23)) (fun _ h_ => h_.1))) hb); have n1_ := Aside0.mk (Kd.R_below (by (with_reducible repeat (first | apply Kd.R_alloc | apply Kd.R_drewN | apply Kd.R_drew)); exact (Kd.R_mono (Kd.R_far (p := ⟨gb782, 1, none⟩) (Kd.R_far (p := ⟨gb782, 0, none⟩) (Kd.R_types HO777.out BK782.out (by decide)) (fun _ hk => hk.2) (.int .i64 t774)) (fun _ hk => hk.2) (.slice Ao23 t775.length co23)) (fun _ h_ => h_.1))) hb); have n2_ := Aside0.mk (Kd.N_below (by (with_reducible repeat (first | apply Kd.N_alloc | apply Kd.N_drewN | apply Kd.N_drew)); exact (Kd.N_mono (Kd.N_far (p := ⟨gb782, 1, none⟩) (Kd.N_far (p := ⟨gb782, 0, none⟩) (Kd.N_mono HO780.out (fun k_ hk => (⟨hk, hk.2⟩ : _ ∧ k_ ≠ gb782))) (fun _ hk => hk.2) (.int .i64 t774)) (fun _ hk => hk.2) (.slice Ao23 t775.length co23)) (fun _ h_ => h_.1))) hb); have n3_ := Aside0.mk (IsS26.below (show IsS26 w ((w19.setCell ⟨gb782, 0, none⟩ (.int .i64 t774)).setCell ⟨gb782, 1, none⟩ (.slice Ao23 t775.length co23)) gb759 l0 t773 from by repeat (first | (with_reducible first | exact HI759.out | apply IsS26.alloc | apply IsS26.drewN | apply IsS26.drew | apply IsS26.set_1 | refine IsS26.far ?_ NB759_765.out _ | refine IsS26.far ?_ NB759_782.out _) | exact HI759.out)) hb); have n4_ := Aside0.mk (blk_below (g := gb765) (o := .cells #[.int .i64 t760, .int .i64 t761, .int .i64 t762, .int .u64 t763] 83 (0, 0)) (by (with_reducible repeat (first | refine blk_drewN ?_ _ | refine blk_drew ?_ | refine blk_alloc ?_ _)); refine blk_far ?_ NB765_782.out _; (with_reducible repeat (first | refine blk_drewN ?_ _ | refine blk_drew ?_ | refine blk_alloc ?_ _)); refine blk_far ?_ NB765_782.out _; (with_reducible repeat (first | refine blk_drewN ?_ _ | refine blk_drew ?_ | refine blk_alloc ?_ _)); exact BK765.out) hb); have n5_ := Aside0.mk (blk_below (g := gb782) (o := .cells #[.int .i64 t774, .slice Ao23 t775.length co23] 31 (0, 0)) (by (with_reducible repeat (first | refine blk_drewN ?_ _ | refine blk_drew ?_ | refine blk_alloc ?_ _)); refine blk_put (cs := #[.int .i64 t774, .slice none 0 0]) ?_ 1 _ rfl; (with_reducible repeat (first | refine blk_drewN ?_ _ | refine blk_drew ?_ | refine blk_alloc ?_ _)); refine blk_put (cs := #[.int .i64 0, .slice none 0 0]) ?_ 0 _ rfl; (with_reducible repeat (first | refine blk_drewN ?_ _ | refine blk_drew ?_ | refine blk_alloc ?_ _)); exact BK782.out) hb); have n6_ := Aside0.mk (below_step (by repeat (first | (with_reducible first | exact HB.out | apply below_alloc | apply pw_below_drewN | apply below_drew1 | refine below_set ?_ (IsS26.ge HI759.out) | refine below_set ?_ GE765.out | refine below_set ?_ GE782.out) | exact HB.out)) hb); clear HO772; clear HO777; clear HO780; clear HI759; clear BK765; clear BK782; clear HB; have HO772 := n0_; have HO777 := n1_; have HO780 := n2_; have HI759 := n3_; have BK765 := n4_; have BK782 := n5_; have HB := n6_; clear n0_ n1_ n2_ n3_ n4_ n5_ n6_; (try clear hb); (try clear hb2); (try clear hk); (try clear hi); obtain ⟨Ao28, co28, eo28⟩ := Kd.N_slice HO780.out; subst eo28; have hnb29 := NB782_765.out; have hnc29 := NB765_782.out; have hnb30 := NB782_759.out; have hnc30 := NB759_782.out; have hcz31_0 : w27.cell? ⟨gb782, 0, none⟩ = some (.int .i64 t774) := (blk_cell BK782.out 0).trans rfl; have hcz31_1 : w27.cell? ⟨gb782, 1, none⟩ = some (.slice Ao23 t775.length co23) := (blk_cell BK782.out 1).trans rfl; have hfz31_0 := blk_frozen BK782.out 0; have hfz31_1 := blk_frozen BK782.out 1))
        go_meet
        case rel => exact ⟨_, (((t778.length : Int) != (t775.length : Int))), (by first | rfl | (simp; done) | (simp [*]; done)), H', ⟨by first | omega | exact Nat.le_refl _⟩, ⟨by (with_reducible repeat (first | apply Kd.R_alloc | apply Kd.R_drewN | apply Kd.R_drew)); exact HO772.out⟩, ⟨by (with_reducible repeat (first | apply Kd.N_alloc | apply Kd.N_drewN | apply Kd.N_drew)); exact Kd.N_mono HO780.out (fun _ hk => ⟨hk.1.2.1, ⟨hk.1.1, ⟨hk.1.2.2.1, hk.2⟩⟩⟩)⟩, ⟨by (with_reducible repeat (first | apply Kd.R_alloc | apply Kd.R_drewN | apply Kd.R_drew)); exact HO777.out⟩, ⟨by (with_reducible repeat (first | refine blk_drewN ?_ _ | refine blk_drew ?_ | refine blk_alloc ?_ _)); exact BK765.out⟩, ⟨by (with_reducible repeat (first | refine blk_drewN ?_ _ | refine blk_drew ?_ | refine blk_alloc ?_ _)); exact BK782.out⟩, ⟨by repeat (first | (with_reducible first | exact HB.out | apply below_alloc | apply pw_below_drewN | apply below_drew1 | refine below_set ?_ (IsS26.ge HI759.out) | refine below_set ?_ GE765.out | refine below_set ?_ GE782.out) | exact HB.out)⟩⟩
      · rw [if_neg c26] at H
        have c26b0 : (t781 == 0) = false := beq_eq_false_iff_ne.mpr c26
        have c26b1 : (t781 != 0) = true := bne_iff_ne.mpr c26
        (first | rw [c26b0] | (simp only [i64_w, i32_w]; rw [c26b0]) | skip)
        have H' := Aside0.mk H
        clear H
        go_wp2_with (first | ((with_reducible refine gate_callee (f := 23) rfl ?_); refine goesL_ (some 34) rfl rfl Try.func23 (by kernel_rfl) rfl #[] rfl (by (try simp only [List.map_toArray, List.map_cons, List.map_nil]); first | done | rfl | (simp only [List.length_drop, List.length_take]; rfl)) ?_; (with_reducible refine (stockyardlaw25_known.calls k  true _ A24.out).mono ?_); rintro e w32 ⟨rfl, hb⟩; refine ⟨_, rfl, ?_⟩; have n0_ := Aside0.mk (Kd.R_below (by (with_reducible repeat (first | apply Kd.R_alloc | apply Kd.R_drewN | apply Kd.R_drew)); exact (Kd.R_mono (Kd.R_far (p := ⟨gb782, 1, none⟩) (Kd.R_far (p := ⟨gb782, 0, none⟩) (Kd.R_types HO772.out BK782.out (by decide)) (fun _ hk => hk.2) (.int .i64 t774)) (fun _ hk => hk.2) (.slice Ao23 t775.length co23)) (fun _ h_ => h_.1))) hb); have n1_ := Aside0.mk (Kd.R_below (by (with_reducible repeat (first | apply Kd.R_alloc | apply Kd.R_drewN | apply Kd.R_drew)); exact (Kd.R_mono (Kd.R_far (p := ⟨gb782, 1, none⟩) (Kd.R_far (p := ⟨gb782, 0, none⟩) (Kd.R_types HO777.out BK782.out (by decide)) (fun _ hk => hk.2) (.int .i64 t774)) (fun _ hk => hk.2) (.slice Ao23 t775.length co23)) (fun _ h_ => h_.1))) hb); have n2_ := Aside0.mk (Kd.N_below (by (with_reducible repeat (first | apply Kd.N_alloc | apply Kd.N_drewN | apply Kd.N_drew)); exact (Kd.N_mono (Kd.N_far (p := ⟨gb782, 1, none⟩) (Kd.N_far (p := ⟨gb782, 0, none⟩) (Kd.N_mono HO780.out (fun k_ hk => (⟨hk, hk.2⟩ : _ ∧ k_ ≠ gb782))) (fun _ hk => hk.2) (.int .i64 t774)) (fun _ hk => hk.2) (.slice Ao23 t775.length co23)) (fun _ h_ => h_.1))) hb); have n3_ := Aside0.mk (IsS26.below (show IsS26 w ((w19.setCell ⟨gb782, 0, none⟩ (.int .i64 t774)).setCell ⟨gb782, 1, none⟩ (.slice Ao23 t775.length co23)) gb759 l0 t773 from by repeat (first | (with_reducible first | exact HI759.out | apply IsS26.alloc | apply IsS26.drewN | apply IsS26.drew | apply IsS26.set_1 | refine IsS26.far ?_ NB759_765.out _ | refine IsS26.far ?_ NB759_782.out _) | exact HI759.out)) hb); have n4_ := Aside0.mk (blk_below (g := gb765) (o := .cells #[.int .i64 t760, .int .i64 t761, .int .i64 t762, .int .u64 t763] 83 (0, 0)) (by (with_reducible repeat (first | refine blk_drewN ?_ _ | refine blk_drew ?_ | refine blk_alloc ?_ _)); refine blk_far ?_ NB765_782.out _; (with_reducible repeat (first | refine blk_drewN ?_ _ | refine blk_drew ?_ | refine blk_alloc ?_ _)); refine blk_far ?_ NB765_782.out _; (with_reducible repeat (first | refine blk_drewN ?_ _ | refine blk_drew ?_ | refine blk_alloc ?_ _)); exact BK765.out) hb); have n5_ := Aside0.mk (blk_below (g := gb782) (o := .cells #[.int .i64 t774, .slice Ao23 t775.length co23] 31 (0, 0)) (by (with_reducible repeat (first | refine blk_drewN ?_ _ | refine blk_drew ?_ | refine blk_alloc ?_ _)); refine blk_put (cs := #[.int .i64 t774, .slice none 0 0]) ?_ 1 _ rfl; (with_reducible repeat (first | refine blk_drewN ?_ _ | refine blk_drew ?_ | refine blk_alloc ?_ _)); refine blk_put (cs := #[.int .i64 0, .slice none 0 0]) ?_ 0 _ rfl; (with_reducible repeat (first | refine blk_drewN ?_ _ | refine blk_drew ?_ | refine blk_alloc ?_ _)); exact BK782.out) hb); have n6_ := Aside0.mk (below_step (by repeat (first | (with_reducible first | exact HB.out | apply below_alloc | apply pw_below_drewN | apply below_drew1 | refine below_set ?_ (IsS26.ge HI759.out) | refine below_set ?_ GE765.out | refine below_set ?_ GE782.out) | exact HB.out)) hb); clear HO772; clear HO777; clear HO780; clear HI759; clear BK765; clear BK782; clear HB; have HO772 := n0_; have HO777 := n1_; have HO780 := n2_; have HI759 := n3_; have BK765 := n4_; have BK782 := n5_; have HB := n6_; clear n0_ n1_ n2_ n3_ n4_ n5_ n6_; (try clear hb); (try clear hb2); (try clear hk); (try clear hi)))
        go_meet
        case rel => exact ⟨_, (true), (by first | rfl | (simp; done) | (simp [*]; done)), H', ⟨by first | omega | exact Nat.le_refl _⟩, ⟨by (with_reducible repeat (first | apply Kd.R_alloc | apply Kd.R_drewN | apply Kd.R_drew)); exact HO772.out⟩, ⟨by (with_reducible repeat (first | apply Kd.N_alloc | apply Kd.N_drewN | apply Kd.N_drew)); exact Kd.N_mono HO780.out (fun _ hk => ⟨hk.1.2.1, ⟨hk.1.1, ⟨hk.1.2.2.1, hk.2⟩⟩⟩)⟩, ⟨by (with_reducible repeat (first | apply Kd.R_alloc | apply Kd.R_drewN | apply Kd.R_drew)); exact HO777.out⟩, ⟨by (with_reducible repeat (first | refine blk_drewN ?_ _ | refine blk_drew ?_ | refine blk_alloc ?_ _)); exact BK765.out⟩, ⟨by (with_reducible repeat (first | refine blk_drewN ?_ _ | refine blk_drew ?_ | refine blk_alloc ?_ _)); exact BK782.out⟩, ⟨by repeat (first | (with_reducible first | exact HB.out | apply below_alloc | apply pw_below_drewN | apply below_drew1 | refine below_set ?_ (IsS26.ge HI759.out) | refine below_set ?_ GE765.out | refine below_set ?_ GE782.out) | exact HB.out)⟩⟩
    · replace c25 := Bool.eq_false_iff.mpr c25
      subst c25
      have H1 : (stockyardlaw25_ManifestBack.j0 k t770 t778 true t774 t775) = some r := by rw [if_neg (show ¬ (false = true) by decide)] at H; exact H
      clear H
      have H := H1
      clear H1
      have H' := Aside0.mk H
      clear H
      go_wp2_with (first | ((with_reducible refine gate_callee (f := 23) rfl ?_); refine goesL_ (some 34) rfl rfl Try.func23 (by kernel_rfl) rfl #[] rfl (by (try simp only [List.map_toArray, List.map_cons, List.map_nil]); first | done | rfl | (simp only [List.length_drop, List.length_take]; rfl)) ?_; (with_reducible refine (stockyardlaw25_known.calls k  false _ A24.out).mono ?_); rintro e w33 ⟨rfl, hb⟩; refine ⟨_, rfl, ?_⟩; have n0_ := Aside0.mk (Kd.R_below (by (with_reducible repeat (first | apply Kd.R_alloc | apply Kd.R_drewN | apply Kd.R_drew)); exact (Kd.R_mono (Kd.R_far (p := ⟨gb782, 1, none⟩) (Kd.R_far (p := ⟨gb782, 0, none⟩) (Kd.R_types HO772.out BK782.out (by decide)) (fun _ hk => hk.2) (.int .i64 t774)) (fun _ hk => hk.2) (.slice Ao23 t775.length co23)) (fun _ h_ => h_.1))) hb); have n1_ := Aside0.mk (Kd.R_below (by (with_reducible repeat (first | apply Kd.R_alloc | apply Kd.R_drewN | apply Kd.R_drew)); exact (Kd.R_mono (Kd.R_far (p := ⟨gb782, 1, none⟩) (Kd.R_far (p := ⟨gb782, 0, none⟩) (Kd.R_types HO777.out BK782.out (by decide)) (fun _ hk => hk.2) (.int .i64 t774)) (fun _ hk => hk.2) (.slice Ao23 t775.length co23)) (fun _ h_ => h_.1))) hb); have n2_ := Aside0.mk (Kd.N_below (by (with_reducible repeat (first | apply Kd.N_alloc | apply Kd.N_drewN | apply Kd.N_drew)); exact (Kd.N_mono (Kd.N_far (p := ⟨gb782, 1, none⟩) (Kd.N_far (p := ⟨gb782, 0, none⟩) (Kd.N_mono HO780.out (fun k_ hk => (⟨hk, hk.2⟩ : _ ∧ k_ ≠ gb782))) (fun _ hk => hk.2) (.int .i64 t774)) (fun _ hk => hk.2) (.slice Ao23 t775.length co23)) (fun _ h_ => h_.1))) hb); have n3_ := Aside0.mk (IsS26.below (show IsS26 w ((w19.setCell ⟨gb782, 0, none⟩ (.int .i64 t774)).setCell ⟨gb782, 1, none⟩ (.slice Ao23 t775.length co23)) gb759 l0 t773 from by repeat (first | (with_reducible first | exact HI759.out | apply IsS26.alloc | apply IsS26.drewN | apply IsS26.drew | apply IsS26.set_1 | refine IsS26.far ?_ NB759_765.out _ | refine IsS26.far ?_ NB759_782.out _) | exact HI759.out)) hb); have n4_ := Aside0.mk (blk_below (g := gb765) (o := .cells #[.int .i64 t760, .int .i64 t761, .int .i64 t762, .int .u64 t763] 83 (0, 0)) (by (with_reducible repeat (first | refine blk_drewN ?_ _ | refine blk_drew ?_ | refine blk_alloc ?_ _)); refine blk_far ?_ NB765_782.out _; (with_reducible repeat (first | refine blk_drewN ?_ _ | refine blk_drew ?_ | refine blk_alloc ?_ _)); refine blk_far ?_ NB765_782.out _; (with_reducible repeat (first | refine blk_drewN ?_ _ | refine blk_drew ?_ | refine blk_alloc ?_ _)); exact BK765.out) hb); have n5_ := Aside0.mk (blk_below (g := gb782) (o := .cells #[.int .i64 t774, .slice Ao23 t775.length co23] 31 (0, 0)) (by (with_reducible repeat (first | refine blk_drewN ?_ _ | refine blk_drew ?_ | refine blk_alloc ?_ _)); refine blk_put (cs := #[.int .i64 t774, .slice none 0 0]) ?_ 1 _ rfl; (with_reducible repeat (first | refine blk_drewN ?_ _ | refine blk_drew ?_ | refine blk_alloc ?_ _)); refine blk_put (cs := #[.int .i64 0, .slice none 0 0]) ?_ 0 _ rfl; (with_reducible repeat (first | refine blk_drewN ?_ _ | refine blk_drew ?_ | refine blk_alloc ?_ _)); exact BK782.out) hb); have n6_ := Aside0.mk (below_step (by repeat (first | (with_reducible first | exact HB.out | apply below_alloc | apply pw_below_drewN | apply below_drew1 | refine below_set ?_ (IsS26.ge HI759.out) | refine below_set ?_ GE765.out | refine below_set ?_ GE782.out) | exact HB.out)) hb); clear HO772; clear HO777; clear HO780; clear HI759; clear BK765; clear BK782; clear HB; have HO772 := n0_; have HO777 := n1_; have HO780 := n2_; have HI759 := n3_; have BK765 := n4_; have BK782 := n5_; have HB := n6_; clear n0_ n1_ n2_ n3_ n4_ n5_ n6_; (try clear hb); (try clear hb2); (try clear hk); (try clear hi)))
      go_meet
      case rel => exact ⟨_, (true), (by first | rfl | (simp; done) | (simp [*]; done)), H', ⟨by first | omega | exact Nat.le_refl _⟩, ⟨by (with_reducible repeat (first | apply Kd.R_alloc | apply Kd.R_drewN | apply Kd.R_drew)); exact HO772.out⟩, ⟨by (with_reducible repeat (first | apply Kd.N_alloc | apply Kd.N_drewN | apply Kd.N_drew)); exact Kd.N_mono HO780.out (fun _ hk => ⟨hk.1.2.1, ⟨hk.1.1, ⟨hk.1.2.2.1, hk.2⟩⟩⟩)⟩, ⟨by (with_reducible repeat (first | apply Kd.R_alloc | apply Kd.R_drewN | apply Kd.R_drew)); exact HO777.out⟩, ⟨by (with_reducible repeat (first | refine blk_drewN ?_ _ | refine blk_drew ?_ | refine blk_alloc ?_ _)); exact BK765.out⟩, ⟨by (with_reducible repeat (first | refine blk_drewN ?_ _ | refine blk_drew ?_ | refine blk_alloc ?_ _)); exact BK782.out⟩, ⟨by repeat (first | (with_reducible first | exact HB.out | apply below_alloc | apply pw_below_drewN | apply below_drew1 | refine below_set ?_ (IsS26.ge HI759.out) | refine below_set ?_ GE765.out | refine below_set ?_ GE782.out) | exact HB.out)⟩⟩
  case rest =>
    clear HC7
    try clear c1
    try clear c2
    try clear p2
    try clear c3
    try clear c4
    try clear c5
    try clear p6
    try clear c11
    try clear c13
    try clear c20
    try clear c21
    try clear c23
    try clear c25
    try clear c26
    try clear c26b0
    try clear c26b1
    try clear c29
    try clear c30
    try clear hcz12_0
    try clear hcz12_1
    try clear hcz12_2
    try clear hcz12_3
    try clear hcz16_0
    try clear hcz16_1
    try clear hcz16_2
    try clear hcz16_3
    try clear hcz22_0
    try clear hcz22_1
    try clear hcz31_0
    try clear hcz31_1
    try clear hfz12_0
    try clear hfz12_1
    try clear hfz12_2
    try clear hfz12_3
    try clear hfz16_0
    try clear hfz16_1
    try clear hfz16_2
    try clear hfz16_3
    try clear hfz22_0
    try clear hfz22_1
    try clear hfz31_0
    try clear hfz31_1
    obtain ⟨kq, x47_6, rfl, HA, HJ6, HO_5, HO_7, HO_783001, BK765, BK782, HB⟩ := hcut
    cases kq with
    | zero => exact absurd HA.out (by simp [stockyardlaw25_ManifestBack.j0])
    | succ kj6 =>
      have H := HA.out
      clear HA
      simp only [stockyardlaw25_ManifestBack.j0] at H
      by_cases c34 : x47_6 = true
      · subst c34
        have H1 : (some false) = some r := by rw [if_pos rfl] at H; exact H
        clear H
        have H := H1
        clear H1
        exact absurd ((Option.some.inj H).trans HRT.out) (by decide)
      · replace c34 := Bool.eq_false_iff.mpr c34
        subst c34
        have H1 : ((stockyardmake_Distinct.f t778).bind fun t784 => (if t784 = true then (stockyardlaw25_ManifestBack.l0 kj6 t770 t778 ([] : List (S53)) 0 t774 t775) else (some true))) = some r := by rw [if_neg (show ¬ (false = true) by decide)] at H; exact H
        clear H
        have H := H1
        clear H1
        replace H := Option.bind_eq_some_iff.mp H
        obtain ⟨t784, A350, H⟩ := H
        replace H : (if t784 = true then (stockyardlaw25_ManifestBack.l0 kj6 t770 t778 ([] : List (S53)) 0 t774 t775) else (some true)) = some r := H
        have A35 := Aside0.mk A350
        clear A350
        by_cases c36 : t784 = true
        · subst c36
          have H1 : (stockyardlaw25_ManifestBack.l0 kj6 t770 t778 ([] : List (S53)) 0 t774 t775) = some r := by rw [if_pos rfl] at H; exact H
          clear H
          have H := H1
          clear H1
          have H' := Aside0.mk H
          clear H
          obtain ⟨Ao37, co37, eo37⟩ := Kd.N_slice HO_7.out
          subst eo37
          go_wp2_with (first | ((with_reducible refine gate_callee (f := 25) rfl ?_); refine goesL_ (some 49) rfl rfl Try.func25 (by kernel_rfl) rfl #[.slice Ao37 t778.length co37] rfl (by (try simp only [List.map_toArray, List.map_cons, List.map_nil]); first | done | rfl | (simp only [List.length_drop, List.length_take]; rfl)) ?_; (with_reducible refine (stockyardmake_Distinct.calls _ _ t778 true _ ?side1 ?side2 A35.out).mono ?_); (case side1 => repeat (first | exact (Kd.N_reads' HO_7.out).2.2 | (with_reducible refine Kd.C_alloc ?_ _) | (with_reducible refine Kd.C_drewN ?_ _) | (with_reducible refine Kd.C_drew ?_))); (case side2 => exact (Kd.N_reads' HO_7.out).2.1); rintro e w38 ⟨rfl, hb⟩; refine ⟨_, rfl, ?_⟩; have n0_ := Aside0.mk (Kd.R_below (by (with_reducible repeat (first | apply Kd.R_alloc | apply Kd.R_drewN | apply Kd.R_drew)); exact HO_5.out) hb); have n1_ := Aside0.mk (Kd.N_below (by (with_reducible repeat (first | apply Kd.N_alloc | apply Kd.N_drewN | apply Kd.N_drew)); exact HO_7.out) hb); have n2_ := Aside0.mk (Kd.R_below (by (with_reducible repeat (first | apply Kd.R_alloc | apply Kd.R_drewN | apply Kd.R_drew)); exact HO_783001.out) hb); have n3_ := Aside0.mk (blk_below (g := gb765) (o := .cells #[.int .i64 t760, .int .i64 t761, .int .i64 t762, .int .u64 t763] 83 (0, 0)) (by (with_reducible repeat (first | refine blk_drewN ?_ _ | refine blk_drew ?_ | refine blk_alloc ?_ _)); exact BK765.out) hb); have n4_ := Aside0.mk (blk_below (g := gb782) (o := .cells #[.int .i64 t774, .slice Ao23 t775.length co23] 31 (0, 0)) (by (with_reducible repeat (first | refine blk_drewN ?_ _ | refine blk_drew ?_ | refine blk_alloc ?_ _)); exact BK782.out) hb); have n5_ := Aside0.mk (below_step (by repeat (first | (with_reducible first | exact HB.out | apply below_alloc | apply pw_below_drewN | apply below_drew1 | refine below_set ?_ GE765.out | refine below_set ?_ GE782.out) | exact HB.out)) hb); clear HO_5; clear HO_7; clear HO_783001; clear BK765; clear BK782; clear HB; have HO_5 := n0_; have HO_7 := n1_; have HO_783001 := n2_; have BK765 := n3_; have BK782 := n4_; have HB := n5_; clear n0_ n1_ n2_ n3_ n4_ n5_; (try clear hb); (try clear hb2); (try clear hk); (try clear hi)))
          go_loopg [9, 10] kj6 (fun kq v9 v10 w' => ∃ (x9_2 : List (S53)) (x10_2 : Int), v10 = .int .i64 x10_2 ∧ Aside0 (stockyardlaw25_ManifestBack.l0 kq t770 t778 x9_2 x10_2 t774 t775 = some r) ∧ Aside0 (kq ≤ kj6) ∧ Aside0 (Kd.R (Kd.int .u8) 5 w' w.heap.size (fun _ => True) (.slice Ao17 t770.length co17) t770) ∧ Aside0 (Kd.N (Kd.slice 5 (Kd.int .u8)) 34 w' w.heap.size (fun k_ => some k_ ≠ ((.slice Ao17 t770.length co17) : Value).ownBlock ∧ some k_ ≠ (v9 : Value).ownBlock ∧ some k_ ≠ ((.slice Ao23 t775.length co23) : Value).ownBlock ∧ k_ ≠ gb765 ∧ k_ ≠ gb782) (.slice Ao37 t778.length co37) t778) ∧ Aside0 (Kd.N k53 53 w' w.heap.size (fun k_ => some k_ ≠ ((.slice Ao17 t770.length co17) : Value).ownBlock ∧ some k_ ≠ ((.slice Ao37 t778.length co37) : Value).ownBlock ∧ some k_ ≠ ((.slice Ao23 t775.length co23) : Value).ownBlock ∧ k_ ≠ gb765 ∧ k_ ≠ gb782) v9 x9_2) ∧ Aside0 (Kd.R k51 51 w' w.heap.size (fun _ => True) (.slice Ao23 t775.length co23) t775) ∧ Aside0 (w'.heap[gb765]? = some (.cells #[.int .i64 t760, .int .i64 t761, .int .i64 t762, .int .u64 t763] 83 (0, 0))) ∧ Aside0 (w'.heap[gb782]? = some (.cells #[.int .i64 t774, (.slice Ao23 t775.length co23)] 31 (0, 0))) ∧ Aside0 (Below w.heap.size w w'))
          case atStart => exact ⟨(([] : List (S53))), (0), (by first | rfl | (simp; done) | (simp [*]; done)), H', ⟨Nat.le_refl _⟩, ⟨by (with_reducible repeat (first | apply Kd.R_alloc | apply Kd.R_drewN | apply Kd.R_drew)); exact HO_5.out⟩, ⟨by (with_reducible repeat (first | apply Kd.N_alloc | apply Kd.N_drewN | apply Kd.N_drew)); exact Kd.N_mono HO_7.out (fun _ hk => ⟨hk.1, ⟨(by simp [Value.ownBlock]), ⟨hk.2.1, ⟨hk.2.2.1, hk.2.2.2⟩⟩⟩⟩)⟩, ⟨by first | exact Kd.S_nil _ _ _ _ _ | exact Kd.N_nil _ _ _ _ _ | exact Kd.V_nil _ _ _ _ _ | exact Kd.Q_nil _ _ _ _ _ | exact Kd.R_nil _ _ _ _ _⟩, ⟨by (with_reducible repeat (first | apply Kd.R_alloc | apply Kd.R_drewN | apply Kd.R_drew)); exact HO_783001.out⟩, ⟨by (with_reducible repeat (first | refine blk_drewN ?_ _ | refine blk_drew ?_ | refine blk_alloc ?_ _)); exact BK765.out⟩, ⟨by (with_reducible repeat (first | refine blk_drewN ?_ _ | refine blk_drew ?_ | refine blk_alloc ?_ _)); exact BK782.out⟩, ⟨by repeat (first | (with_reducible first | exact HB.out | apply below_alloc | apply pw_below_drewN | apply below_drew1 | refine below_set ?_ GE765.out | refine below_set ?_ GE782.out) | exact HB.out)⟩⟩
          case round =>
            clear H'
            try clear c1
            try clear c2
            try clear p2
            try clear c3
            try clear c4
            try clear c5
            try clear p6
            try clear c11
            try clear c13
            try clear c20
            try clear c21
            try clear c23
            try clear c25
            try clear c26
            try clear c26b0
            try clear c26b1
            try clear c29
            try clear c30
            try clear c34
            try clear c36
            try clear hcz12_0
            try clear hcz12_1
            try clear hcz12_2
            try clear hcz12_3
            try clear hcz16_0
            try clear hcz16_1
            try clear hcz16_2
            try clear hcz16_3
            try clear hcz22_0
            try clear hcz22_1
            try clear hcz31_0
            try clear hcz31_1
            try clear hfz12_0
            try clear hfz12_1
            try clear hfz12_2
            try clear hfz12_3
            try clear hfz16_0
            try clear hfz16_1
            try clear hfz16_2
            try clear hfz16_3
            try clear hfz22_0
            try clear hfz22_1
            try clear hfz31_0
            try clear hfz31_1
            try clear p2
            try clear p6
            obtain ⟨x9_2, x10_2, rfl, HA, HK2, HO_5, HO_7, HO_9, HO_783001, BK765, BK782, HB⟩ := hrel
            cases gk with
            | zero => exact absurd HA.out (by simp [stockyardlaw25_ManifestBack.l0])
            | succ k2 =>
              have H := HA.out
              clear HA
              simp only [stockyardlaw25_ManifestBack.l0] at H
              by_cases c39 : x10_2 < (t778.length : Int)
              · rw [if_pos c39] at H
                have c39b0 : decide (x10_2 < (t778.length : Int)) = true := decide_eq_true c39
                clear c39
                by_cases c40 : 0 ≤ x10_2
                · rw [if_pos c40] at H
                  have c40b0 : decide (0 ≤ x10_2) = true := decide_eq_true c40
                  clear c40
                  replace H := Option.bind_eq_some_iff.mp H
                  obtain ⟨⟨t786, t787⟩, A410, H⟩ := H
                  replace H : (if x9_2.length < 3518437208883 then (stockyardlaw25_ManifestBack.l0 k2 t770 t778 (x9_2 ++ [(⟨(⟨t786, t787⟩ : S51), rd_L2 t778 x10_2⟩ : S53)]) (wrap64 (x10_2 + 1)) t774 t775) else (none)) = some r := H
                  have A41 := Aside0.mk A410
                  clear A410
                  by_cases c42 : x9_2.length < 3518437208883
                  · rw [if_pos c42] at H
                    have LMc42 := Aside0.mk c42
                    clear c42
                    obtain ⟨y789, hy789⟩ : ∃ y_ : List (S53), y_ = (x9_2 ++ [(⟨(⟨t786, t787⟩ : S51), rd_L2 t778 x10_2⟩ : S53)]) := ⟨_, rfl⟩
                    replace H : (stockyardlaw25_ManifestBack.l0 k2 t770 t778 y789 (wrap64 (x10_2 + 1)) t774 t775) = some r := by first | (rw [hy789]; with_reducible exact H) | (have H2_ := (Option.bind_some _ _).symm.trans H; rw [hy789]; with_reducible exact H2_) | (have H2_ := (Option.bind_some _ _).symm.trans H; with_reducible exact H2_) | with_reducible exact H | (rw [hy789]; exact H) | exact H
                    have Ny789 := Aside0.mk hy789
                    clear hy789
                    have H' := Aside0.mk H
                    clear H
                    try go_wp2
                    have n0_ := Aside0.mk (Kd.R_drew HO_5.out)
                    have n1_ := Aside0.mk (Kd.N_drew HO_7.out)
                    have n2_ := Aside0.mk (Kd.N_drew HO_9.out)
                    have n3_ := Aside0.mk (Kd.R_drew HO_783001.out)
                    have n4_ := Aside0.mk (blk_drew BK765.out)
                    have n5_ := Aside0.mk (blk_drew BK782.out)
                    have n6_ := Aside0.mk (below_drew1 HB.out)
                    clear HO_5
                    clear HO_7
                    clear HO_9
                    clear HO_783001
                    clear BK765
                    clear BK782
                    clear HB
                    have HO_5 := n0_
                    have HO_7 := n1_
                    have HO_9 := n2_
                    have HO_783001 := n3_
                    have BK765 := n4_
                    have BK782 := n5_
                    have HB := n6_
                    clear n0_ n1_ n2_ n3_ n4_ n5_ n6_
                    have p785 : 0 ≤ (x10_2 : Int) := of_decide_eq_true (by first | (with_reducible assumption) | assumption)
                    have q785 : x10_2 < (t778.length : Int) := of_decide_eq_true (by first | (with_reducible assumption) | assumption)
                    obtain ⟨ad785, A785_0, c785_0, e785, hx785_0, hl785_0, hi785_0⟩ := at_L2 (Kd.N_reads' HO_7.out).2.2 x10_2 p785 q785
                    cases e785
                    obtain ⟨ce785, hce785, hMe785, hcc785⟩ := Kd.N_get HO_7.out [] x10_2 p785 (by first | exact q785 | exact of_decide_eq_true (by first | (with_reducible assumption) | assumption) | (have e_ := (Kd.N_reads' HO_7.out).1; omega))
                    obtain ⟨ua785_0, uc785_0, rfl, ul785_0, ge785_0⟩ := Kd.FK_slice_open hMe785
                    have hv785_0 := hcc785 0 _ rfl
                    rw [Nat.add_zero, show ((Kd.slice 5 (Kd.int .u8))).sz = 1 from rfl, Nat.mul_one] at hv785_0
                    replace hv785_0 := Option.some.inj (hv785_0.symm.trans hx785_0)
                    injection hv785_0 with hva_ hvn_ hvc_
                    rw [hva_] at ge785_0
                    rw [hvc_] at ul785_0
                    have HL785_0 := Aside0.mk (show Kd.V (Kd.int .u8) 5 _ w.heap.size _ _ (rd_L2 t778 x10_2) from Kd.V_mk ul785_0 ge785_0)
                    clear hva_ hvn_ hvc_ ge785_0 ul785_0
                    clear hcc785 hce785
                    have HR785_0 := Aside0.mk hi785_0
                    have HC785_0 := Aside0.mk hl785_0
                    clear hi785_0 hl785_0
                    replace p785 := eq_true p785
                    replace q785 := eq_true q785
                    have p788 : 0 ≤ (x10_2 : Int) := of_decide_eq_true (by first | (with_reducible assumption) | assumption)
                    have q788 : x10_2 < (t778.length : Int) := of_decide_eq_true (by first | (with_reducible assumption) | assumption)
                    obtain ⟨ad788, A788_0, c788_0, e788, hx788_0, hl788_0, hi788_0⟩ := at_L2 (Kd.N_reads' HO_7.out).2.2 x10_2 p788 q788
                    obtain rfl : ad785 = ad788 := (by injection e788)
                    obtain ⟨ce788, hce788, hMe788, hcc788⟩ := Kd.N_get HO_7.out [] x10_2 p788 (by first | exact q788 | exact of_decide_eq_true (by first | (with_reducible assumption) | assumption) | (have e_ := (Kd.N_reads' HO_7.out).1; omega))
                    obtain ⟨ua788_0, uc788_0, rfl, ul788_0, ge788_0⟩ := Kd.FK_slice_open hMe788
                    have hv788_0 := hcc788 0 _ rfl
                    rw [Nat.add_zero, show ((Kd.slice 5 (Kd.int .u8))).sz = 1 from rfl, Nat.mul_one] at hv788_0
                    replace hv788_0 := Option.some.inj (hv788_0.symm.trans hx788_0)
                    injection hv788_0 with hva_ hvn_ hvc_
                    rw [hva_] at ge788_0
                    rw [hvc_] at ul788_0
                    have HL788_0 := Aside0.mk (show Kd.V (Kd.int .u8) 5 _ w.heap.size _ _ (rd_L2 t778 x10_2) from Kd.V_mk ul788_0 ge788_0)
                    clear hva_ hvn_ hvc_ ge788_0 ul788_0
                    clear hcc788 hce788
                    have HR788_0 := Aside0.mk hi788_0
                    have HC788_0 := Aside0.mk hl788_0
                    clear hi788_0 hl788_0
                    replace p788 := eq_true p788
                    replace q788 := eq_true q788
                    have ea_ := Option.some.inj (hx785_0.symm.trans hx788_0)
                    injection ea_ with ea_ en_ ec_
                    subst ea_
                    subst ec_
                    clear en_
                    refine start_ (n := 14) (S := fun w' => w'.cell? (ad785.add (x10_2).toNat) = some (.slice A785_0 (rd_L2 t778 x10_2).length c785_0) ∧ w'.cell? (ad785.add (x10_2).toNat) = some (.slice A785_0 (rd_L2 t778 x10_2).length c785_0)) (ds := [11, 12]) #[false, false, false, false, false, false, false, false, false, false, false, false, false, false] (by kernel_rfl) rfl rfl ⟨hx785_0, hx788_0⟩ (fun hHeld => ?_); refine with_tabW stockyardlaw25_ManifestBack.tab13 stockyardlaw25_ManifestBack.bits13 (fun HT_ HW_ => ?_)
                    generalize wr.drew = w43 at HO_5 HO_7 HO_9 HO_783001 BK765 BK782 HB HL785_0 HL788_0 HR785_0 HR788_0 hx785_0 hx788_0 hHeld ⊢
                    refine pure_ (i := 0) (N := some 57) (v := ?_) (a' := ?_) #[true, false, false, false, false, false, false, false, false, false, false, false, false, false] rfl rfl (any_of HT_.out (by kernel_rfl)) (fun _ _ _ h => h) (Or.inl ⟨by rfl, ?_⟩) ?_ ?_
                    rotate_left
                    · intro w'
                      go_simp
                      with_reducible rfl
                    rotate_left
                    · simp only [Act.put, List.setIfInBounds_toArray, List.set_cons_zero, List.set_cons_succ, i64_w, i32_w]
                      rfl
                    refine pure_ (i := 1) (N := some 58) (v := ?_) (a' := ?_) #[true, true, false, false, false, false, false, false, false, false, false, false, false, false] rfl rfl (any_of HT_.out (by kernel_rfl)) (fun _ _ _ h => h) (Or.inl ⟨by rfl, ?_⟩) ?_ ?_
                    rotate_left
                    · intro w'
                      go_simp
                      with_reducible rfl
                    rotate_left
                    · simp only [Act.put, List.setIfInBounds_toArray, List.set_cons_zero, List.set_cons_succ, i64_w, i32_w]
                      rfl
                    refine pure_ (i := 2) (N := some 59) (v := ?_) (a' := ?_) #[true, true, true, false, false, false, false, false, false, false, false, false, false, false] rfl rfl (any_of HT_.out (by kernel_rfl)) (fun _ _ _ h => h) (Or.inl ⟨by rfl, ?_⟩) ?_ ?_
                    rotate_left
                    · intro w'
                      go_simp
                      with_reducible rfl
                    rotate_left
                    · simp only [Act.put, List.setIfInBounds_toArray, List.set_cons_zero, List.set_cons_succ, i64_w, i32_w]
                      rfl
                    refine pure_ (i := 3) (N := some 60) (v := ?_) (a' := ?_) #[true, true, true, true, false, false, false, false, false, false, false, false, false, false] rfl rfl (any_of HT_.out (by kernel_rfl)) (fun _ _ _ h => h) (Or.inl ⟨by rfl, ?_⟩) ?_ ?_
                    rotate_left
                    · intro w'
                      go_simp
                      with_reducible rfl
                    rotate_left
                    · simp only [Act.put, List.setIfInBounds_toArray, List.set_cons_zero, List.set_cons_succ, i64_w, i32_w]
                      rfl
                    refine pure_ (i := 6) (N := some 63) (v := ?_) (a' := ?_) #[true, true, true, true, false, false, true, false, false, false, false, false, false, false] rfl rfl (any_of HT_.out (by kernel_rfl)) (fun _ _ _ h => h) (Or.inl ⟨by rfl, ?_⟩) ?_ ?_
                    rotate_left
                    · intro w'
                      go_simp
                      with_reducible rfl
                    rotate_left
                    · simp only [Act.put, List.setIfInBounds_toArray, List.set_cons_zero, List.set_cons_succ, i64_w, i32_w]
                      rfl
                    refine pure_ (i := 7) (N := some 64) (v := ?_) (a' := ?_) #[true, true, true, true, false, false, true, true, false, false, false, false, false, false] rfl rfl (any_of HT_.out (by kernel_rfl)) (fun _ _ _ h => h) (Or.inl ⟨by rfl, ?_⟩) ?_ ?_
                    rotate_left
                    · intro w'
                      go_simp
                      with_reducible rfl
                    rotate_left
                    · simp only [Act.put, List.setIfInBounds_toArray, List.set_cons_zero, List.set_cons_succ, i64_w, i32_w]
                      rfl
                    refine pure_ (i := 8) (N := some 65) (v := ?_) (a' := ?_) #[true, true, true, true, false, false, true, true, true, false, false, false, false, false] rfl rfl (any_of HT_.out (by kernel_rfl)) (fun _ _ _ h => h) (Or.inl ⟨by rfl, ?_⟩) ?_ ?_
                    rotate_left
                    · intro w'
                      go_simp
                      with_reducible rfl
                    rotate_left
                    · simp only [Act.put, List.setIfInBounds_toArray, List.set_cons_zero, List.set_cons_succ, i64_w, i32_w]
                      rfl
                    refine take_ (i := 4) (N := some 61) (v := ?_) (a' := ?_) #[true, true, true, true, true, false, true, true, true, false, false, false, false, false] rfl rfl (take_ofW HT_.out HW_.out (by kernel_rfl)) (fun _ _ _ h => h) (Or.inl ⟨by rfl, ?_⟩) hHeld ?_ ?_
                    rotate_left
                    · rintro w' ⟨s0, s1⟩
                      go_simp
                      with_reducible rfl
                    rotate_left
                    · simp only [Act.put, List.setIfInBounds_toArray, List.set_cons_zero, List.set_cons_succ, i64_w, i32_w]
                      rfl
                    refine take_ (i := 9) (N := some 66) (v := ?_) (a' := ?_) #[true, true, true, true, true, false, true, true, true, true, false, false, false, false] rfl rfl (take_ofW HT_.out HW_.out (by kernel_rfl)) (fun _ _ _ h => h) (Or.inl ⟨by rfl, ?_⟩) hHeld ?_ ?_
                    rotate_left
                    · rintro w' ⟨s0, s1⟩
                      go_simp
                      with_reducible rfl
                    rotate_left
                    · simp only [Act.put, List.setIfInBounds_toArray, List.set_cons_zero, List.set_cons_succ, i64_w, i32_w]
                      rfl
                    refine one_ (i := 5) (N := some 62) #[true, true, true, true, true, true, true, true, true, true, false, false, false, false] rfl rfl (one_of HT_.out (by kernel_rfl)) (by decide) (fun K hK => ?_)
                    refine goes_ Try.func42 (by kernel_rfl) rfl #[.slice A785_0 (rd_L2 t778 x10_2).length c785_0] (by rfl) rfl rfl (by (try simp only [List.map_toArray, List.map_cons, List.map_nil]); first | done | rfl | (simp only [List.length_drop, List.length_take]; rfl)) ?_
                    with_reducible refine (fingerprint_Of.calls k2 _ _ (rd_L2 t778 x10_2) t786 t787 _ ?side1 ?side2 A41.out).mono ?_
                    (case side1 => repeat (first | exact (by repeat (first | (with_reducible exact HR785_0.out) | (with_reducible refine Kd.C_alloc ?_ _) | (with_reducible refine Kd.C_drewN ?_ _) | (with_reducible refine Kd.C_drew ?_) | exact HR785_0.out)) | (with_reducible refine Kd.C_alloc ?_ _) | (with_reducible refine Kd.C_drewN ?_ _) | (with_reducible refine Kd.C_drew ?_)))
                    (case side2 => exact HC785_0.out)
                    rintro e w44 ⟨rfl, hb⟩
                    have HS0_ := (hb.cell (World.block_lt_of_cell? _ _ (hHeld.1))).trans (hHeld.1)
                    have HS1_ := (hb.cell (World.block_lt_of_cell? _ _ (hHeld.2))).trans (hHeld.2)
                    refine ⟨_, rfl, ?_⟩
                    have n0_ := Aside0.mk (Kd.R_below (by (with_reducible repeat (first | apply Kd.R_alloc | apply Kd.R_drewN | apply Kd.R_drew)); exact HO_5.out) hb)
                    have n1_ := Aside0.mk (Kd.N_below (by (with_reducible repeat (first | apply Kd.N_alloc | apply Kd.N_drewN | apply Kd.N_drew)); exact HO_7.out) hb)
                    have n2_ := Aside0.mk (Kd.N_below (by (with_reducible repeat (first | apply Kd.N_alloc | apply Kd.N_drewN | apply Kd.N_drew)); exact HO_9.out) hb)
                    have n3_ := Aside0.mk (Kd.R_below (by (with_reducible repeat (first | apply Kd.R_alloc | apply Kd.R_drewN | apply Kd.R_drew)); exact HO_783001.out) hb)
                    have n4_ := Aside0.mk (Kd.V_below (by (with_reducible repeat (first | apply Kd.V_alloc | apply Kd.V_drewN | apply Kd.V_drew)); exact HL785_0.out) hb)
                    have n5_ := Aside0.mk (Kd.V_below (by (with_reducible repeat (first | apply Kd.V_alloc | apply Kd.V_drewN | apply Kd.V_drew)); exact HL788_0.out) hb)
                    have n6_ := Aside0.mk (blk_below (g := gb765) (o := .cells #[.int .i64 t760, .int .i64 t761, .int .i64 t762, .int .u64 t763] 83 (0, 0)) (by (with_reducible repeat (first | refine blk_drewN ?_ _ | refine blk_drew ?_ | refine blk_alloc ?_ _)); exact BK765.out) hb)
                    have n7_ := Aside0.mk (blk_below (g := gb782) (o := .cells #[.int .i64 t774, .slice Ao23 t775.length co23] 31 (0, 0)) (by (with_reducible repeat (first | refine blk_drewN ?_ _ | refine blk_drew ?_ | refine blk_alloc ?_ _)); exact BK782.out) hb)
                    have n8_ := Aside0.mk (Kd.C_below (by repeat (first | (with_reducible exact HR785_0.out) | (with_reducible refine Kd.C_alloc ?_ _) | (with_reducible refine Kd.C_drewN ?_ _) | (with_reducible refine Kd.C_drew ?_) | exact HR785_0.out)) hb)
                    have n9_ := Aside0.mk (Kd.C_below (by repeat (first | (with_reducible exact HR788_0.out) | (with_reducible refine Kd.C_alloc ?_ _) | (with_reducible refine Kd.C_drewN ?_ _) | (with_reducible refine Kd.C_drew ?_) | exact HR788_0.out)) hb)
                    have n10_ := Aside0.mk (below_step (by repeat (first | (with_reducible first | exact HB.out | apply below_alloc | apply pw_below_drewN | apply below_drew1 | refine below_set ?_ GE765.out | refine below_set ?_ GE782.out) | exact HB.out)) hb)
                    clear HO_5
                    clear HO_7
                    clear HO_9
                    clear HO_783001
                    clear HL785_0
                    clear HL788_0
                    clear BK765
                    clear BK782
                    clear HR785_0
                    clear HR788_0
                    clear HB
                    have HO_5 := n0_
                    have HO_7 := n1_
                    have HO_9 := n2_
                    have HO_783001 := n3_
                    have HL785_0 := n4_
                    have HL788_0 := n5_
                    have BK765 := n6_
                    have BK782 := n7_
                    have HR785_0 := n8_
                    have HR788_0 := n9_
                    have HB := n10_
                    clear n0_ n1_ n2_ n3_ n4_ n5_ n6_ n7_ n8_ n9_ n10_
                    (try clear hb)
                    (try clear hb2)
                    (try clear hk)
                    (try clear hi)
                    refine hK.out _ _ ⟨HS0_, HS1_⟩ (fun hHeld => ?_)
                    clear hK K
                    refine norm_ (a' := ?_) ?_ ?_
                    rotate_left
                    · show Act.put _ (some 62) _ = _
                      simp only [Act.put, List.setIfInBounds_toArray, List.set_cons_zero, List.set_cons_succ, i64_w, i32_w]
                      rfl
                    refine pure_ (i := 10) (N := some 67) (v := ?_) (a' := ?_) #[true, true, true, true, true, true, true, true, true, true, true, false, false, false] rfl rfl (any_of HT_.out (by kernel_rfl)) (fun _ _ _ h => h) (Or.inl ⟨by rfl, ?_⟩) ?_ ?_
                    rotate_left
                    · intro w'
                      go_simp
                      with_reducible rfl
                    rotate_left
                    · simp only [Act.put, List.setIfInBounds_toArray, List.set_cons_zero, List.set_cons_succ, i64_w, i32_w]
                      rfl
                    refine last_ (i := 11) (N := some 68) #[true, true, true, true, true, true, true, true, true, true, true, true, false, false] rfl rfl (one_of HT_.out (by kernel_rfl)) (by decide) (fun K hK => ?_)
                    refine value_ (w1 := ?_) (v := ?_) (by rfl) rfl ?_ ?_
                    rotate_left 2
                    · go_simp
                      constructor
                      · rfl
                      · rfl
                    refine hK.out _ _ ?_
                    clear hK K
                    refine norm_ (a' := ?_) ?_ ?_
                    rotate_left
                    · show Act.put _ (some 68) _ = _
                      simp only [Act.put, List.setIfInBounds_toArray, List.set_cons_zero, List.set_cons_succ, i64_w, i32_w]
                      rfl
                    refine last_ (i := 12) (N := some 69) #[true, true, true, true, true, true, true, true, true, true, true, true, true, false] rfl rfl (one_of HT_.out (by kernel_rfl)) (by decide) (fun K hK => ?_)
                    refine Kd.N_append_step k53 (w0 := w) w.heap.size (by rfl) (.tmp 57) (.tmp 68) 23 53 (.agg #[(.int .u64 0), (.int .i64 0), (.slice none 0 0)]) 40 rfl Try.underlying23 info53 rfl (by decide) (by omega) u9 x9_2 (⟨(⟨t786, t787⟩ : S51), rd_L2 t778 x10_2⟩ : S53) [.int .u64 t786, .int .i64 t787, .slice A785_0 (rd_L2 t778 x10_2).length c785_0] (fun k_ => some k_ ≠ (.slice Ao17 t770.length co17 : Value).ownBlock ∧ some k_ ≠ (.slice (some ad785) t778.length co37 : Value).ownBlock ∧ some k_ ≠ (.slice Ao23 t775.length co23 : Value).ownBlock ∧ k_ ≠ gb765 ∧ k_ ≠ gb782) (fun k_ => ((fun k_ => some k_ ≠ (.slice Ao17 t770.length co17 : Value).ownBlock ∧ some k_ ≠ (.slice (some ad785) t778.length co37 : Value).ownBlock ∧ some k_ ≠ (.slice Ao23 t775.length co23 : Value).ownBlock ∧ k_ ≠ gb765 ∧ k_ ≠ gb782)) k_ ∧ some k_ ≠ (u9 : Value).ownBlock) rfl rfl ?aP (fun _ hk => hk) ?aF ?aO ?aB ?aS ?aL ?_
                    (case aP => exact (k53_mkF _ _ (⟨(⟨t786, t787⟩ : S51), rd_L2 t778 x10_2⟩ : S53) (Kd.V_reads' (Kd.V_mono (ok' := (fun k_ => ((fun k_ => some k_ ≠ (.slice Ao17 t770.length co17 : Value).ownBlock ∧ some k_ ≠ (.slice (some ad785) t778.length co37 : Value).ownBlock ∧ some k_ ≠ (.slice Ao23 t775.length co23 : Value).ownBlock ∧ k_ ≠ gb765 ∧ k_ ≠ gb782)) k_ ∧ some k_ ≠ (u9 : Value).ownBlock)) (HL788_0.out) (fun k_ hk => ⟨⟨hk.1.1, ⟨hk.2, ⟨hk.1.2.2.1, ⟨hk.1.2.2.2.1, hk.1.2.2.2.2⟩⟩⟩⟩, hk.1.2.1⟩))).2.1 (Kd.V_F (Kd.V_mono (ok' := (fun k_ => ((fun k_ => some k_ ≠ (.slice Ao17 t770.length co17 : Value).ownBlock ∧ some k_ ≠ (.slice (some ad785) t778.length co37 : Value).ownBlock ∧ some k_ ≠ (.slice Ao23 t775.length co23 : Value).ownBlock ∧ k_ ≠ gb765 ∧ k_ ≠ gb782)) k_ ∧ some k_ ≠ (u9 : Value).ownBlock)) (HL788_0.out) (fun k_ hk => ⟨⟨hk.1.1, ⟨hk.2, ⟨hk.1.2.2.1, ⟨hk.1.2.2.2.1, hk.1.2.2.2.2⟩⟩⟩⟩, hk.1.2.1⟩)))))
                    (case aB => exact (by repeat (first | (with_reducible first | exact HB.out | apply below_alloc | apply pw_below_drewN | apply below_drew1 | refine below_set ?_ GE765.out | refine below_set ?_ GE782.out) | exact HB.out)))
                    (case aF => exact (fun k_ hk => ⟨Kd.fresh' (Kd.R_lt (by (with_reducible repeat (first | apply Kd.R_alloc | apply Kd.R_drewN | apply Kd.R_drew)); exact HO_5.out)) k_ hk, Kd.fresh' (Kd.N_lt (by (with_reducible repeat (first | apply Kd.N_alloc | apply Kd.N_drewN | apply Kd.N_drew)); exact HO_7.out)) k_ hk, Kd.fresh' (Kd.R_lt (by (with_reducible repeat (first | apply Kd.R_alloc | apply Kd.R_drewN | apply Kd.R_drew)); exact HO_783001.out)) k_ hk, Kd.freshB (g := gb765) (o := .cells #[.int .i64 t760, .int .i64 t761, .int .i64 t762, .int .u64 t763] 83 (0, 0)) (by (with_reducible repeat (first | refine blk_drewN ?_ _ | refine blk_drew ?_ | refine blk_alloc ?_ _)); exact BK765.out) k_ hk, Kd.freshB (g := gb782) (o := .cells #[.int .i64 t774, .slice Ao23 t775.length co23] 31 (0, 0)) (by (with_reducible repeat (first | refine blk_drewN ?_ _ | refine blk_drew ?_ | refine blk_alloc ?_ _)); exact BK782.out) k_ hk⟩))
                    (case aO => exact (by (with_reducible repeat (first | apply Kd.N_alloc | apply Kd.N_drewN | apply Kd.N_drew)); exact HO_9.out))
                    (case aS => exact (below_size (by repeat (first | (with_reducible first | exact HB.out | apply below_alloc | apply pw_below_drewN | apply below_drew1 | refine below_set ?_ GE765.out | refine below_set ?_ GE782.out) | exact HB.out))))
                    (case aL => have := LMc42.out; omega)
                    intro v790 w45 ho hb hg hat
                    rw [← Ny789.out] at ho
                    have n0_ := Aside0.mk (Kd.R_over' (by (with_reducible repeat (first | apply Kd.R_alloc | apply Kd.R_drewN | apply Kd.R_drew)); exact HO_5.out) (Kd.N_typed (by (with_reducible repeat (first | apply Kd.N_alloc | apply Kd.N_drewN | apply Kd.N_drew)); exact HO_9.out)) (by decide) hg)
                    have n1_ := Aside0.mk (Kd.N_afterv (ok := (fun k_ => some k_ ≠ (.slice Ao17 t770.length co17 : Value).ownBlock ∧ some k_ ≠ (.slice Ao23 t775.length co23 : Value).ownBlock ∧ k_ ≠ gb765 ∧ k_ ≠ gb782)) (by (with_reducible repeat (first | apply Kd.N_alloc | apply Kd.N_drewN | apply Kd.N_drew)); exact Kd.N_mono HO_7.out (fun _ hk => ⟨⟨hk.1, ⟨hk.2.2.1, ⟨hk.2.2.2.1, hk.2.2.2.2⟩⟩⟩, hk.2.1⟩)) hg hat)
                    have n2_ := Aside0.mk (Kd.R_over' (by (with_reducible repeat (first | apply Kd.R_alloc | apply Kd.R_drewN | apply Kd.R_drew)); exact HO_783001.out) (Kd.N_typed (by (with_reducible repeat (first | apply Kd.N_alloc | apply Kd.N_drewN | apply Kd.N_drew)); exact HO_9.out)) (by decide) hg)
                    have n3_ := Aside0.mk (blk_grown (g := gb765) (o := .cells #[.int .i64 t760, .int .i64 t761, .int .i64 t762, .int .u64 t763] 83 (0, 0)) (by (with_reducible repeat (first | refine blk_drewN ?_ _ | refine blk_drew ?_ | refine blk_alloc ?_ _)); exact BK765.out) hg (Kd.N_ne HO_9.out BK765.out (by decide)))
                    have n4_ := Aside0.mk (blk_grown (g := gb782) (o := .cells #[.int .i64 t774, .slice Ao23 t775.length co23] 31 (0, 0)) (by (with_reducible repeat (first | refine blk_drewN ?_ _ | refine blk_drew ?_ | refine blk_alloc ?_ _)); exact BK782.out) hg (Kd.N_ne HO_9.out BK782.out (by decide)))
                    have n5_ := Aside0.mk (Kd.V_afterv (ok := (fun k_ => some k_ ≠ (.slice Ao17 t770.length co17 : Value).ownBlock ∧ some k_ ≠ (.slice (some ad785) t778.length co37 : Value).ownBlock ∧ some k_ ≠ (.slice Ao23 t775.length co23 : Value).ownBlock ∧ k_ ≠ gb765 ∧ k_ ≠ gb782)) (by (with_reducible repeat (first | apply Kd.V_alloc | apply Kd.V_drewN | apply Kd.V_drew)); exact Kd.V_mono HL785_0.out (fun _ hk => ⟨⟨hk.1.1, ⟨hk.2, ⟨hk.1.2.2.1, ⟨hk.1.2.2.2.1, hk.1.2.2.2.2⟩⟩⟩⟩, hk.1.2.1⟩)) hg hat)
                    have n6_ := Aside0.mk (Kd.V_afterv (ok := (fun k_ => some k_ ≠ (.slice Ao17 t770.length co17 : Value).ownBlock ∧ some k_ ≠ (.slice (some ad785) t778.length co37 : Value).ownBlock ∧ some k_ ≠ (.slice Ao23 t775.length co23 : Value).ownBlock ∧ k_ ≠ gb765 ∧ k_ ≠ gb782)) (by (with_reducible repeat (first | apply Kd.V_alloc | apply Kd.V_drewN | apply Kd.V_drew)); exact Kd.V_mono HL788_0.out (fun _ hk => ⟨⟨hk.1.1, ⟨hk.2, ⟨hk.1.2.2.1, ⟨hk.1.2.2.2.1, hk.1.2.2.2.2⟩⟩⟩⟩, hk.1.2.1⟩)) hg hat)
                    have n7_ := Aside0.mk (hb)
                    have n8_ := Aside0.mk (ho)
                    clear HO_5
                    clear HO_7
                    clear HO_783001
                    clear BK765
                    clear BK782
                    clear HL785_0
                    clear HL788_0
                    clear HB
                    clear HO_9
                    have HO_5 := n0_
                    have HO_7 := n1_
                    have HO_783001 := n2_
                    have BK765 := n3_
                    have BK782 := n4_
                    have HL785_0 := n5_
                    have HL788_0 := n6_
                    have HB := n7_
                    have HO791 := n8_
                    clear n0_ n1_ n2_ n3_ n4_ n5_ n6_ n7_ n8_
                    clear ho hb hg hat
                    refine hK.out _ _ ?_
                    clear hK K
                    refine norm_ (a' := ?_) ?_ ?_
                    rotate_left
                    · show Act.put _ (some 69) _ = _
                      simp only [Act.put, List.setIfInBounds_toArray, List.set_cons_zero, List.set_cons_succ, i64_w, i32_w]
                      rfl
                    refine pure_ (i := 13) (N := some 9) (v := ?_) (a' := ?_) #[true, true, true, true, true, true, true, true, true, true, true, true, true, true] rfl rfl (any_of HT_.out (by kernel_rfl)) (fun _ _ _ h => h) (Or.inl ⟨by rfl, ?_⟩) ?_ ?_
                    rotate_left
                    · intro w'
                      go_simp
                      with_reducible rfl
                    rotate_left
                    · simp only [Act.put, List.setIfInBounds_toArray, List.set_cons_zero, List.set_cons_succ, i64_w, i32_w]
                      rfl
                    refine done_ (done_of HT_.out (by kernel_rfl)) ?_
                    try go_wp2
                    go_roundg k2
                    case measure => have := HJ6.out; have := HK2.out; omega
                    case rel => exact ⟨(y789), (wrap64 (x10_2 + 1)), (by first | rfl | (simp; done) | (simp [*]; done)), H', ⟨by have := HJ6.out; have := HK2.out; omega⟩, ⟨by (with_reducible repeat (first | apply Kd.R_alloc | apply Kd.R_drewN | apply Kd.R_drew)); exact HO_5.out⟩, ⟨by (with_reducible repeat (first | apply Kd.N_alloc | apply Kd.N_drewN | apply Kd.N_drew)); exact Kd.N_mono HO_7.out (fun _ hk => ⟨hk.1.1, ⟨hk.2, ⟨hk.1.2.1, ⟨hk.1.2.2.1, hk.1.2.2.2⟩⟩⟩⟩)⟩, ⟨by (with_reducible repeat (first | apply Kd.N_alloc | apply Kd.N_drewN | apply Kd.N_drew)); exact HO791.out⟩, ⟨by (with_reducible repeat (first | apply Kd.R_alloc | apply Kd.R_drewN | apply Kd.R_drew)); exact HO_783001.out⟩, ⟨by (with_reducible repeat (first | refine blk_drewN ?_ _ | refine blk_drew ?_ | refine blk_alloc ?_ _)); exact BK765.out⟩, ⟨by (with_reducible repeat (first | refine blk_drewN ?_ _ | refine blk_drew ?_ | refine blk_alloc ?_ _)); exact BK782.out⟩, ⟨by repeat (first | (with_reducible first | exact HB.out | apply below_alloc | apply pw_below_drewN | apply below_drew1 | refine below_set ?_ GE765.out | refine below_set ?_ GE782.out) | exact HB.out)⟩⟩
                  · rw [if_neg c42] at H
                    exact absurd H (by simp)
                · rw [if_neg c40] at H
                  exact absurd H (by simp)
              · rw [if_neg c39] at H
                have c39b0 : decide (x10_2 < (t778.length : Int)) = false := decide_eq_false c39
                clear c39
                replace H := Option.bind_eq_some_iff.mp H
                obtain ⟨⟨t792, t795⟩, A460, H⟩ := H
                replace H : ((manifest_Whole.f k2 t774 t775).bind fun bt796 => (if t795 = 0 then (if (strOfNums t792).toList = (strOfNums t770).toList then (if bt796.2.2 = 0 then ((fingerprint_Of.f k2 t770).bind fun bt800 => (some (bt796.1 == bt800.1 && (bt796.2.1 == bt800.2)))) else (some false)) else (some false)) else (some false))) = some r := H
                have A46 := Aside0.mk A460
                clear A460
                replace H := Option.bind_eq_some_iff.mp H
                obtain ⟨⟨t796, t797, t798⟩, A470, H⟩ := H
                replace H : (if t795 = 0 then (if (strOfNums t792).toList = (strOfNums t770).toList then (if t798 = 0 then ((fingerprint_Of.f k2 t770).bind fun bt800 => (some (t796 == bt800.1 && (t797 == bt800.2)))) else (some false)) else (some false)) else (some false)) = some r := H
                have A47 := Aside0.mk A470
                clear A470
                by_cases c48 : t795 = 0
                · rw [if_pos c48] at H
                  have c48b0 : (t795 == 0) = true := beq_iff_eq.mpr c48
                  have c48b1 : (t795 != 0) = false := bne_eq_false_iff_eq.mpr c48
                  clear c48
                  by_cases c49 : (strOfNums t792).toList = (strOfNums t770).toList
                  · rw [if_pos c49] at H
                    have c49b0 : ((strOfNums t792).toList == (strOfNums t770).toList) = true := beq_iff_eq.mpr c49
                    have c49b1 : ((strOfNums t792).toList != (strOfNums t770).toList) = false := bne_eq_false_iff_eq.mpr c49
                    clear c49
                    by_cases c50 : t798 = 0
                    · rw [if_pos c50] at H
                      have c50b0 : (t798 == 0) = true := beq_iff_eq.mpr c50
                      have c50b1 : (t798 != 0) = false := bne_eq_false_iff_eq.mpr c50
                      clear c50
                      replace H := Option.bind_eq_some_iff.mp H
                      obtain ⟨⟨t800, t801⟩, A510, H⟩ := H
                      replace H : (some (t796 == t800 && (t797 == t801))) = some r := H
                      have A51 := Aside0.mk A510
                      clear A510
                      obtain rfl := Option.some.inj H
                      have hnb52 := NB782_765.out
                      have hnc52 := NB765_782.out
                      have hcz53_0 : wr.cell? ⟨gb782, 0, none⟩ = some (.int .i64 t774) := (blk_cell BK782.out 0).trans rfl
                      have hcz53_1 : wr.cell? ⟨gb782, 1, none⟩ = some (.slice Ao23 t775.length co23) := (blk_cell BK782.out 1).trans rfl
                      have hfz53_0 := blk_frozen BK782.out 0
                      have hfz53_1 := blk_frozen BK782.out 1
                      obtain ⟨Ao54, co54, eo54⟩ := Kd.N_slice HO_9.out
                      subst eo54
                      try go_wp2_with (first | ((with_reducible refine gate_callee (f := 18) rfl ?_); refine goesL_ (some 73) rfl rfl Try.func18 (by kernel_rfl) rfl #[.agg #[.int .i64 t774, .slice Ao23 t775.length co23], .slice Ao54 x9_2.length co54] rfl (by (try simp only [List.map_toArray, List.map_cons, List.map_nil]); first | done | rfl | (simp only [List.length_drop, List.length_take]; rfl)) ?_; (with_reducible refine (manifest_Assemble.calls t774 _ _ t775 _ _ x9_2 t792 t795 _ ?side1 ?side2 ?side3 ?side4 A46.out).mono ?_); (case side1 => repeat (first | exact (Kd.R_reads' HO_783001.out).2.2 | (with_reducible refine Kd.C_alloc ?_ _) | (with_reducible refine Kd.C_drewN ?_ _) | (with_reducible refine Kd.C_drew ?_))); (case side2 => exact (Kd.R_reads' HO_783001.out).2.1); (case side3 => repeat (first | exact (Kd.N_reads' HO_9.out).2.2 | (with_reducible refine Kd.C_alloc ?_ _) | (with_reducible refine Kd.C_drewN ?_ _) | (with_reducible refine Kd.C_drew ?_))); (case side4 => exact (Kd.N_reads' HO_9.out).2.1); rintro e w55 ⟨v793, rfl, ho0, hb⟩; refine ⟨_, rfl, ?_⟩; have n0_ := Aside0.mk (Kd.R_elder' (by (with_reducible repeat (first | apply Kd.R_alloc | apply Kd.R_drewN | apply Kd.R_drew)); exact HO_5.out) (Kd.R_base ho0) hb); have n1_ := Aside0.mk (Kd.N_elder' (by (with_reducible repeat (first | apply Kd.N_alloc | apply Kd.N_drewN | apply Kd.N_drew)); exact HO_7.out) (Kd.R_base ho0) hb); have n2_ := Aside0.mk (Kd.N_elder' (by (with_reducible repeat (first | apply Kd.N_alloc | apply Kd.N_drewN | apply Kd.N_drew)); exact HO_9.out) (Kd.R_base ho0) hb); have n3_ := Aside0.mk (Kd.R_below (by (with_reducible repeat (first | apply Kd.R_alloc | apply Kd.R_drewN | apply Kd.R_drew)); exact HO_783001.out) hb); have n4_ := Aside0.mk (Kd.R_lower (Kd.R_new' ho0 (Kd.R_lt (by (with_reducible repeat (first | apply Kd.R_alloc | apply Kd.R_drewN | apply Kd.R_drew)); exact HO_5.out))) (below_size (by repeat (first | (with_reducible first | exact HB.out | apply below_alloc | apply pw_below_drewN | apply below_drew1 | refine below_set ?_ GE765.out | refine below_set ?_ GE782.out) | exact HB.out)))); have n5_ := Aside0.mk (blk_below (g := gb765) (o := .cells #[.int .i64 t760, .int .i64 t761, .int .i64 t762, .int .u64 t763] 83 (0, 0)) (by (with_reducible repeat (first | refine blk_drewN ?_ _ | refine blk_drew ?_ | refine blk_alloc ?_ _)); exact BK765.out) hb); have n6_ := Aside0.mk (blk_below (g := gb782) (o := .cells #[.int .i64 t774, .slice Ao23 t775.length co23] 31 (0, 0)) (by (with_reducible repeat (first | refine blk_drewN ?_ _ | refine blk_drew ?_ | refine blk_alloc ?_ _)); exact BK782.out) hb); have n7_ := Aside0.mk (below_step (by repeat (first | (with_reducible first | exact HB.out | apply below_alloc | apply pw_below_drewN | apply below_drew1 | refine below_set ?_ GE765.out | refine below_set ?_ GE782.out) | exact HB.out)) hb); clear HO_5; clear HO_7; clear HO_9; clear HO_783001; clear BK765; clear BK782; clear HB; have HO_5 := n0_; have HO_7 := n1_; have HO_9 := n2_; have HO_783001 := n3_; have HO794 := n4_; have BK765 := n5_; have BK782 := n6_; have HB := n7_; clear n0_ n1_ n2_ n3_ n4_ n5_ n6_ n7_; (try clear hb); (try clear hb2); (try clear hk); (try clear hi); (try clear ho0); have hcz56_0 : w55.cell? ⟨gb782, 0, none⟩ = some (.int .i64 t774) := (blk_cell BK782.out 0).trans rfl; have hcz56_1 : w55.cell? ⟨gb782, 1, none⟩ = some (.slice Ao23 t775.length co23) := (blk_cell BK782.out 1).trans rfl; have hfz56_0 := blk_frozen BK782.out 0; have hfz56_1 := blk_frozen BK782.out 1) | ((with_reducible refine gate_callee (f := 41) rfl ?_); refine goesL_ (some 78) rfl rfl Try.func41 (by kernel_rfl) rfl #[.agg #[.int .i64 t774, .slice Ao23 t775.length co23]] rfl (by (try simp only [List.map_toArray, List.map_cons, List.map_nil]); first | done | rfl | (simp only [List.length_drop, List.length_take]; rfl)) ?_; (with_reducible refine (manifest_Whole.calls k2 t774 _ _ t775 t796 t797 t798 _ ?side1 ?side2 A47.out).mono ?_); (case side1 => repeat (first | exact (Kd.R_reads' HO_783001.out).2.2 | (with_reducible refine Kd.C_alloc ?_ _) | (with_reducible refine Kd.C_drewN ?_ _) | (with_reducible refine Kd.C_drew ?_))); (case side2 => exact (Kd.R_reads' HO_783001.out).2.1); rintro e w57 ⟨rfl, hb⟩; refine ⟨_, rfl, ?_⟩; have n0_ := Aside0.mk (Kd.R_below (by (with_reducible repeat (first | apply Kd.R_alloc | apply Kd.R_drewN | apply Kd.R_drew)); exact HO_5.out) hb); have n1_ := Aside0.mk (Kd.N_below (by (with_reducible repeat (first | apply Kd.N_alloc | apply Kd.N_drewN | apply Kd.N_drew)); exact HO_7.out) hb); have n2_ := Aside0.mk (Kd.N_below (by (with_reducible repeat (first | apply Kd.N_alloc | apply Kd.N_drewN | apply Kd.N_drew)); exact HO_9.out) hb); have n3_ := Aside0.mk (Kd.R_below (by (with_reducible repeat (first | apply Kd.R_alloc | apply Kd.R_drewN | apply Kd.R_drew)); exact HO_783001.out) hb); have n4_ := Aside0.mk (Kd.R_below (by (with_reducible repeat (first | apply Kd.R_alloc | apply Kd.R_drewN | apply Kd.R_drew)); exact HO794.out) hb); have n5_ := Aside0.mk (blk_below (g := gb765) (o := .cells #[.int .i64 t760, .int .i64 t761, .int .i64 t762, .int .u64 t763] 83 (0, 0)) (by (with_reducible repeat (first | refine blk_drewN ?_ _ | refine blk_drew ?_ | refine blk_alloc ?_ _)); exact BK765.out) hb); have n6_ := Aside0.mk (blk_below (g := gb782) (o := .cells #[.int .i64 t774, .slice Ao23 t775.length co23] 31 (0, 0)) (by (with_reducible repeat (first | refine blk_drewN ?_ _ | refine blk_drew ?_ | refine blk_alloc ?_ _)); exact BK782.out) hb); have n7_ := Aside0.mk (below_step (by repeat (first | (with_reducible first | exact HB.out | apply below_alloc | apply pw_below_drewN | apply below_drew1 | refine below_set ?_ GE765.out | refine below_set ?_ GE782.out) | exact HB.out)) hb); clear HO_5; clear HO_7; clear HO_9; clear HO_783001; clear HO794; clear BK765; clear BK782; clear HB; have HO_5 := n0_; have HO_7 := n1_; have HO_9 := n2_; have HO_783001 := n3_; have HO794 := n4_; have BK765 := n5_; have BK782 := n6_; have HB := n7_; clear n0_ n1_ n2_ n3_ n4_ n5_ n6_ n7_; (try clear hb); (try clear hb2); (try clear hk); (try clear hi)) | ((with_reducible refine gate_dst (N := 13) rfl ?_); (try (refine gate_guard (by rfl) ?_; dsimp only)); refine box_event ?hg (N := 13) ?hd (cs := #[.int .u64 0, .int .i64 0]) (t := 51) ?hr ?_; (case hd => rfl); (case hg => rfl); (case hr => first | (go_simp; done) | (go_simp; rfl)); intro gb799 hg w58 hbox hb; have n0_ := Aside0.mk (Kd.R_below (by (with_reducible repeat (first | apply Kd.R_alloc | apply Kd.R_drewN | apply Kd.R_drew)); exact HO_5.out) hb); have n1_ := Aside0.mk (Kd.N_below (Kd.N_elderB (by (with_reducible repeat (first | apply Kd.N_alloc | apply Kd.N_drewN | apply Kd.N_drew)); exact HO_7.out) gb799 (Nat.le_of_eq hg.symm)) hb); have n2_ := Aside0.mk (Kd.N_below (Kd.N_elderB (by (with_reducible repeat (first | apply Kd.N_alloc | apply Kd.N_drewN | apply Kd.N_drew)); exact HO_9.out) gb799 (Nat.le_of_eq hg.symm)) hb); have n3_ := Aside0.mk (Kd.R_below (Kd.R_elderB (by (with_reducible repeat (first | apply Kd.R_alloc | apply Kd.R_drewN | apply Kd.R_drew)); exact HO_783001.out) gb799 (Nat.le_of_eq hg.symm)) hb); have n4_ := Aside0.mk (Kd.R_below (by (with_reducible repeat (first | apply Kd.R_alloc | apply Kd.R_drewN | apply Kd.R_drew)); exact HO794.out) hb); have n5_ := Aside0.mk (blk_below (g := gb765) (o := .cells #[.int .i64 t760, .int .i64 t761, .int .i64 t762, .int .u64 t763] 83 (0, 0)) (by (with_reducible repeat (first | refine blk_drewN ?_ _ | refine blk_drew ?_ | refine blk_alloc ?_ _)); exact BK765.out) hb); have n6_ := Aside0.mk (blk_below (g := gb782) (o := .cells #[.int .i64 t774, .slice Ao23 t775.length co23] 31 (0, 0)) (by (with_reducible repeat (first | refine blk_drewN ?_ _ | refine blk_drew ?_ | refine blk_alloc ?_ _)); exact BK782.out) hb); have n7_ := Aside0.mk (below_step (by repeat (first | (with_reducible first | exact HB.out | apply below_alloc | apply pw_below_drewN | apply below_drew1 | refine below_set ?_ GE765.out | refine below_set ?_ GE782.out) | exact HB.out)) hb); have n8_ := Aside0.mk (hbox); have n9_ := Aside0.mk ((by rw [hg]; exact (below_size (by repeat (first | (with_reducible first | exact HB.out | apply below_alloc | apply pw_below_drewN | apply below_drew1 | refine below_set ?_ GE765.out | refine below_set ?_ GE782.out) | exact HB.out))) : w.heap.size ≤ gb799)); have n10_ := Aside0.mk ((by rw [hg]; exact (below_size (by repeat (first | (with_reducible first | exact HB.out | apply below_alloc | apply pw_below_drewN | apply below_drew1 | refine below_set ?_ GE765.out | refine below_set ?_ GE782.out) | exact HB.out))) : w.heap.size ≤ gb799)); have n11_ := Aside0.mk ((by rw [hg]; exact Nat.ne_of_lt (blk_lt (g := gb765) (o := .cells #[.int .i64 t760, .int .i64 t761, .int .i64 t762, .int .u64 t763] 83 (0, 0)) (by (with_reducible repeat (first | refine blk_drewN ?_ _ | refine blk_drew ?_ | refine blk_alloc ?_ _)); exact BK765.out)) : gb765 ≠ gb799)); have n12_ := Aside0.mk ((by rw [hg]; exact Nat.ne_of_gt (blk_lt (g := gb765) (o := .cells #[.int .i64 t760, .int .i64 t761, .int .i64 t762, .int .u64 t763] 83 (0, 0)) (by (with_reducible repeat (first | refine blk_drewN ?_ _ | refine blk_drew ?_ | refine blk_alloc ?_ _)); exact BK765.out)) : gb799 ≠ gb765)); have n13_ := Aside0.mk ((by rw [hg]; exact Nat.ne_of_lt (blk_lt (g := gb782) (o := .cells #[.int .i64 t774, .slice Ao23 t775.length co23] 31 (0, 0)) (by (with_reducible repeat (first | refine blk_drewN ?_ _ | refine blk_drew ?_ | refine blk_alloc ?_ _)); exact BK782.out)) : gb782 ≠ gb799)); have n14_ := Aside0.mk ((by rw [hg]; exact Nat.ne_of_gt (blk_lt (g := gb782) (o := .cells #[.int .i64 t774, .slice Ao23 t775.length co23] 31 (0, 0)) (by (with_reducible repeat (first | refine blk_drewN ?_ _ | refine blk_drew ?_ | refine blk_alloc ?_ _)); exact BK782.out)) : gb799 ≠ gb782)); clear HO_5; clear HO_7; clear HO_9; clear HO_783001; clear HO794; clear BK765; clear BK782; clear HB; have HO_5 := n0_; have HO_7 := n1_; have HO_9 := n2_; have HO_783001 := n3_; have HO794 := n4_; have BK765 := n5_; have BK782 := n6_; have HB := n7_; have BK799 := n8_; have GW799 := n9_; have GE799 := n10_; have NB765_799 := n11_; have NB799_765 := n12_; have NB782_799 := n13_; have NB799_782 := n14_; clear n0_ n1_ n2_ n3_ n4_ n5_ n6_ n7_ n8_ n9_ n10_ n11_ n12_ n13_ n14_; clear hb hbox hg; have hnb59 := NB799_765.out; have hnc59 := NB765_799.out; have hnb60 := NB799_782.out; have hnc60 := NB782_799.out; have hcz61_0 : w58.cell? ⟨gb799, 0, none⟩ = some (.int .u64 0) := (blk_cell BK799.out 0).trans rfl; have hcz61_1 : w58.cell? ⟨gb799, 1, none⟩ = some (.int .i64 0) := (blk_cell BK799.out 1).trans rfl; have hfz61_0 := blk_frozen BK799.out 0; have hfz61_1 := blk_frozen BK799.out 1))
                      have n0_ : Aside0 (Kd.R (Kd.int .u8) 5 ((w58.setCell ⟨gb799, 0, none⟩ (.int .u64 t796)).setCell ⟨gb799, 1, none⟩ (.int .i64 t797)) w.heap.size (fun k_ => some k_ ≠ (v793 : Value).ownBlock) (.slice Ao17 t770.length co17) t770) := ⟨by (with_reducible repeat (first | apply Kd.R_alloc | apply Kd.R_drewN | apply Kd.R_drew)); exact Kd.R_mono (Kd.R_far (p := ⟨gb799, 1, none⟩) (Kd.R_far (p := ⟨gb799, 0, none⟩) (Kd.R_types HO_5.out BK799.out (by decide)) (fun _ hk => hk.2) (.int .u64 t796)) (fun _ hk => hk.2) (.int .i64 t797)) (fun _ hk => hk.1.2)⟩
                      have n1_ : Aside0 (Kd.N (Kd.slice 5 (Kd.int .u8)) 34 ((w58.setCell ⟨gb799, 0, none⟩ (.int .u64 t796)).setCell ⟨gb799, 1, none⟩ (.int .i64 t797)) w.heap.size (fun k_ => some k_ ≠ (.slice Ao17 t770.length co17 : Value).ownBlock ∧ some k_ ≠ (.slice Ao54 x9_2.length co54 : Value).ownBlock ∧ some k_ ≠ (.slice Ao23 t775.length co23 : Value).ownBlock ∧ some k_ ≠ (v793 : Value).ownBlock ∧ k_ ≠ gb765 ∧ k_ ≠ gb782 ∧ k_ ≠ gb799) (.slice Ao37 t778.length co37) t778) := ⟨by (with_reducible repeat (first | apply Kd.N_alloc | apply Kd.N_drewN | apply Kd.N_drew)); exact Kd.N_mono (Kd.N_far (p := ⟨gb799, 1, none⟩) (Kd.N_far (p := ⟨gb799, 0, none⟩) (Kd.N_mono HO_7.out (fun k_ hk => (⟨hk, hk.2⟩ : _ ∧ k_ ≠ gb799))) (fun _ hk => hk.2) (.int .u64 t796)) (fun _ hk => hk.2) (.int .i64 t797)) (fun _ hk => ⟨hk.1.1.1.1, ⟨hk.1.1.1.2.1, ⟨hk.1.1.1.2.2.1, ⟨hk.1.1.2, ⟨hk.1.1.1.2.2.2.1, ⟨hk.1.1.1.2.2.2.2, hk.1.2⟩⟩⟩⟩⟩⟩)⟩
                      have n2_ : Aside0 (Kd.N k53 53 ((w58.setCell ⟨gb799, 0, none⟩ (.int .u64 t796)).setCell ⟨gb799, 1, none⟩ (.int .i64 t797)) w.heap.size (fun k_ => some k_ ≠ (.slice Ao17 t770.length co17 : Value).ownBlock ∧ some k_ ≠ (.slice Ao37 t778.length co37 : Value).ownBlock ∧ some k_ ≠ (.slice Ao23 t775.length co23 : Value).ownBlock ∧ some k_ ≠ (v793 : Value).ownBlock ∧ k_ ≠ gb765 ∧ k_ ≠ gb782 ∧ k_ ≠ gb799) (.slice Ao54 x9_2.length co54) x9_2) := ⟨by (with_reducible repeat (first | apply Kd.N_alloc | apply Kd.N_drewN | apply Kd.N_drew)); exact Kd.N_mono (Kd.N_far (p := ⟨gb799, 1, none⟩) (Kd.N_far (p := ⟨gb799, 0, none⟩) (Kd.N_mono HO_9.out (fun k_ hk => (⟨hk, hk.2⟩ : _ ∧ k_ ≠ gb799))) (fun _ hk => hk.2) (.int .u64 t796)) (fun _ hk => hk.2) (.int .i64 t797)) (fun _ hk => ⟨hk.1.1.1.1, ⟨hk.1.1.1.2.1, ⟨hk.1.1.1.2.2.1, ⟨hk.1.1.2, ⟨hk.1.1.1.2.2.2.1, ⟨hk.1.1.1.2.2.2.2, hk.1.2⟩⟩⟩⟩⟩⟩)⟩
                      have n3_ : Aside0 (Kd.R k51 51 ((w58.setCell ⟨gb799, 0, none⟩ (.int .u64 t796)).setCell ⟨gb799, 1, none⟩ (.int .i64 t797)) w.heap.size (fun k_ => k_ ≠ gb799) (.slice Ao23 t775.length co23) t775) := ⟨by (with_reducible repeat (first | apply Kd.R_alloc | apply Kd.R_drewN | apply Kd.R_drew)); exact Kd.R_mono (Kd.R_far (p := ⟨gb799, 1, none⟩) (Kd.R_far (p := ⟨gb799, 0, none⟩) (Kd.R_mono HO_783001.out (fun k_ hk => (⟨hk, hk.2⟩ : _ ∧ k_ ≠ gb799))) (fun _ hk => hk.2) (.int .u64 t796)) (fun _ hk => hk.2) (.int .i64 t797)) (fun _ hk => hk.1.2)⟩
                      have n4_ : Aside0 (Kd.R (Kd.int .u8) 5 ((w58.setCell ⟨gb799, 0, none⟩ (.int .u64 t796)).setCell ⟨gb799, 1, none⟩ (.int .i64 t797)) w.heap.size (fun k_ => some k_ ≠ (.slice Ao17 t770.length co17 : Value).ownBlock) v793 t792) := ⟨by (with_reducible repeat (first | apply Kd.R_alloc | apply Kd.R_drewN | apply Kd.R_drew)); exact Kd.R_mono (Kd.R_far (p := ⟨gb799, 1, none⟩) (Kd.R_far (p := ⟨gb799, 0, none⟩) (Kd.R_types HO794.out BK799.out (by decide)) (fun _ hk => hk.2) (.int .u64 t796)) (fun _ hk => hk.2) (.int .i64 t797)) (fun _ hk => hk.1.2)⟩
                      have n5_ : Aside0 (((w58.setCell ⟨gb799, 0, none⟩ (.int .u64 t796)).setCell ⟨gb799, 1, none⟩ (.int .i64 t797)).heap[gb765]? = some (.cells #[.int .i64 t760, .int .i64 t761, .int .i64 t762, .int .u64 t763] 83 (0, 0))) := ⟨by (with_reducible repeat (first | refine blk_drewN ?_ _ | refine blk_drew ?_ | refine blk_alloc ?_ _)); refine blk_far ?_ NB765_799.out _; (with_reducible repeat (first | refine blk_drewN ?_ _ | refine blk_drew ?_ | refine blk_alloc ?_ _)); refine blk_far ?_ NB765_799.out _; (with_reducible repeat (first | refine blk_drewN ?_ _ | refine blk_drew ?_ | refine blk_alloc ?_ _)); exact BK765.out⟩
                      have n6_ : Aside0 (((w58.setCell ⟨gb799, 0, none⟩ (.int .u64 t796)).setCell ⟨gb799, 1, none⟩ (.int .i64 t797)).heap[gb782]? = some (.cells #[.int .i64 t774, .slice Ao23 t775.length co23] 31 (0, 0))) := ⟨by (with_reducible repeat (first | refine blk_drewN ?_ _ | refine blk_drew ?_ | refine blk_alloc ?_ _)); refine blk_far ?_ NB782_799.out _; (with_reducible repeat (first | refine blk_drewN ?_ _ | refine blk_drew ?_ | refine blk_alloc ?_ _)); refine blk_far ?_ NB782_799.out _; (with_reducible repeat (first | refine blk_drewN ?_ _ | refine blk_drew ?_ | refine blk_alloc ?_ _)); exact BK782.out⟩
                      have n7_ : Aside0 (((w58.setCell ⟨gb799, 0, none⟩ (.int .u64 t796)).setCell ⟨gb799, 1, none⟩ (.int .i64 t797)).heap[gb799]? = some (.cells #[.int .u64 t796, .int .i64 t797] 51 (0, 0))) := ⟨by (with_reducible repeat (first | refine blk_drewN ?_ _ | refine blk_drew ?_ | refine blk_alloc ?_ _)); refine blk_put (cs := #[.int .u64 t796, .int .i64 0]) ?_ 1 _ rfl; (with_reducible repeat (first | refine blk_drewN ?_ _ | refine blk_drew ?_ | refine blk_alloc ?_ _)); refine blk_put (cs := #[.int .u64 0, .int .i64 0]) ?_ 0 _ rfl; (with_reducible repeat (first | refine blk_drewN ?_ _ | refine blk_drew ?_ | refine blk_alloc ?_ _)); exact BK799.out⟩
                      have n8_ : Aside0 (Below w.heap.size w ((w58.setCell ⟨gb799, 0, none⟩ (.int .u64 t796)).setCell ⟨gb799, 1, none⟩ (.int .i64 t797))) := ⟨by repeat (first | (with_reducible first | exact HB.out | apply below_alloc | apply pw_below_drewN | apply below_drew1 | refine below_set ?_ GE765.out | refine below_set ?_ GE782.out | refine below_set ?_ GE799.out) | exact HB.out)⟩
                      (try clear HO_5)
                      (try clear HO_7)
                      (try clear HO_9)
                      (try clear HO_783001)
                      (try clear HO794)
                      (try clear BK765)
                      (try clear BK782)
                      (try clear BK799)
                      (try clear HB)
                      generalize ((w58.setCell ⟨gb799, 0, none⟩ (.int .u64 t796)).setCell ⟨gb799, 1, none⟩ (.int .i64 t797)) = w62 at n0_ n1_ n2_ n3_ n4_ n5_ n6_ n7_ n8_ ⊢
                      have HO_5 := n0_
                      have HO_7 := n1_
                      have HO_9 := n2_
                      have HO_783001 := n3_
                      have HO794 := n4_
                      have BK765 := n5_
                      have BK782 := n6_
                      have BK799 := n7_
                      have HB := n8_
                      clear n0_ n1_ n2_ n3_ n4_ n5_ n6_ n7_ n8_
                      have n0_ := Aside0.mk (Kd.R_drew HO_5.out)
                      have n1_ := Aside0.mk (Kd.N_drew HO_7.out)
                      have n2_ := Aside0.mk (Kd.N_drew HO_9.out)
                      have n3_ := Aside0.mk (Kd.R_drew HO_783001.out)
                      have n4_ := Aside0.mk (Kd.R_drew HO794.out)
                      have n5_ := Aside0.mk (blk_drew BK765.out)
                      have n6_ := Aside0.mk (blk_drew BK782.out)
                      have n7_ := Aside0.mk (blk_drew BK799.out)
                      have n8_ := Aside0.mk (below_drew1 HB.out)
                      clear HO_5
                      clear HO_7
                      clear HO_9
                      clear HO_783001
                      clear HO794
                      clear BK765
                      clear BK782
                      clear BK799
                      clear HB
                      have HO_5 := n0_
                      have HO_7 := n1_
                      have HO_9 := n2_
                      have HO_783001 := n3_
                      have HO794 := n4_
                      have BK765 := n5_
                      have BK782 := n6_
                      have BK799 := n7_
                      have HB := n8_
                      clear n0_ n1_ n2_ n3_ n4_ n5_ n6_ n7_ n8_
                      have hcv64 := own_string (P := Try.prog) Try.underlying34 Try.underlying5 Try.underlying9 (Kd.own_of_R HO794.out)
                      have hcv65 := own_string (P := Try.prog) Try.underlying34 Try.underlying5 Try.underlying9 (Kd.own_of_R HO_5.out)
                      have HCV64 := Aside0.mk (fun (w_ : World) (sB_ : Below (w62.drew).heap.size (w62.drew) w_) => own_string (P := Try.prog) Try.underlying34 Try.underlying5 Try.underlying9 (Kd.own_of_R (Kd.R_below (by first | exact HO794.out | exact Kd.R_drew HO794.out) sB_)))
                      have HCV65 := Aside0.mk (fun (w_ : World) (sB_ : Below (w62.drew).heap.size (w62.drew) w_) => own_string (P := Try.prog) Try.underlying34 Try.underlying5 Try.underlying9 (Kd.own_of_R (Kd.R_below (by first | exact HO_5.out | exact Kd.R_drew HO_5.out) sB_)))
                      refine start_ (n := 20) (S := fun w' => w'.cell? ⟨gb799, 0, none⟩ = some (.int .u64 t796) ∧ w'.cell? ⟨gb799, 1, none⟩ = some (.int .i64 t797) ∧ Below (w62.drew).heap.size (w62.drew) w') (ds := []) #[false, false, false, false, false, false, false, false, false, false, false, false, false, false, false, false, false, false, false, false] (by kernel_rfl) rfl rfl ⟨(blk_cell BK799.out 0).trans rfl, (blk_cell BK799.out 1).trans rfl, Below.refl _ _⟩ (fun hHeld => ?_); refine with_tabW stockyardlaw25_ManifestBack.tab16 stockyardlaw25_ManifestBack.bits16 (fun HT_ HW_ => ?_)
                      generalize w62.drew = w63 at HO_5 HO_7 HO_9 HO_783001 HO794 BK765 BK782 BK799 HB hHeld HCV64 HCV65 ⊢
                      refine pure_ (i := 0) (N := some 81) (v := ?_) (a' := ?_) #[true, false, false, false, false, false, false, false, false, false, false, false, false, false, false, false, false, false, false, false] rfl rfl (any_of HT_.out (by kernel_rfl)) (fun _ _ _ h => h) (Or.inl ⟨by rfl, ?_⟩) ?_ ?_
                      rotate_left
                      · intro w'
                        go_simp
                        with_reducible rfl
                      rotate_left
                      · simp only [Act.put, List.setIfInBounds_toArray, List.set_cons_zero, List.set_cons_succ, i64_w, i32_w]
                        rfl
                      refine pure_ (i := 1) (N := some 82) (v := ?_) (a' := ?_) #[true, true, false, false, false, false, false, false, false, false, false, false, false, false, false, false, false, false, false, false] rfl rfl (any_of HT_.out (by kernel_rfl)) (fun _ _ _ h => h) (Or.inl ⟨by rfl, ?_⟩) ?_ ?_
                      rotate_left
                      · intro w'
                        go_simp
                        with_reducible rfl
                      rotate_left
                      · simp only [Act.put, List.setIfInBounds_toArray, List.set_cons_zero, List.set_cons_succ, i64_w, i32_w]
                        rfl
                      refine pure_ (i := 2) (N := some 83) (v := ?_) (a' := ?_) #[true, true, true, false, false, false, false, false, false, false, false, false, false, false, false, false, false, false, false, false] rfl rfl (any_of HT_.out (by kernel_rfl)) (fun _ _ _ h => h) (Or.inl ⟨by rfl, ?_⟩) ?_ ?_
                      rotate_left
                      · intro w'
                        go_simp
                        with_reducible rfl
                      rotate_left
                      · simp only [Act.put, List.setIfInBounds_toArray, List.set_cons_zero, List.set_cons_succ, i64_w, i32_w]
                        rfl
                      refine pure_ (i := 3) (N := some 84) (v := ?_) (a' := ?_) #[true, true, true, true, false, false, false, false, false, false, false, false, false, false, false, false, false, false, false, false] rfl rfl (any_of HT_.out (by kernel_rfl)) (fun _ _ _ h => h) (Or.inl ⟨by rfl, ?_⟩) ?_ ?_
                      rotate_left
                      · intro w'
                        go_simp
                        with_reducible rfl
                      rotate_left
                      · simp only [Act.put, List.setIfInBounds_toArray, List.set_cons_zero, List.set_cons_succ, i64_w, i32_w]
                        rfl
                      refine take_ (i := 4) (N := some 85) (v := ?_) (a' := ?_) #[true, true, true, true, true, false, false, false, false, false, false, false, false, false, false, false, false, false, false, false] rfl rfl (take_ofW HT_.out HW_.out (by kernel_rfl)) (fun _ _ _ h => h) (Or.inl ⟨by rfl, ?_⟩) hHeld ?_ ?_
                      rotate_left
                      · rintro w' ⟨s0, s1, sB⟩
                        have hcv_ := HCV64.out w' sB
                        go_simp
                        try with_reducible rfl
                      rotate_left
                      · simp only [Act.put, List.setIfInBounds_toArray, List.set_cons_zero, List.set_cons_succ, i64_w, i32_w]
                        rfl
                      refine pure_ (i := 5) (N := some 86) (v := ?_) (a' := ?_) #[true, true, true, true, true, true, false, false, false, false, false, false, false, false, false, false, false, false, false, false] rfl rfl (any_of HT_.out (by kernel_rfl)) (fun _ _ _ h => h) (Or.inl ⟨by rfl, ?_⟩) ?_ ?_
                      rotate_left
                      · intro w'
                        go_simp
                        with_reducible rfl
                      rotate_left
                      · simp only [Act.put, List.setIfInBounds_toArray, List.set_cons_zero, List.set_cons_succ, i64_w, i32_w]
                        rfl
                      refine take_ (i := 6) (N := some 87) (v := ?_) (a' := ?_) #[true, true, true, true, true, true, true, false, false, false, false, false, false, false, false, false, false, false, false, false] rfl rfl (take_ofW HT_.out HW_.out (by kernel_rfl)) (fun _ _ _ h => h) (Or.inl ⟨by rfl, ?_⟩) hHeld ?_ ?_
                      rotate_left
                      · rintro w' ⟨s0, s1, sB⟩
                        have hcv_ := HCV65.out w' sB
                        go_simp
                        try with_reducible rfl
                      rotate_left
                      · simp only [Act.put, List.setIfInBounds_toArray, List.set_cons_zero, List.set_cons_succ, i64_w, i32_w]
                        rfl
                      refine pure_ (i := 7) (N := some 88) (v := ?_) (a' := ?_) #[true, true, true, true, true, true, true, true, false, false, false, false, false, false, false, false, false, false, false, false] rfl rfl (any_of HT_.out (by kernel_rfl)) (fun _ _ _ h => h) (Or.inl ⟨by rfl, ?_⟩) ?_ ?_
                      rotate_left
                      · intro w'
                        go_simp
                        with_reducible rfl
                      rotate_left
                      · simp only [Act.put, List.setIfInBounds_toArray, List.set_cons_zero, List.set_cons_succ, i64_w, i32_w]
                        rfl
                      refine pure_ (i := 8) (N := some 89) (v := ?_) (a' := ?_) #[true, true, true, true, true, true, true, true, true, false, false, false, false, false, false, false, false, false, false, false] rfl rfl (any_of HT_.out (by kernel_rfl)) (fun _ _ _ h => h) (Or.inl ⟨by rfl, ?_⟩) ?_ ?_
                      rotate_left
                      · intro w'
                        go_simp
                        with_reducible rfl
                      rotate_left
                      · simp only [Act.put, List.setIfInBounds_toArray, List.set_cons_zero, List.set_cons_succ, i64_w, i32_w]
                        rfl
                      refine pure_ (i := 9) (N := some 90) (v := ?_) (a' := ?_) #[true, true, true, true, true, true, true, true, true, true, false, false, false, false, false, false, false, false, false, false] rfl rfl (any_of HT_.out (by kernel_rfl)) (fun _ _ _ h => h) (Or.inl ⟨by rfl, ?_⟩) ?_ ?_
                      rotate_left
                      · intro w'
                        go_simp
                        with_reducible rfl
                      rotate_left
                      · simp only [Act.put, List.setIfInBounds_toArray, List.set_cons_zero, List.set_cons_succ, i64_w, i32_w]
                        rfl
                      refine pure_ (i := 10) (N := some 91) (v := ?_) (a' := ?_) #[true, true, true, true, true, true, true, true, true, true, true, false, false, false, false, false, false, false, false, false] rfl rfl (any_of HT_.out (by kernel_rfl)) (fun _ _ _ h => h) (Or.inl ⟨by rfl, ?_⟩) ?_ ?_
                      rotate_left
                      · intro w'
                        go_simp
                        with_reducible rfl
                      rotate_left
                      · simp only [Act.put, List.setIfInBounds_toArray, List.set_cons_zero, List.set_cons_succ, i64_w, i32_w]
                        rfl
                      refine pure_ (i := 11) (N := some 92) (v := ?_) (a' := ?_) #[true, true, true, true, true, true, true, true, true, true, true, true, false, false, false, false, false, false, false, false] rfl rfl (any_of HT_.out (by kernel_rfl)) (fun _ _ _ h => h) (Or.inl ⟨by rfl, ?_⟩) ?_ ?_
                      rotate_left
                      · intro w'
                        go_simp
                        with_reducible rfl
                      rotate_left
                      · simp only [Act.put, List.setIfInBounds_toArray, List.set_cons_zero, List.set_cons_succ, i64_w, i32_w]
                        rfl
                      refine pure_ (i := 12) (N := some 93) (v := ?_) (a' := ?_) #[true, true, true, true, true, true, true, true, true, true, true, true, true, false, false, false, false, false, false, false] rfl rfl (any_of HT_.out (by kernel_rfl)) (fun _ _ _ h => h) (Or.inl ⟨by rfl, ?_⟩) ?_ ?_
                      rotate_left
                      · intro w'
                        go_simp
                        with_reducible rfl
                      rotate_left
                      · simp only [Act.put, List.setIfInBounds_toArray, List.set_cons_zero, List.set_cons_succ, i64_w, i32_w]
                        rfl
                      refine pure_ (i := 13) (N := some 94) (v := ?_) (a' := ?_) #[true, true, true, true, true, true, true, true, true, true, true, true, true, true, false, false, false, false, false, false] rfl rfl (any_of HT_.out (by kernel_rfl)) (fun _ _ _ h => h) (Or.inl ⟨by rfl, ?_⟩) ?_ ?_
                      rotate_left
                      · intro w'
                        go_simp
                        with_reducible rfl
                      rotate_left
                      · simp only [Act.put, List.setIfInBounds_toArray, List.set_cons_zero, List.set_cons_succ, i64_w, i32_w]
                        rfl
                      refine pure_ (i := 15) (N := some 96) (v := ?_) (a' := ?_) #[true, true, true, true, true, true, true, true, true, true, true, true, true, true, false, true, false, false, false, false] rfl rfl (any_of HT_.out (by kernel_rfl)) (fun _ _ _ h => h) (Or.inl ⟨by rfl, ?_⟩) ?_ ?_
                      rotate_left
                      · intro w'
                        go_simp
                        with_reducible rfl
                      rotate_left
                      · simp only [Act.put, List.setIfInBounds_toArray, List.set_cons_zero, List.set_cons_succ, i64_w, i32_w]
                        rfl
                      refine take_ (i := 14) (N := some 95) (v := ?_) (a' := ?_) #[true, true, true, true, true, true, true, true, true, true, true, true, true, true, true, true, false, false, false, false] rfl rfl (take_ofW HT_.out HW_.out (by kernel_rfl)) (fun _ _ _ h => h) (Or.inl ⟨by rfl, ?_⟩) hHeld ?_ ?_
                      rotate_left
                      · rintro w' ⟨s0, s1, sB⟩
                        go_simp
                        with_reducible rfl
                      rotate_left
                      · simp only [Act.put, List.setIfInBounds_toArray, List.set_cons_zero, List.set_cons_succ, i64_w, i32_w]
                        rfl
                      refine one_ (i := 16) (N := some 97) #[true, true, true, true, true, true, true, true, true, true, true, true, true, true, true, true, true, false, false, false] rfl rfl (one_of HT_.out (by kernel_rfl)) (by decide) (fun K hK => ?_)
                      refine goes_ Try.func42 (by kernel_rfl) rfl #[.slice Ao17 t770.length co17] (by rfl) rfl rfl (by (try simp only [List.map_toArray, List.map_cons, List.map_nil]); first | done | rfl | (simp only [List.length_drop, List.length_take]; rfl)) ?_
                      with_reducible refine (fingerprint_Of.calls k2 _ _ t770 t800 t801 _ ?side1 ?side2 A51.out).mono ?_
                      (case side1 => repeat (first | exact (Kd.R_reads' HO_5.out).2.2 | (with_reducible refine Kd.C_alloc ?_ _) | (with_reducible refine Kd.C_drewN ?_ _) | (with_reducible refine Kd.C_drew ?_)))
                      (case side2 => exact (Kd.R_reads' HO_5.out).2.1)
                      rintro e w67 ⟨rfl, hb⟩
                      have HSB_ := below_then (hHeld.2.2) (hHeld.2.2).size hb
                      refine ⟨_, rfl, ?_⟩
                      have n0_ := Aside0.mk (Kd.R_below (by (with_reducible repeat (first | apply Kd.R_alloc | apply Kd.R_drewN | apply Kd.R_drew)); exact HO_5.out) hb)
                      have n1_ := Aside0.mk (Kd.N_below (by (with_reducible repeat (first | apply Kd.N_alloc | apply Kd.N_drewN | apply Kd.N_drew)); exact HO_7.out) hb)
                      have n2_ := Aside0.mk (Kd.N_below (by (with_reducible repeat (first | apply Kd.N_alloc | apply Kd.N_drewN | apply Kd.N_drew)); exact HO_9.out) hb)
                      have n3_ := Aside0.mk (Kd.R_below (by (with_reducible repeat (first | apply Kd.R_alloc | apply Kd.R_drewN | apply Kd.R_drew)); exact HO_783001.out) hb)
                      have n4_ := Aside0.mk (Kd.R_below (by (with_reducible repeat (first | apply Kd.R_alloc | apply Kd.R_drewN | apply Kd.R_drew)); exact HO794.out) hb)
                      have n5_ := Aside0.mk (blk_below (g := gb765) (o := .cells #[.int .i64 t760, .int .i64 t761, .int .i64 t762, .int .u64 t763] 83 (0, 0)) (by (with_reducible repeat (first | refine blk_drewN ?_ _ | refine blk_drew ?_ | refine blk_alloc ?_ _)); exact BK765.out) hb)
                      have n6_ := Aside0.mk (blk_below (g := gb782) (o := .cells #[.int .i64 t774, .slice Ao23 t775.length co23] 31 (0, 0)) (by (with_reducible repeat (first | refine blk_drewN ?_ _ | refine blk_drew ?_ | refine blk_alloc ?_ _)); exact BK782.out) hb)
                      have n7_ := Aside0.mk (blk_below (g := gb799) (o := .cells #[.int .u64 t796, .int .i64 t797] 51 (0, 0)) (by (with_reducible repeat (first | refine blk_drewN ?_ _ | refine blk_drew ?_ | refine blk_alloc ?_ _)); exact BK799.out) hb)
                      have n8_ := Aside0.mk (below_step (by repeat (first | (with_reducible first | exact HB.out | apply below_alloc | apply pw_below_drewN | apply below_drew1 | refine below_set ?_ GE765.out | refine below_set ?_ GE782.out | refine below_set ?_ GE799.out) | exact HB.out)) hb)
                      clear HO_5
                      clear HO_7
                      clear HO_9
                      clear HO_783001
                      clear HO794
                      clear BK765
                      clear BK782
                      clear BK799
                      clear HB
                      have HO_5 := n0_
                      have HO_7 := n1_
                      have HO_9 := n2_
                      have HO_783001 := n3_
                      have HO794 := n4_
                      have BK765 := n5_
                      have BK782 := n6_
                      have BK799 := n7_
                      have HB := n8_
                      clear n0_ n1_ n2_ n3_ n4_ n5_ n6_ n7_ n8_
                      (try clear hb)
                      (try clear hb2)
                      (try clear hk)
                      (try clear hi)
                      refine hK.out _ _ ⟨(blk_cell BK799.out 0).trans rfl, (blk_cell BK799.out 1).trans rfl, HSB_⟩ (fun hHeld => ?_)
                      clear hK K
                      refine norm_ (a' := ?_) ?_ ?_
                      rotate_left
                      · show Act.put _ (some 97) _ = _
                        simp only [Act.put, List.setIfInBounds_toArray, List.set_cons_zero, List.set_cons_succ, i64_w, i32_w]
                        rfl
                      refine pure_ (i := 17) (N := some 98) (v := ?_) (a' := ?_) #[true, true, true, true, true, true, true, true, true, true, true, true, true, true, true, true, true, true, false, false] rfl rfl (any_of HT_.out (by kernel_rfl)) (fun _ _ _ h => h) (Or.inl ⟨by rfl, ?_⟩) ?_ ?_
                      rotate_left
                      · intro w'
                        go_simp
                        with_reducible rfl
                      rotate_left
                      · simp only [Act.put, List.setIfInBounds_toArray, List.set_cons_zero, List.set_cons_succ, i64_w, i32_w]
                        rfl
                      refine pure_ (i := 18) (N := some 99) (v := ?_) (a' := ?_) #[true, true, true, true, true, true, true, true, true, true, true, true, true, true, true, true, true, true, true, false] rfl rfl (any_of HT_.out (by kernel_rfl)) (fun _ _ _ h => h) (Or.inl ⟨by rfl, ?_⟩) ?_ ?_
                      rotate_left
                      · intro w'
                        go_simp
                        with_reducible rfl
                      rotate_left
                      · simp only [Act.put, List.setIfInBounds_toArray, List.set_cons_zero, List.set_cons_succ, i64_w, i32_w]
                        rfl
                      refine pure_ (i := 19) (N := some 2) (v := ?_) (a' := ?_) #[true, true, true, true, true, true, true, true, true, true, true, true, true, true, true, true, true, true, true, true] rfl rfl (any_of HT_.out (by kernel_rfl)) (fun _ _ _ h => h) (Or.inl ⟨by rfl, ?_⟩) ?_ ?_
                      rotate_left
                      · intro w'
                        go_simp
                        with_reducible rfl
                      rotate_left
                      · simp only [Act.put, List.setIfInBounds_toArray, List.set_cons_zero, List.set_cons_succ, i64_w, i32_w]
                        rfl
                      refine done_ (done_of HT_.out (by kernel_rfl)) ?_
                      try go_wp2
                      go_ret
                      exact ⟨by first | rfl | (simp [errW_none, errW_some] <;> rfl) | (simp [*, errW_none, errW_some] <;> rfl), by repeat (first | (with_reducible first | exact HB.out | apply below_alloc | apply pw_below_drewN | apply below_drew1 | refine below_set ?_ GE765.out | refine below_set ?_ GE782.out | refine below_set ?_ GE799.out) | exact HB.out)⟩
                    · rw [if_neg c50] at H
                      have c50b0 : (t798 == 0) = false := beq_eq_false_iff_ne.mpr c50
                      have c50b1 : (t798 != 0) = true := bne_iff_ne.mpr c50
                      exact absurd ((Option.some.inj H).trans HRT.out) (by decide)
                  · rw [if_neg c49] at H
                    have c49b0 : ((strOfNums t792).toList == (strOfNums t770).toList) = false := beq_eq_false_iff_ne.mpr c49
                    have c49b1 : ((strOfNums t792).toList != (strOfNums t770).toList) = true := bne_iff_ne.mpr c49
                    exact absurd ((Option.some.inj H).trans HRT.out) (by decide)
                · rw [if_neg c48] at H
                  have c48b0 : (t795 == 0) = false := beq_eq_false_iff_ne.mpr c48
                  have c48b1 : (t795 != 0) = true := bne_iff_ne.mpr c48
                  exact absurd ((Option.some.inj H).trans HRT.out) (by decide)
        · replace c36 := Bool.eq_false_iff.mpr c36
          subst c36
          have H1 : (some true) = some r := by rw [if_neg (show ¬ (false = true) by decide)] at H; exact H
          clear H
          have H := H1
          clear H1
          obtain rfl := Option.some.inj H
          obtain ⟨Ao68, co68, eo68⟩ := Kd.N_slice HO_7.out
          subst eo68
          go_wp2_with (first | ((with_reducible refine gate_callee (f := 25) rfl ?_); refine goesL_ (some 49) rfl rfl Try.func25 (by kernel_rfl) rfl #[.slice Ao68 t778.length co68] rfl (by (try simp only [List.map_toArray, List.map_cons, List.map_nil]); first | done | rfl | (simp only [List.length_drop, List.length_take]; rfl)) ?_; (with_reducible refine (stockyardmake_Distinct.calls _ _ t778 false _ ?side1 ?side2 A35.out).mono ?_); (case side1 => repeat (first | exact (Kd.N_reads' HO_7.out).2.2 | (with_reducible refine Kd.C_alloc ?_ _) | (with_reducible refine Kd.C_drewN ?_ _) | (with_reducible refine Kd.C_drew ?_))); (case side2 => exact (Kd.N_reads' HO_7.out).2.1); rintro e w69 ⟨rfl, hb⟩; refine ⟨_, rfl, ?_⟩; have n0_ := Aside0.mk (Kd.R_below (by (with_reducible repeat (first | apply Kd.R_alloc | apply Kd.R_drewN | apply Kd.R_drew)); exact HO_5.out) hb); have n1_ := Aside0.mk (Kd.N_below (by (with_reducible repeat (first | apply Kd.N_alloc | apply Kd.N_drewN | apply Kd.N_drew)); exact HO_7.out) hb); have n2_ := Aside0.mk (Kd.R_below (by (with_reducible repeat (first | apply Kd.R_alloc | apply Kd.R_drewN | apply Kd.R_drew)); exact HO_783001.out) hb); have n3_ := Aside0.mk (blk_below (g := gb765) (o := .cells #[.int .i64 t760, .int .i64 t761, .int .i64 t762, .int .u64 t763] 83 (0, 0)) (by (with_reducible repeat (first | refine blk_drewN ?_ _ | refine blk_drew ?_ | refine blk_alloc ?_ _)); exact BK765.out) hb); have n4_ := Aside0.mk (blk_below (g := gb782) (o := .cells #[.int .i64 t774, .slice Ao23 t775.length co23] 31 (0, 0)) (by (with_reducible repeat (first | refine blk_drewN ?_ _ | refine blk_drew ?_ | refine blk_alloc ?_ _)); exact BK782.out) hb); have n5_ := Aside0.mk (below_step (by repeat (first | (with_reducible first | exact HB.out | apply below_alloc | apply pw_below_drewN | apply below_drew1 | refine below_set ?_ GE765.out | refine below_set ?_ GE782.out) | exact HB.out)) hb); clear HO_5; clear HO_7; clear HO_783001; clear BK765; clear BK782; clear HB; have HO_5 := n0_; have HO_7 := n1_; have HO_783001 := n2_; have BK765 := n3_; have BK782 := n4_; have HB := n5_; clear n0_ n1_ n2_ n3_ n4_ n5_; (try clear hb); (try clear hb2); (try clear hk); (try clear hi)))
          go_ret
          exact ⟨by first | rfl | (simp [errW_none, errW_some] <;> rfl) | (simp [*, errW_none, errW_some] <;> rfl), by repeat (first | (with_reducible first | exact HB.out | apply below_alloc | apply pw_below_drewN | apply below_drew1 | refine below_set ?_ GE765.out | refine below_set ?_ GE782.out) | exact HB.out)⟩

end Go.Proofs.Ytleapbbdpediiaa.P
