-- What this claim does not use is left out (shake.py).
import Derived.Test.YtleapbbdpediiaaPx0
import Derived.Test.YtleapbbdpediiaaPxf23
import Derived.Test.YtleapbbdpediiaaPxf28
import Derived.Test.YtleapbbdpediiaaPxf30
import Derived.Test.YtleapbbdpediiaaPxf55
-- Printed by a program (pr.py over the kit's print) out of the translation.
namespace Go.Proofs.Ytleapbbdpediiaa.P
open Go.RowKit Go.Proofs.YtleapbbdpediiaaW.PrintWords Go.Proofs.YtleapbbdpediiaaW.PrintLast Go.Proofs.YtleapbbdpediiaaW.PrintMore
attribute [local go_sem] max2_int min2_int max_two min_two max_three min_three max_four min_four   -- for this text's walks alone
set_option linter.unusedVariables false
set_option linter.unusedSimpArgs false

/-! ### stockyardlaw25_ManifestFinds: function 6 -/
mutual
def stockyardlaw25_ManifestFinds.j0 : Nat → List (List Int) → Int → Int → Int → Bool → Option (Bool)
  | 0, _, _, _, _, _ => none
  | k + 1, x6, x8, x9, x10, x61 => if x61 = true then (some false) else (stockyardlaw25_ManifestFinds.l0 k x6 x8 x9 x10 0 0)
def stockyardlaw25_ManifestFinds.l0 : Nat → List (List Int) → Int → Int → Int → Int → Int → Option (Bool)
  | 0, _, _, _, _, _, _ => none
  | k + 1, x6, x8, x9, x10, x12, x13 => if x13 < x9 then (if 0 ≤ x13 then (if x13 < (x6.length : Int) then (stockyardlaw25_ManifestFinds.l0 k x6 x8 x9 x10 (wrap64 (x12 + ((rd_L2 x6 x13).length : Int))) (wrap64 (x13 + 1))) else (none)) else (none)) else (if (wrap64 (x12 + x10)) = x8 then (if 0 ≤ x9 then (if x9 < (x6.length : Int) then (if 0 ≤ x10 then (if x10 < ((rd_L2 x6 x9).length : Int) then ((stockyardmake_Joined.f k x6).bind fun t363 => (if 0 ≤ x8 then (if x8 < (t363.length : Int) then (some ((rd (rd_L2 x6 x9) x10) == (rd t363 x8))) else (none)) else (none))) else (none)) else (none)) else (none)) else (none)) else (some false))
end
def stockyardlaw25_ManifestFinds.f (k : Nat) (l0 : List Int) (a1 : Int) : Option (Bool) := (stockyardlaw25_pieces.f k l0 0 8).bind fun bt345 => ((stockyardref25_Of.f k bt345.1).bind fun bt349 => ((stockyardlaw25_known.f k).bind fun t354 => (if t354 = true then (if bt349.1 = 0 then (some true) else ((stockyardmake_Fold.f a1 bt349.1).bind fun t355 => ((manifest_Locate.f k bt349.1 bt349.2 t355).bind fun bt356 => (if bt356.2.2 = 0 then (if bt356.1 < 0 then (stockyardlaw25_ManifestFinds.j0 k bt345.1 t355 bt356.1 bt356.2.1 true) else (if bt356.1 ≥ (bt345.1.length : Int) then (stockyardlaw25_ManifestFinds.j0 k bt345.1 t355 bt356.1 bt356.2.1 true) else (if bt356.2.1 < 0 then (stockyardlaw25_ManifestFinds.j0 k bt345.1 t355 bt356.1 bt356.2.1 true) else (if 0 ≤ bt356.1 then (if bt356.1 < (bt345.1.length : Int) then (stockyardlaw25_ManifestFinds.j0 k bt345.1 t355 bt356.1 bt356.2.1 (decide (bt356.2.1 ≥ ((rd_L2 bt345.1 bt356.1).length : Int)))) else (none)) else (none))))) else (stockyardlaw25_ManifestFinds.j0 k bt345.1 t355 bt356.1 bt356.2.1 true))))) else (some false))))
def stockyardlaw25_ManifestFinds.T17 : Bool × List (List Nat × List Nat) := (true, [([], []), ([], []), ([0, 1], [0, 1]), ([], []), ([2, 3], [2, 3]), ([4], [4]), ([5], [5]), ([5], [5]), ([6, 7, 5], [5, 6, 7]), ([8, 5], [5, 8]), ([5], [5]), ([9, 10, 5], [5, 9, 10]), ([11, 5], [5, 11]), ([5], [5]), ([13, 5, 5], [5, 13]), ([5], [5]), ([14, 15, 5], [5, 14, 15]), ([16, 5], [5, 16]), ([12, 17, 5], [5, 12, 17]), ([5, 18], [5, 18]), ([19, 14, 0, 1, 2, 3, 4, 5, 6, 7, 8, 9, 10, 11, 12, 13, 14, 15, 16, 17, 18, 19], [19])])
def stockyardlaw25_ManifestFinds.B17 : List Nat := [0, 0, 3, 0, 15, 31, 63, 63, 255, 511, 63, 2047, 4095, 63, 8255, 63, 57407, 122943, 262143, 524287, 1048575]
theorem stockyardlaw25_ManifestFinds.tab17 : rtab .any (opsOf Try.f6 17) = stockyardlaw25_ManifestFinds.T17 := by kernel_rfl
theorem stockyardlaw25_ManifestFinds.bits17 : waitsOk stockyardlaw25_ManifestFinds.T17.2 stockyardlaw25_ManifestFinds.B17 = true := by kernel_rfl
set_option maxHeartbeats 8000000 in
set_option maxRecDepth 100000 in
theorem stockyardlaw25_ManifestFinds.calls (k : Nat) (A0 : Option Addr) (c0 : Nat) (l0 : List Int) (a1 : Int) (r : Bool) (w : World) (hr0 : Kd.C (Kd.int .i64) w A0 l0.length l0) (hc0 : l0.length ≤ c0) (h : stockyardlaw25_ManifestFinds.f k l0 a1 = some r) (hrt : r = true) :
    Calls Try.prog 6 #[.slice A0 l0.length c0, .int .i64 a1] w fun e w' => e = .returned (.bool r) ∧ Below w.heap.size w w' := by
  have HRT := Aside0.mk hrt
  clear hrt
  have hu26 := Try.underlying26
  have hu31 := Try.underlying31
  have HR0 := Aside0.mk hr0
  have HC0 := Aside0.mk hc0
  clear hr0 hc0
  have HB := Aside0.mk (Below.refl w.heap.size w)
  have H : ((stockyardlaw25_pieces.f k l0 0 8).bind fun bt345 => ((stockyardref25_Of.f k bt345.1).bind fun bt349 => ((stockyardlaw25_known.f k).bind fun t354 => (if t354 = true then (if bt349.1 = 0 then (some true) else ((stockyardmake_Fold.f a1 bt349.1).bind fun t355 => ((manifest_Locate.f k bt349.1 bt349.2 t355).bind fun bt356 => (if bt356.2.2 = 0 then (if bt356.1 < 0 then (stockyardlaw25_ManifestFinds.j0 k bt345.1 t355 bt356.1 bt356.2.1 true) else (if bt356.1 ≥ (bt345.1.length : Int) then (stockyardlaw25_ManifestFinds.j0 k bt345.1 t355 bt356.1 bt356.2.1 true) else (if bt356.2.1 < 0 then (stockyardlaw25_ManifestFinds.j0 k bt345.1 t355 bt356.1 bt356.2.1 true) else (if 0 ≤ bt356.1 then (if bt356.1 < (bt345.1.length : Int) then (stockyardlaw25_ManifestFinds.j0 k bt345.1 t355 bt356.1 bt356.2.1 (decide (bt356.2.1 ≥ ((rd_L2 bt345.1 bt356.1).length : Int)))) else (none)) else (none))))) else (stockyardlaw25_ManifestFinds.j0 k bt345.1 t355 bt356.1 bt356.2.1 true))))) else (some false))))) = some r := h
  clear h
  replace H := Option.bind_eq_some_iff.mp H
  obtain ⟨⟨t345, t348⟩, A30, H⟩ := H
  replace H : ((stockyardref25_Of.f k t345).bind fun bt349 => ((stockyardlaw25_known.f k).bind fun t354 => (if t354 = true then (if bt349.1 = 0 then (some true) else ((stockyardmake_Fold.f a1 bt349.1).bind fun t355 => ((manifest_Locate.f k bt349.1 bt349.2 t355).bind fun bt356 => (if bt356.2.2 = 0 then (if bt356.1 < 0 then (stockyardlaw25_ManifestFinds.j0 k t345 t355 bt356.1 bt356.2.1 true) else (if bt356.1 ≥ (t345.length : Int) then (stockyardlaw25_ManifestFinds.j0 k t345 t355 bt356.1 bt356.2.1 true) else (if bt356.2.1 < 0 then (stockyardlaw25_ManifestFinds.j0 k t345 t355 bt356.1 bt356.2.1 true) else (if 0 ≤ bt356.1 then (if bt356.1 < (t345.length : Int) then (stockyardlaw25_ManifestFinds.j0 k t345 t355 bt356.1 bt356.2.1 (decide (bt356.2.1 ≥ ((rd_L2 t345 bt356.1).length : Int)))) else (none)) else (none))))) else (stockyardlaw25_ManifestFinds.j0 k t345 t355 bt356.1 bt356.2.1 true))))) else (some false)))) = some r := H
  have A3 := Aside0.mk A30
  clear A30
  replace H := Option.bind_eq_some_iff.mp H
  obtain ⟨⟨t349, t350⟩, A40, H⟩ := H
  replace H : ((stockyardlaw25_known.f k).bind fun t354 => (if t354 = true then (if t349 = 0 then (some true) else ((stockyardmake_Fold.f a1 t349).bind fun t355 => ((manifest_Locate.f k t349 t350 t355).bind fun bt356 => (if bt356.2.2 = 0 then (if bt356.1 < 0 then (stockyardlaw25_ManifestFinds.j0 k t345 t355 bt356.1 bt356.2.1 true) else (if bt356.1 ≥ (t345.length : Int) then (stockyardlaw25_ManifestFinds.j0 k t345 t355 bt356.1 bt356.2.1 true) else (if bt356.2.1 < 0 then (stockyardlaw25_ManifestFinds.j0 k t345 t355 bt356.1 bt356.2.1 true) else (if 0 ≤ bt356.1 then (if bt356.1 < (t345.length : Int) then (stockyardlaw25_ManifestFinds.j0 k t345 t355 bt356.1 bt356.2.1 (decide (bt356.2.1 ≥ ((rd_L2 t345 bt356.1).length : Int)))) else (none)) else (none))))) else (stockyardlaw25_ManifestFinds.j0 k t345 t355 bt356.1 bt356.2.1 true))))) else (some false))) = some r := H
  have A4 := Aside0.mk A40
  clear A40
  replace H := Option.bind_eq_some_iff.mp H
  obtain ⟨t354, A50, H⟩ := H
  replace H : (if t354 = true then (if t349 = 0 then (some true) else ((stockyardmake_Fold.f a1 t349).bind fun t355 => ((manifest_Locate.f k t349 t350 t355).bind fun bt356 => (if bt356.2.2 = 0 then (if bt356.1 < 0 then (stockyardlaw25_ManifestFinds.j0 k t345 t355 bt356.1 bt356.2.1 true) else (if bt356.1 ≥ (t345.length : Int) then (stockyardlaw25_ManifestFinds.j0 k t345 t355 bt356.1 bt356.2.1 true) else (if bt356.2.1 < 0 then (stockyardlaw25_ManifestFinds.j0 k t345 t355 bt356.1 bt356.2.1 true) else (if 0 ≤ bt356.1 then (if bt356.1 < (t345.length : Int) then (stockyardlaw25_ManifestFinds.j0 k t345 t355 bt356.1 bt356.2.1 (decide (bt356.2.1 ≥ ((rd_L2 t345 bt356.1).length : Int)))) else (none)) else (none))))) else (stockyardlaw25_ManifestFinds.j0 k t345 t355 bt356.1 bt356.2.1 true))))) else (some false)) = some r := H
  have A5 := Aside0.mk A50
  clear A50
  by_cases c6 : t354 = true
  · subst c6
    have H1 : (if t349 = 0 then (some true) else ((stockyardmake_Fold.f a1 t349).bind fun t355 => ((manifest_Locate.f k t349 t350 t355).bind fun bt356 => (if bt356.2.2 = 0 then (if bt356.1 < 0 then (stockyardlaw25_ManifestFinds.j0 k t345 t355 bt356.1 bt356.2.1 true) else (if bt356.1 ≥ (t345.length : Int) then (stockyardlaw25_ManifestFinds.j0 k t345 t355 bt356.1 bt356.2.1 true) else (if bt356.2.1 < 0 then (stockyardlaw25_ManifestFinds.j0 k t345 t355 bt356.1 bt356.2.1 true) else (if 0 ≤ bt356.1 then (if bt356.1 < (t345.length : Int) then (stockyardlaw25_ManifestFinds.j0 k t345 t355 bt356.1 bt356.2.1 (decide (bt356.2.1 ≥ ((rd_L2 t345 bt356.1).length : Int)))) else (none)) else (none))))) else (stockyardlaw25_ManifestFinds.j0 k t345 t355 bt356.1 bt356.2.1 true))))) = some r := by rw [if_pos rfl] at H; exact H
    clear H
    have H := H1
    clear H1
    by_cases c7 : t349 = 0
    · rw [if_pos c7] at H
      have c7b0 : (t349 == 0) = true := beq_iff_eq.mpr c7
      have c7b1 : (t349 != 0) = false := bne_eq_false_iff_eq.mpr c7
      clear c7
      obtain rfl := Option.some.inj H
      go_enter Try.func6, Try.ntmps6
      go_wp2_with (first | ((with_reducible refine gate_dst (N := 16) rfl ?_); (try (refine gate_guard (by rfl) ?_; dsimp only)); refine box_event ?hg (N := 16) ?hd (cs := #[.slice A0 l0.length c0, .int .i64 0]) (t := 26) ?hr ?_; (case hd => rfl); (case hg => rfl); (case hr => first | (go_simp; done) | (go_simp; rfl)); intro gb344 hg w8 hbox hb; have n0_ := Aside0.mk (below_step (by repeat (first | (with_reducible first | exact HB.out | apply below_alloc | apply pw_below_drewN | apply below_drew1) | exact HB.out)) hb); have n1_ := Aside0.mk ((by rw [hg]; exact (below_size (by repeat (first | (with_reducible first | exact HB.out | apply below_alloc | apply pw_below_drewN | apply below_drew1) | exact HB.out))) : w.heap.size ≤ gb344)); have n2_ := Aside0.mk ((by rw [hg]; exact (below_size (by repeat (first | (with_reducible first | exact HB.out | apply below_alloc | apply pw_below_drewN | apply below_drew1) | exact HB.out))) : w.heap.size ≤ gb344)); have n3_ := Aside0.mk ((show IsS26 w w8 gb344 l0 0 from ⟨_, _, hbox, (by rw [hg]; exact (below_size (by repeat (first | (with_reducible first | exact HB.out | apply below_alloc | apply pw_below_drewN | apply below_drew1) | exact HB.out))) : w.heap.size ≤ gb344), HR0.out⟩)); clear HB; have HB := n0_; have GW344 := n1_; have GE344 := n2_; have HI344 := n3_; clear n0_ n1_ n2_ n3_; clear hb hbox hg) | ((with_reducible refine gate_callee (f := 15) rfl ?_); refine goesL_ (some 18) rfl rfl Try.func15 (by kernel_rfl) rfl #[.pointer (some ⟨gb344, 0, none⟩), .int .i64 8] rfl (by (try simp only [List.map_toArray, List.map_cons, List.map_nil]); first | done | rfl | (simp only [List.length_drop, List.length_take]; rfl)) ?_; (with_reducible refine (stockyardlaw25_pieces.calls k gb344 l0 0 8 t345 t348 w _ ?side1 ?side2 A3.out).mono ?_); (case side1 => repeat (first | (with_reducible first | exact HI344.out | apply IsS26.alloc | apply IsS26.drewN | apply IsS26.drew | apply IsS26.set_1) | exact HI344.out)); (case side2 => repeat (first | (with_reducible first | exact HB.out | apply below_alloc | apply pw_below_drewN | apply below_drew1 | refine below_set ?_ (IsS26.ge HI344.out)) | exact HB.out)); rintro e w9 ⟨v346, rfl, ho0, hi, hb, hk⟩; refine ⟨_, rfl, ?_⟩; have n0_ := Aside0.mk (Kd.S_lower ho0 (below_size (by repeat (first | (with_reducible first | exact HB.out | apply below_alloc | apply pw_below_drewN | apply below_drew1 | refine below_set ?_ (IsS26.ge HI344.out)) | exact HB.out)))); have n1_ := Aside0.mk (hb); have n2_ := Aside0.mk (hi); clear HB; clear HI344; have HO347 := n0_; have HB := n1_; have HI344 := n2_; clear n0_ n1_ n2_; (try clear hb); (try clear hb2); (try clear hk); (try clear hi); (try clear ho0); obtain ⟨Ao10, co10, eo10⟩ := Kd.S_slice HO347.out; subst eo10) | ((with_reducible refine gate_callee (f := 16) rfl ?_); refine goesL_ (some 20) rfl rfl Try.func16 (by kernel_rfl) rfl #[.slice Ao10 t345.length co10] rfl (by (try simp only [List.map_toArray, List.map_cons, List.map_nil]); first | done | rfl | (simp only [List.length_drop, List.length_take]; rfl)) ?_; (with_reducible refine (stockyardref25_Of.calls k _ _ t345 t349 t350 _ ?side1 ?side2 A4.out).mono ?_); (case side1 => repeat (first | exact (Kd.S_reads' HO347.out).2.2 | (with_reducible refine Kd.C_alloc ?_ _) | (with_reducible refine Kd.C_drewN ?_ _) | (with_reducible refine Kd.C_drew ?_))); (case side2 => exact (Kd.S_reads' HO347.out).2.1); rintro e w11 ⟨v351, rfl, ho0, hb⟩; refine ⟨_, rfl, ?_⟩; have n0_ := Aside0.mk (Kd.S_below (by (with_reducible repeat (first | apply Kd.S_alloc | apply Kd.S_drewN | apply Kd.S_drew)); exact HO347.out) hb); have n1_ := Aside0.mk (Kd.R_lower ho0 (below_size (by repeat (first | (with_reducible first | exact HB.out | apply below_alloc | apply pw_below_drewN | apply below_drew1 | refine below_set ?_ (IsS26.ge HI344.out)) | exact HB.out)))); have n2_ := Aside0.mk (IsS26.below (by repeat (first | (with_reducible first | exact HI344.out | apply IsS26.alloc | apply IsS26.drewN | apply IsS26.drew | apply IsS26.set_1) | exact HI344.out)) hb); have n3_ := Aside0.mk (below_step (by repeat (first | (with_reducible first | exact HB.out | apply below_alloc | apply pw_below_drewN | apply below_drew1 | refine below_set ?_ (IsS26.ge HI344.out)) | exact HB.out)) hb); clear HO347; clear HI344; clear HB; have HO347 := n0_; have HO352 := n1_; have HI344 := n2_; have HB := n3_; clear n0_ n1_ n2_ n3_; (try clear hb); (try clear hb2); (try clear hk); (try clear hi); (try clear ho0)) | ((with_reducible refine gate_dst (N := 7) rfl ?_); (try (refine gate_guard (by rfl) ?_; dsimp only)); refine box_event ?hg (N := 7) ?hd (cs := #[.int .i64 0, .slice none 0 0]) (t := 31) ?hr ?_; (case hd => rfl); (case hg => rfl); (case hr => first | (go_simp; done) | (go_simp; rfl)); intro gb353 hg w12 hbox hb; have n0_ := Aside0.mk (Kd.S_below (by (with_reducible repeat (first | apply Kd.S_alloc | apply Kd.S_drewN | apply Kd.S_drew)); exact HO347.out) hb); have n1_ := Aside0.mk (Kd.R_below (by (with_reducible repeat (first | apply Kd.R_alloc | apply Kd.R_drewN | apply Kd.R_drew)); exact HO352.out) hb); have n2_ := Aside0.mk (IsS26.below (by repeat (first | (with_reducible first | exact HI344.out | apply IsS26.alloc | apply IsS26.drewN | apply IsS26.drew | apply IsS26.set_1) | exact HI344.out)) hb); have n3_ := Aside0.mk (below_step (by repeat (first | (with_reducible first | exact HB.out | apply below_alloc | apply pw_below_drewN | apply below_drew1 | refine below_set ?_ (IsS26.ge HI344.out)) | exact HB.out)) hb); have n4_ := Aside0.mk (hbox); have n5_ := Aside0.mk ((by rw [hg]; exact (below_size (by repeat (first | (with_reducible first | exact HB.out | apply below_alloc | apply pw_below_drewN | apply below_drew1 | refine below_set ?_ (IsS26.ge HI344.out)) | exact HB.out))) : w.heap.size ≤ gb353)); have n6_ := Aside0.mk ((by rw [hg]; exact (below_size (by repeat (first | (with_reducible first | exact HB.out | apply below_alloc | apply pw_below_drewN | apply below_drew1 | refine below_set ?_ (IsS26.ge HI344.out)) | exact HB.out))) : w.heap.size ≤ gb353)); have n7_ := Aside0.mk ((by rw [hg]; exact Nat.ne_of_lt (IsS26.lt (show IsS26 w _ gb344 l0 t348 from by repeat (first | (with_reducible first | exact HI344.out | apply IsS26.alloc | apply IsS26.drewN | apply IsS26.drew | apply IsS26.set_1) | exact HI344.out))) : gb344 ≠ gb353)); have n8_ := Aside0.mk ((by rw [hg]; exact Nat.ne_of_gt (IsS26.lt (show IsS26 w _ gb344 l0 t348 from by repeat (first | (with_reducible first | exact HI344.out | apply IsS26.alloc | apply IsS26.drewN | apply IsS26.drew | apply IsS26.set_1) | exact HI344.out))) : gb353 ≠ gb344)); clear HO347; clear HO352; clear HI344; clear HB; have HO347 := n0_; have HO352 := n1_; have HI344 := n2_; have HB := n3_; have BK353 := n4_; have GW353 := n5_; have GE353 := n6_; have NB344_353 := n7_; have NB353_344 := n8_; clear n0_ n1_ n2_ n3_ n4_ n5_ n6_ n7_ n8_; clear hb hbox hg; have hnb13 := NB353_344.out; have hnc13 := NB344_353.out; have hcz14_0 : w12.cell? ⟨gb353, 0, none⟩ = some (.int .i64 0) := (blk_cell BK353.out 0).trans rfl; have hcz14_1 : w12.cell? ⟨gb353, 1, none⟩ = some (.slice none 0 0) := (blk_cell BK353.out 1).trans rfl; have hfz14_0 := blk_frozen BK353.out 0; have hfz14_1 := blk_frozen BK353.out 1; obtain ⟨Ao15, co15, eo15⟩ := Kd.R_slice HO352.out; subst eo15) | ((with_reducible refine gate_callee (f := 23) rfl ?_); refine goesL_ (some 21) rfl rfl Try.func23 (by kernel_rfl) rfl #[] rfl (by (try simp only [List.map_toArray, List.map_cons, List.map_nil]); first | done | rfl | (simp only [List.length_drop, List.length_take]; rfl)) ?_; (with_reducible refine (stockyardlaw25_known.calls k  true _ A5.out).mono ?_); rintro e w16 ⟨rfl, hb⟩; refine ⟨_, rfl, ?_⟩; have n0_ := Aside0.mk (Kd.S_below (by (with_reducible repeat (first | apply Kd.S_alloc | apply Kd.S_drewN | apply Kd.S_drew)); exact (Kd.S_mono (Kd.S_far (p := ⟨gb353, 1, none⟩) (Kd.S_far (p := ⟨gb353, 0, none⟩) (Kd.S_types HO347.out BK353.out (by decide)) (fun _ hk => hk.2) (.int .i64 t349)) (fun _ hk => hk.2) (.slice Ao15 t350.length co15)) (fun _ h_ => h_.1))) hb); have n1_ := Aside0.mk (Kd.R_below (by (with_reducible repeat (first | apply Kd.R_alloc | apply Kd.R_drewN | apply Kd.R_drew)); exact (Kd.R_mono (Kd.R_far (p := ⟨gb353, 1, none⟩) (Kd.R_far (p := ⟨gb353, 0, none⟩) (Kd.R_types HO352.out BK353.out (by decide)) (fun _ hk => hk.2) (.int .i64 t349)) (fun _ hk => hk.2) (.slice Ao15 t350.length co15)) (fun _ h_ => h_.1))) hb); have n2_ := Aside0.mk (IsS26.below (show IsS26 w ((w12.setCell ⟨gb353, 0, none⟩ (.int .i64 t349)).setCell ⟨gb353, 1, none⟩ (.slice Ao15 t350.length co15)) gb344 l0 t348 from by repeat (first | (with_reducible first | exact HI344.out | apply IsS26.alloc | apply IsS26.drewN | apply IsS26.drew | apply IsS26.set_1 | refine IsS26.far ?_ NB344_353.out _) | exact HI344.out)) hb); have n3_ := Aside0.mk (blk_below (g := gb353) (o := .cells #[.int .i64 t349, .slice Ao15 t350.length co15] 31 (0, 0)) (by (with_reducible repeat (first | refine blk_drewN ?_ _ | refine blk_drew ?_ | refine blk_alloc ?_ _)); refine blk_put (cs := #[.int .i64 t349, .slice none 0 0]) ?_ 1 _ rfl; (with_reducible repeat (first | refine blk_drewN ?_ _ | refine blk_drew ?_ | refine blk_alloc ?_ _)); refine blk_put (cs := #[.int .i64 0, .slice none 0 0]) ?_ 0 _ rfl; (with_reducible repeat (first | refine blk_drewN ?_ _ | refine blk_drew ?_ | refine blk_alloc ?_ _)); exact BK353.out) hb); have n4_ := Aside0.mk (below_step (by repeat (first | (with_reducible first | exact HB.out | apply below_alloc | apply pw_below_drewN | apply below_drew1 | refine below_set ?_ (IsS26.ge HI344.out) | refine below_set ?_ GE353.out) | exact HB.out)) hb); clear HO347; clear HO352; clear HI344; clear BK353; clear HB; have HO347 := n0_; have HO352 := n1_; have HI344 := n2_; have BK353 := n3_; have HB := n4_; clear n0_ n1_ n2_ n3_ n4_; (try clear hb); (try clear hb2); (try clear hk); (try clear hi); have hcz17_0 : w16.cell? ⟨gb353, 0, none⟩ = some (.int .i64 t349) := (blk_cell BK353.out 0).trans rfl; have hcz17_1 : w16.cell? ⟨gb353, 1, none⟩ = some (.slice Ao15 t350.length co15) := (blk_cell BK353.out 1).trans rfl; have hfz17_0 := blk_frozen BK353.out 0; have hfz17_1 := blk_frozen BK353.out 1))
      go_ret
      exact ⟨by first | rfl | (simp [errW_none, errW_some] <;> rfl) | (simp [*, errW_none, errW_some] <;> rfl), by repeat (first | (with_reducible first | exact HB.out | apply below_alloc | apply pw_below_drewN | apply below_drew1 | refine below_set ?_ (IsS26.ge HI344.out) | refine below_set ?_ GE353.out) | exact HB.out)⟩
    · rw [if_neg c7] at H
      have c7b0 : (t349 == 0) = false := beq_eq_false_iff_ne.mpr c7
      have c7b1 : (t349 != 0) = true := bne_iff_ne.mpr c7
      replace H := Option.bind_eq_some_iff.mp H
      obtain ⟨t355, A180, H⟩ := H
      replace H : ((manifest_Locate.f k t349 t350 t355).bind fun bt356 => (if bt356.2.2 = 0 then (if bt356.1 < 0 then (stockyardlaw25_ManifestFinds.j0 k t345 t355 bt356.1 bt356.2.1 true) else (if bt356.1 ≥ (t345.length : Int) then (stockyardlaw25_ManifestFinds.j0 k t345 t355 bt356.1 bt356.2.1 true) else (if bt356.2.1 < 0 then (stockyardlaw25_ManifestFinds.j0 k t345 t355 bt356.1 bt356.2.1 true) else (if 0 ≤ bt356.1 then (if bt356.1 < (t345.length : Int) then (stockyardlaw25_ManifestFinds.j0 k t345 t355 bt356.1 bt356.2.1 (decide (bt356.2.1 ≥ ((rd_L2 t345 bt356.1).length : Int)))) else (none)) else (none))))) else (stockyardlaw25_ManifestFinds.j0 k t345 t355 bt356.1 bt356.2.1 true))) = some r := H
      have A18 := Aside0.mk A180
      clear A180
      replace H := Option.bind_eq_some_iff.mp H
      obtain ⟨⟨t356, t357, t358⟩, A190, H⟩ := H
      replace H : (if t358 = 0 then (if t356 < 0 then (stockyardlaw25_ManifestFinds.j0 k t345 t355 t356 t357 true) else (if t356 ≥ (t345.length : Int) then (stockyardlaw25_ManifestFinds.j0 k t345 t355 t356 t357 true) else (if t357 < 0 then (stockyardlaw25_ManifestFinds.j0 k t345 t355 t356 t357 true) else (if 0 ≤ t356 then (if t356 < (t345.length : Int) then (stockyardlaw25_ManifestFinds.j0 k t345 t355 t356 t357 (decide (t357 ≥ ((rd_L2 t345 t356).length : Int)))) else (none)) else (none))))) else (stockyardlaw25_ManifestFinds.j0 k t345 t355 t356 t357 true)) = some r := H
      have A19 := Aside0.mk A190
      clear A190
      have HC20 := Aside0.mk H
      clear H
      go_enter Try.func6, Try.ntmps6
      go_upto_region 10 with (first | ((with_reducible refine gate_dst (N := 16) rfl ?_); (try (refine gate_guard (by rfl) ?_; dsimp only)); refine box_event ?hg (N := 16) ?hd (cs := #[.slice A0 l0.length c0, .int .i64 0]) (t := 26) ?hr ?_; (case hd => rfl); (case hg => rfl); (case hr => first | (go_simp; done) | (go_simp; rfl)); intro gb344 hg w21 hbox hb; have n0_ := Aside0.mk (below_step (by repeat (first | (with_reducible first | exact HB.out | apply below_alloc | apply pw_below_drewN | apply below_drew1) | exact HB.out)) hb); have n1_ := Aside0.mk ((by rw [hg]; exact (below_size (by repeat (first | (with_reducible first | exact HB.out | apply below_alloc | apply pw_below_drewN | apply below_drew1) | exact HB.out))) : w.heap.size ≤ gb344)); have n2_ := Aside0.mk ((by rw [hg]; exact (below_size (by repeat (first | (with_reducible first | exact HB.out | apply below_alloc | apply pw_below_drewN | apply below_drew1) | exact HB.out))) : w.heap.size ≤ gb344)); have n3_ := Aside0.mk ((show IsS26 w w21 gb344 l0 0 from ⟨_, _, hbox, (by rw [hg]; exact (below_size (by repeat (first | (with_reducible first | exact HB.out | apply below_alloc | apply pw_below_drewN | apply below_drew1) | exact HB.out))) : w.heap.size ≤ gb344), HR0.out⟩)); clear HB; have HB := n0_; have GW344 := n1_; have GE344 := n2_; have HI344 := n3_; clear n0_ n1_ n2_ n3_; clear hb hbox hg) | ((with_reducible refine gate_callee (f := 15) rfl ?_); refine goesL_ (some 18) rfl rfl Try.func15 (by kernel_rfl) rfl #[.pointer (some ⟨gb344, 0, none⟩), .int .i64 8] rfl (by (try simp only [List.map_toArray, List.map_cons, List.map_nil]); first | done | rfl | (simp only [List.length_drop, List.length_take]; rfl)) ?_; (with_reducible refine (stockyardlaw25_pieces.calls k gb344 l0 0 8 t345 t348 w _ ?side1 ?side2 A3.out).mono ?_); (case side1 => repeat (first | (with_reducible first | exact HI344.out | apply IsS26.alloc | apply IsS26.drewN | apply IsS26.drew | apply IsS26.set_1) | exact HI344.out)); (case side2 => repeat (first | (with_reducible first | exact HB.out | apply below_alloc | apply pw_below_drewN | apply below_drew1 | refine below_set ?_ (IsS26.ge HI344.out)) | exact HB.out)); rintro e w22 ⟨v346, rfl, ho0, hi, hb, hk⟩; refine ⟨_, rfl, ?_⟩; have n0_ := Aside0.mk (Kd.S_lower ho0 (below_size (by repeat (first | (with_reducible first | exact HB.out | apply below_alloc | apply pw_below_drewN | apply below_drew1 | refine below_set ?_ (IsS26.ge HI344.out)) | exact HB.out)))); have n1_ := Aside0.mk (hb); have n2_ := Aside0.mk (hi); clear HB; clear HI344; have HO347 := n0_; have HB := n1_; have HI344 := n2_; clear n0_ n1_ n2_; (try clear hb); (try clear hb2); (try clear hk); (try clear hi); (try clear ho0); obtain ⟨Ao23, co23, eo23⟩ := Kd.S_slice HO347.out; subst eo23) | ((with_reducible refine gate_callee (f := 16) rfl ?_); refine goesL_ (some 20) rfl rfl Try.func16 (by kernel_rfl) rfl #[.slice Ao23 t345.length co23] rfl (by (try simp only [List.map_toArray, List.map_cons, List.map_nil]); first | done | rfl | (simp only [List.length_drop, List.length_take]; rfl)) ?_; (with_reducible refine (stockyardref25_Of.calls k _ _ t345 t349 t350 _ ?side1 ?side2 A4.out).mono ?_); (case side1 => repeat (first | exact (Kd.S_reads' HO347.out).2.2 | (with_reducible refine Kd.C_alloc ?_ _) | (with_reducible refine Kd.C_drewN ?_ _) | (with_reducible refine Kd.C_drew ?_))); (case side2 => exact (Kd.S_reads' HO347.out).2.1); rintro e w24 ⟨v351, rfl, ho0, hb⟩; refine ⟨_, rfl, ?_⟩; have n0_ := Aside0.mk (Kd.S_below (by (with_reducible repeat (first | apply Kd.S_alloc | apply Kd.S_drewN | apply Kd.S_drew)); exact HO347.out) hb); have n1_ := Aside0.mk (Kd.R_lower ho0 (below_size (by repeat (first | (with_reducible first | exact HB.out | apply below_alloc | apply pw_below_drewN | apply below_drew1 | refine below_set ?_ (IsS26.ge HI344.out)) | exact HB.out)))); have n2_ := Aside0.mk (IsS26.below (by repeat (first | (with_reducible first | exact HI344.out | apply IsS26.alloc | apply IsS26.drewN | apply IsS26.drew | apply IsS26.set_1) | exact HI344.out)) hb); have n3_ := Aside0.mk (below_step (by repeat (first | (with_reducible first | exact HB.out | apply below_alloc | apply pw_below_drewN | apply below_drew1 | refine below_set ?_ (IsS26.ge HI344.out)) | exact HB.out)) hb); clear HO347; clear HI344; clear HB; have HO347 := n0_; have HO352 := n1_; have HI344 := n2_; have HB := n3_; clear n0_ n1_ n2_ n3_; (try clear hb); (try clear hb2); (try clear hk); (try clear hi); (try clear ho0)) | ((with_reducible refine gate_dst (N := 7) rfl ?_); (try (refine gate_guard (by rfl) ?_; dsimp only)); refine box_event ?hg (N := 7) ?hd (cs := #[.int .i64 0, .slice none 0 0]) (t := 31) ?hr ?_; (case hd => rfl); (case hg => rfl); (case hr => first | (go_simp; done) | (go_simp; rfl)); intro gb353 hg w25 hbox hb; have n0_ := Aside0.mk (Kd.S_below (by (with_reducible repeat (first | apply Kd.S_alloc | apply Kd.S_drewN | apply Kd.S_drew)); exact HO347.out) hb); have n1_ := Aside0.mk (Kd.R_below (by (with_reducible repeat (first | apply Kd.R_alloc | apply Kd.R_drewN | apply Kd.R_drew)); exact HO352.out) hb); have n2_ := Aside0.mk (IsS26.below (by repeat (first | (with_reducible first | exact HI344.out | apply IsS26.alloc | apply IsS26.drewN | apply IsS26.drew | apply IsS26.set_1) | exact HI344.out)) hb); have n3_ := Aside0.mk (below_step (by repeat (first | (with_reducible first | exact HB.out | apply below_alloc | apply pw_below_drewN | apply below_drew1 | refine below_set ?_ (IsS26.ge HI344.out)) | exact HB.out)) hb); have n4_ := Aside0.mk (hbox); have n5_ := Aside0.mk ((by rw [hg]; exact (below_size (by repeat (first | (with_reducible first | exact HB.out | apply below_alloc | apply pw_below_drewN | apply below_drew1 | refine below_set ?_ (IsS26.ge HI344.out)) | exact HB.out))) : w.heap.size ≤ gb353)); have n6_ := Aside0.mk ((by rw [hg]; exact (below_size (by repeat (first | (with_reducible first | exact HB.out | apply below_alloc | apply pw_below_drewN | apply below_drew1 | refine below_set ?_ (IsS26.ge HI344.out)) | exact HB.out))) : w.heap.size ≤ gb353)); have n7_ := Aside0.mk ((by rw [hg]; exact Nat.ne_of_lt (IsS26.lt (show IsS26 w _ gb344 l0 t348 from by repeat (first | (with_reducible first | exact HI344.out | apply IsS26.alloc | apply IsS26.drewN | apply IsS26.drew | apply IsS26.set_1) | exact HI344.out))) : gb344 ≠ gb353)); have n8_ := Aside0.mk ((by rw [hg]; exact Nat.ne_of_gt (IsS26.lt (show IsS26 w _ gb344 l0 t348 from by repeat (first | (with_reducible first | exact HI344.out | apply IsS26.alloc | apply IsS26.drewN | apply IsS26.drew | apply IsS26.set_1) | exact HI344.out))) : gb353 ≠ gb344)); clear HO347; clear HO352; clear HI344; clear HB; have HO347 := n0_; have HO352 := n1_; have HI344 := n2_; have HB := n3_; have BK353 := n4_; have GW353 := n5_; have GE353 := n6_; have NB344_353 := n7_; have NB353_344 := n8_; clear n0_ n1_ n2_ n3_ n4_ n5_ n6_ n7_ n8_; clear hb hbox hg; have hnb26 := NB353_344.out; have hnc26 := NB344_353.out; have hcz27_0 : w25.cell? ⟨gb353, 0, none⟩ = some (.int .i64 0) := (blk_cell BK353.out 0).trans rfl; have hcz27_1 : w25.cell? ⟨gb353, 1, none⟩ = some (.slice none 0 0) := (blk_cell BK353.out 1).trans rfl; have hfz27_0 := blk_frozen BK353.out 0; have hfz27_1 := blk_frozen BK353.out 1; obtain ⟨Ao28, co28, eo28⟩ := Kd.R_slice HO352.out; subst eo28) | ((with_reducible refine gate_callee (f := 23) rfl ?_); refine goesL_ (some 21) rfl rfl Try.func23 (by kernel_rfl) rfl #[] rfl (by (try simp only [List.map_toArray, List.map_cons, List.map_nil]); first | done | rfl | (simp only [List.length_drop, List.length_take]; rfl)) ?_; (with_reducible refine (stockyardlaw25_known.calls k  true _ A5.out).mono ?_); rintro e w29 ⟨rfl, hb⟩; refine ⟨_, rfl, ?_⟩; have n0_ := Aside0.mk (Kd.S_below (by (with_reducible repeat (first | apply Kd.S_alloc | apply Kd.S_drewN | apply Kd.S_drew)); exact (Kd.S_mono (Kd.S_far (p := ⟨gb353, 1, none⟩) (Kd.S_far (p := ⟨gb353, 0, none⟩) (Kd.S_types HO347.out BK353.out (by decide)) (fun _ hk => hk.2) (.int .i64 t349)) (fun _ hk => hk.2) (.slice Ao28 t350.length co28)) (fun _ h_ => h_.1))) hb); have n1_ := Aside0.mk (Kd.R_below (by (with_reducible repeat (first | apply Kd.R_alloc | apply Kd.R_drewN | apply Kd.R_drew)); exact (Kd.R_mono (Kd.R_far (p := ⟨gb353, 1, none⟩) (Kd.R_far (p := ⟨gb353, 0, none⟩) (Kd.R_types HO352.out BK353.out (by decide)) (fun _ hk => hk.2) (.int .i64 t349)) (fun _ hk => hk.2) (.slice Ao28 t350.length co28)) (fun _ h_ => h_.1))) hb); have n2_ := Aside0.mk (IsS26.below (show IsS26 w ((w25.setCell ⟨gb353, 0, none⟩ (.int .i64 t349)).setCell ⟨gb353, 1, none⟩ (.slice Ao28 t350.length co28)) gb344 l0 t348 from by repeat (first | (with_reducible first | exact HI344.out | apply IsS26.alloc | apply IsS26.drewN | apply IsS26.drew | apply IsS26.set_1 | refine IsS26.far ?_ NB344_353.out _) | exact HI344.out)) hb); have n3_ := Aside0.mk (blk_below (g := gb353) (o := .cells #[.int .i64 t349, .slice Ao28 t350.length co28] 31 (0, 0)) (by (with_reducible repeat (first | refine blk_drewN ?_ _ | refine blk_drew ?_ | refine blk_alloc ?_ _)); refine blk_put (cs := #[.int .i64 t349, .slice none 0 0]) ?_ 1 _ rfl; (with_reducible repeat (first | refine blk_drewN ?_ _ | refine blk_drew ?_ | refine blk_alloc ?_ _)); refine blk_put (cs := #[.int .i64 0, .slice none 0 0]) ?_ 0 _ rfl; (with_reducible repeat (first | refine blk_drewN ?_ _ | refine blk_drew ?_ | refine blk_alloc ?_ _)); exact BK353.out) hb); have n4_ := Aside0.mk (below_step (by repeat (first | (with_reducible first | exact HB.out | apply below_alloc | apply pw_below_drewN | apply below_drew1 | refine below_set ?_ (IsS26.ge HI344.out) | refine below_set ?_ GE353.out) | exact HB.out)) hb); clear HO347; clear HO352; clear HI344; clear BK353; clear HB; have HO347 := n0_; have HO352 := n1_; have HI344 := n2_; have BK353 := n3_; have HB := n4_; clear n0_ n1_ n2_ n3_ n4_; (try clear hb); (try clear hb2); (try clear hk); (try clear hi); have hcz30_0 : w29.cell? ⟨gb353, 0, none⟩ = some (.int .i64 t349) := (blk_cell BK353.out 0).trans rfl; have hcz30_1 : w29.cell? ⟨gb353, 1, none⟩ = some (.slice Ao28 t350.length co28) := (blk_cell BK353.out 1).trans rfl; have hfz30_0 := blk_frozen BK353.out 0; have hfz30_1 := blk_frozen BK353.out 1) | ((with_reducible refine gate_callee (f := 30) rfl ?_); refine goesL_ (some 29) rfl rfl Try.func30 (by kernel_rfl) rfl #[.int .i64 a1, .int .i64 t349] rfl (by (try simp only [List.map_toArray, List.map_cons, List.map_nil]); first | done | rfl | (simp only [List.length_drop, List.length_take]; rfl)) ?_; (with_reducible refine (stockyardmake_Fold.calls a1 t349 t355 _ A18.out).mono ?_); rintro e w' ⟨rfl, ⟨nd, rfl⟩⟩; refine ⟨_, rfl, ?_⟩) | ((with_reducible refine gate_callee (f := 28) rfl ?_); refine goesL_ (some 33) rfl rfl Try.func28 (by kernel_rfl) rfl #[.agg #[.int .i64 t349, .slice Ao28 t350.length co28], .int .i64 t355] rfl (by (try simp only [List.map_toArray, List.map_cons, List.map_nil]); first | done | rfl | (simp only [List.length_drop, List.length_take]; rfl)) ?_; (with_reducible refine (manifest_Locate.calls k t349 _ _ t350 t355 t356 t357 t358 _ ?side1 ?side2 A19.out).mono ?_); (case side1 => repeat (first | exact (Kd.R_reads' HO352.out).2.2 | (with_reducible refine Kd.C_alloc ?_ _) | (with_reducible refine Kd.C_drewN ?_ _) | (with_reducible refine Kd.C_drew ?_))); (case side2 => exact (Kd.R_reads' HO352.out).2.1); rintro e w31 ⟨rfl, hb⟩; refine ⟨_, rfl, ?_⟩; have n0_ := Aside0.mk (Kd.S_below (by (with_reducible repeat (first | apply Kd.S_alloc | apply Kd.S_drewN | apply Kd.S_drew)); exact HO347.out) hb); have n1_ := Aside0.mk (Kd.R_below (by (with_reducible repeat (first | apply Kd.R_alloc | apply Kd.R_drewN | apply Kd.R_drew)); exact HO352.out) hb); have n2_ := Aside0.mk (IsS26.below (by repeat (first | (with_reducible first | exact HI344.out | apply IsS26.alloc | apply IsS26.drewN | apply IsS26.drew | apply IsS26.set_1 | refine IsS26.far ?_ NB344_353.out _) | exact HI344.out)) hb); have n3_ := Aside0.mk (blk_below (g := gb353) (o := .cells #[.int .i64 t349, .slice Ao28 t350.length co28] 31 (0, 0)) (by (with_reducible repeat (first | refine blk_drewN ?_ _ | refine blk_drew ?_ | refine blk_alloc ?_ _)); exact BK353.out) hb); have n4_ := Aside0.mk (below_step (by repeat (first | (with_reducible first | exact HB.out | apply below_alloc | apply pw_below_drewN | apply below_drew1 | refine below_set ?_ (IsS26.ge HI344.out) | refine below_set ?_ GE353.out) | exact HB.out)) hb); clear HO347; clear HO352; clear HI344; clear BK353; clear HB; have HO347 := n0_; have HO352 := n1_; have HI344 := n2_; have BK353 := n3_; have HB := n4_; clear n0_ n1_ n2_ n3_ n4_; (try clear hb); (try clear hb2); (try clear hk); (try clear hi)))
      (try simp only [Act.put, List.setIfInBounds_toArray, List.set_cons_zero, List.set_cons_succ])
      go_cut [61] (fun v61 wc => ∃ (kq : Nat) (x61_19 : Bool), v61 = .bool x61_19 ∧ Aside0 (stockyardlaw25_ManifestFinds.j0 kq t345 t355 t356 t357 x61_19 = some r) ∧ Aside0 (kq ≤ k) ∧ Aside0 (Kd.S (Kd.slice 5 (Kd.int .u8)) 34 wc w.heap.size (fun _ => True) (.slice Ao23 t345.length co23) t345) ∧ Aside0 (Kd.R k51 51 wc w.heap.size (fun _ => True) (.slice Ao28 t350.length co28) t350) ∧ Aside0 (wc.heap[gb353]? = some (.cells #[.int .i64 t349, (.slice Ao28 t350.length co28)] 31 (0, 0))) ∧ Aside0 (Below w.heap.size w wc))
      case first =>
        have H := HC20.out
        clear HC20
        by_cases c32 : t358 = 0
        · rw [if_pos c32] at H
          have c32b0 : (t358 == 0) = true := beq_iff_eq.mpr c32
          have c32b1 : (t358 != 0) = false := bne_eq_false_iff_eq.mpr c32
          clear c32
          (first | rw [c32b0] | (simp only [i64_w, i32_w]; rw [c32b0]) | skip)
          by_cases c33 : t356 < 0
          · rw [if_pos c33] at H
            have c33b0 : decide (t356 < 0) = true := decide_eq_true c33
            clear c33
            have H' := Aside0.mk H
            clear H
            go_wp2
            go_meet
            case rel => exact ⟨_, (true), (by first | rfl | (simp; done) | (simp [*]; done)), H', ⟨by first | omega | exact Nat.le_refl _⟩, ⟨by (with_reducible repeat (first | apply Kd.S_alloc | apply Kd.S_drewN | apply Kd.S_drew)); exact HO347.out⟩, ⟨by (with_reducible repeat (first | apply Kd.R_alloc | apply Kd.R_drewN | apply Kd.R_drew)); exact HO352.out⟩, ⟨by (with_reducible repeat (first | refine blk_drewN ?_ _ | refine blk_drew ?_ | refine blk_alloc ?_ _)); exact BK353.out⟩, ⟨by repeat (first | (with_reducible first | exact HB.out | apply below_alloc | apply pw_below_drewN | apply below_drew1 | refine below_set ?_ (IsS26.ge HI344.out) | refine below_set ?_ GE353.out) | exact HB.out)⟩⟩
          · rw [if_neg c33] at H
            have c33b0 : decide (t356 < 0) = false := decide_eq_false c33
            clear c33
            by_cases c34 : t356 ≥ (t345.length : Int)
            · rw [if_pos c34] at H
              have c34b0 : decide ((t345.length : Int) ≤ t356) = true := decide_eq_true c34
              clear c34
              have H' := Aside0.mk H
              clear H
              go_wp2
              go_meet
              case rel => exact ⟨_, (true), (by first | rfl | (simp; done) | (simp [*]; done)), H', ⟨by first | omega | exact Nat.le_refl _⟩, ⟨by (with_reducible repeat (first | apply Kd.S_alloc | apply Kd.S_drewN | apply Kd.S_drew)); exact HO347.out⟩, ⟨by (with_reducible repeat (first | apply Kd.R_alloc | apply Kd.R_drewN | apply Kd.R_drew)); exact HO352.out⟩, ⟨by (with_reducible repeat (first | refine blk_drewN ?_ _ | refine blk_drew ?_ | refine blk_alloc ?_ _)); exact BK353.out⟩, ⟨by repeat (first | (with_reducible first | exact HB.out | apply below_alloc | apply pw_below_drewN | apply below_drew1 | refine below_set ?_ (IsS26.ge HI344.out) | refine below_set ?_ GE353.out) | exact HB.out)⟩⟩
            · rw [if_neg c34] at H
              have c34b0 : decide ((t345.length : Int) ≤ t356) = false := decide_eq_false c34
              clear c34
              by_cases c35 : t357 < 0
              · rw [if_pos c35] at H
                have c35b0 : decide (t357 < 0) = true := decide_eq_true c35
                clear c35
                have H' := Aside0.mk H
                clear H
                go_wp2
                go_meet
                case rel => exact ⟨_, (true), (by first | rfl | (simp; done) | (simp [*]; done)), H', ⟨by first | omega | exact Nat.le_refl _⟩, ⟨by (with_reducible repeat (first | apply Kd.S_alloc | apply Kd.S_drewN | apply Kd.S_drew)); exact HO347.out⟩, ⟨by (with_reducible repeat (first | apply Kd.R_alloc | apply Kd.R_drewN | apply Kd.R_drew)); exact HO352.out⟩, ⟨by (with_reducible repeat (first | refine blk_drewN ?_ _ | refine blk_drew ?_ | refine blk_alloc ?_ _)); exact BK353.out⟩, ⟨by repeat (first | (with_reducible first | exact HB.out | apply below_alloc | apply pw_below_drewN | apply below_drew1 | refine below_set ?_ (IsS26.ge HI344.out) | refine below_set ?_ GE353.out) | exact HB.out)⟩⟩
              · rw [if_neg c35] at H
                have c35b0 : decide (t357 < 0) = false := decide_eq_false c35
                clear c35
                by_cases c36 : 0 ≤ t356
                · rw [if_pos c36] at H
                  have c36b0 : decide (0 ≤ t356) = true := decide_eq_true c36
                  clear c36
                  by_cases c37 : t356 < (t345.length : Int)
                  · rw [if_pos c37] at H
                    have c37b0 : decide (t356 < (t345.length : Int)) = true := decide_eq_true c37
                    clear c37
                    have H' := Aside0.mk H
                    clear H
                    have p359 : 0 ≤ (t356 : Int) := of_decide_eq_true (by first | (with_reducible assumption) | assumption)
                    have q359 : t356 < (t345.length : Int) := of_decide_eq_true (by first | (with_reducible assumption) | assumption)
                    obtain ⟨ad359, A359_0, c359_0, e359, hx359_0, hl359_0, hi359_0⟩ := at_L2 (Kd.S_reads' HO347.out).2.2 t356 p359 q359
                    cases e359
                    obtain ⟨ce359, hce359, hMe359, hcc359⟩ := Kd.S_get HO347.out [] t356 p359 (by first | exact q359 | exact of_decide_eq_true (by first | (with_reducible assumption) | assumption) | (have e_ := (Kd.S_reads' HO347.out).1; omega))
                    obtain ⟨ve359_0, rfl, ge359_0⟩ := hMe359
                    have hv359_0 := hcc359 0 _ rfl
                    rw [Nat.add_zero, show ((Kd.slice 5 (Kd.int .u8))).sz = 1 from rfl, Nat.mul_one] at hv359_0
                    replace hv359_0 := Option.some.inj (hv359_0.symm.trans hx359_0)
                    rw [hv359_0] at ge359_0
                    have HL359_0 := Aside0.mk (show Kd.R (Kd.int .u8) 5 _ _ _ _ (rd_L2 t345 t356) from ge359_0)
                    clear hv359_0 ge359_0
                    clear hcc359 hce359
                    have HR359_0 := Aside0.mk hi359_0
                    have HC359_0 := Aside0.mk hl359_0
                    clear hi359_0 hl359_0
                    replace p359 := eq_true p359
                    replace q359 := eq_true q359
                    go_wp2
                    go_meet
                    case rel => exact ⟨_, (decide (t357 ≥ ((rd_L2 t345 t356).length : Int))), (by first | rfl | (simp; done) | (simp [*]; done)), H', ⟨by first | omega | exact Nat.le_refl _⟩, ⟨by (with_reducible repeat (first | apply Kd.S_alloc | apply Kd.S_drewN | apply Kd.S_drew)); exact HO347.out⟩, ⟨by (with_reducible repeat (first | apply Kd.R_alloc | apply Kd.R_drewN | apply Kd.R_drew)); exact HO352.out⟩, ⟨by (with_reducible repeat (first | refine blk_drewN ?_ _ | refine blk_drew ?_ | refine blk_alloc ?_ _)); exact BK353.out⟩, ⟨by repeat (first | (with_reducible first | exact HB.out | apply below_alloc | apply pw_below_drewN | apply below_drew1 | refine below_set ?_ (IsS26.ge HI344.out) | refine below_set ?_ GE353.out) | exact HB.out)⟩⟩
                  · rw [if_neg c37] at H
                    exact absurd H (by simp)
                · rw [if_neg c36] at H
                  exact absurd H (by simp)
        · rw [if_neg c32] at H
          have c32b0 : (t358 == 0) = false := beq_eq_false_iff_ne.mpr c32
          have c32b1 : (t358 != 0) = true := bne_iff_ne.mpr c32
          (first | rw [c32b0] | (simp only [i64_w, i32_w]; rw [c32b0]) | skip)
          have H' := Aside0.mk H
          clear H
          go_wp2
          go_meet
          case rel => exact ⟨_, (true), (by first | rfl | (simp; done) | (simp [*]; done)), H', ⟨by first | omega | exact Nat.le_refl _⟩, ⟨by (with_reducible repeat (first | apply Kd.S_alloc | apply Kd.S_drewN | apply Kd.S_drew)); exact HO347.out⟩, ⟨by (with_reducible repeat (first | apply Kd.R_alloc | apply Kd.R_drewN | apply Kd.R_drew)); exact HO352.out⟩, ⟨by (with_reducible repeat (first | refine blk_drewN ?_ _ | refine blk_drew ?_ | refine blk_alloc ?_ _)); exact BK353.out⟩, ⟨by repeat (first | (with_reducible first | exact HB.out | apply below_alloc | apply pw_below_drewN | apply below_drew1 | refine below_set ?_ (IsS26.ge HI344.out) | refine below_set ?_ GE353.out) | exact HB.out)⟩⟩
      case rest =>
        clear HC20
        try clear c1
        try clear c2
        try clear p2
        try clear c3
        try clear p3
        try clear q3
        try clear hx3
        try clear c6
        try clear c7
        try clear c7b0
        try clear c7b1
        try clear c13
        try clear c15
        try clear c16
        try clear c23
        try clear c26
        try clear c28
        try clear c30
        try clear c32
        try clear c32b0
        try clear c32b1
        try clear c33
        try clear c33b0
        try clear c34
        try clear c34b0
        try clear c35
        try clear c35b0
        try clear p35
        try clear q35
        try clear hx35
        try clear c36
        try clear c36b0
        try clear c37
        try clear c37b0
        try clear hcz14_0
        try clear hcz14_1
        try clear hcz17_0
        try clear hcz17_1
        try clear hcz27_0
        try clear hcz27_1
        try clear hcz30_0
        try clear hcz30_1
        try clear hfz14_0
        try clear hfz14_1
        try clear hfz17_0
        try clear hfz17_1
        try clear hfz27_0
        try clear hfz27_1
        try clear hfz30_0
        try clear hfz30_1
        try clear hx359_0
        try clear p359
        try clear q359
        obtain ⟨kq, x61_19, rfl, HA, HJ19, HO_6, HO_354001, BK353, HB⟩ := hcut
        cases kq with
        | zero => exact absurd HA.out (by simp [stockyardlaw25_ManifestFinds.j0])
        | succ kj19 =>
          have H := HA.out
          clear HA
          simp only [stockyardlaw25_ManifestFinds.j0] at H
          by_cases c38 : x61_19 = true
          · subst c38
            have H1 : (some false) = some r := by rw [if_pos rfl] at H; exact H
            clear H
            have H := H1
            clear H1
            exact absurd ((Option.some.inj H).trans HRT.out) (by decide)
          · replace c38 := Bool.eq_false_iff.mpr c38
            subst c38
            have H1 : (stockyardlaw25_ManifestFinds.l0 kj19 t345 t355 t356 t357 0 0) = some r := by rw [if_neg (show ¬ (false = true) by decide)] at H; exact H
            clear H
            have H := H1
            clear H1
            have H' := Aside0.mk H
            clear H
            go_wp2
            go_loopg [12, 13] kj19 (fun kq v12 v13 w' => ∃ (x12_2 : Int) (x13_2 : Int), v12 = .int .i64 x12_2 ∧ v13 = .int .i64 x13_2 ∧ Aside0 (stockyardlaw25_ManifestFinds.l0 kq t345 t355 t356 t357 x12_2 x13_2 = some r) ∧ Aside0 (kq ≤ kj19) ∧ Aside0 (Kd.S (Kd.slice 5 (Kd.int .u8)) 34 w' w.heap.size (fun _ => True) (.slice Ao23 t345.length co23) t345) ∧ Aside0 (Kd.R k51 51 w' w.heap.size (fun _ => True) (.slice Ao28 t350.length co28) t350) ∧ Aside0 (w'.heap[gb353]? = some (.cells #[.int .i64 t349, (.slice Ao28 t350.length co28)] 31 (0, 0))) ∧ Aside0 (Below w.heap.size w w'))
            case atStart => exact ⟨(0), (0), (by first | rfl | (simp; done) | (simp [*]; done)), (by first | rfl | (simp; done) | (simp [*]; done)), H', ⟨Nat.le_refl _⟩, ⟨by (with_reducible repeat (first | apply Kd.S_alloc | apply Kd.S_drewN | apply Kd.S_drew)); exact HO_6.out⟩, ⟨by (with_reducible repeat (first | apply Kd.R_alloc | apply Kd.R_drewN | apply Kd.R_drew)); exact HO_354001.out⟩, ⟨by (with_reducible repeat (first | refine blk_drewN ?_ _ | refine blk_drew ?_ | refine blk_alloc ?_ _)); exact BK353.out⟩, ⟨by repeat (first | (with_reducible first | exact HB.out | apply below_alloc | apply pw_below_drewN | apply below_drew1 | refine below_set ?_ GE353.out) | exact HB.out)⟩⟩
            case round =>
              clear H'
              try clear c1
              try clear c2
              try clear p2
              try clear c3
              try clear p3
              try clear q3
              try clear hx3
              try clear c6
              try clear c7
              try clear c7b0
              try clear c7b1
              try clear c13
              try clear c15
              try clear c16
              try clear c23
              try clear c26
              try clear c28
              try clear c30
              try clear c32
              try clear c32b0
              try clear c32b1
              try clear c33
              try clear c33b0
              try clear c34
              try clear c34b0
              try clear c35
              try clear c35b0
              try clear p35
              try clear q35
              try clear hx35
              try clear c36
              try clear c36b0
              try clear c37
              try clear c37b0
              try clear c38
              try clear hcz14_0
              try clear hcz14_1
              try clear hcz17_0
              try clear hcz17_1
              try clear hcz27_0
              try clear hcz27_1
              try clear hcz30_0
              try clear hcz30_1
              try clear hfz14_0
              try clear hfz14_1
              try clear hfz17_0
              try clear hfz17_1
              try clear hfz27_0
              try clear hfz27_1
              try clear hfz30_0
              try clear hfz30_1
              try clear hx359_0
              try clear p2
              try clear p3
              try clear p35
              try clear p359
              try clear q3
              try clear q35
              try clear q359
              obtain ⟨x12_2, x13_2, rfl, rfl, HA, HK2, HO_6, HO_354001, BK353, HB⟩ := hrel
              cases gk with
              | zero => exact absurd HA.out (by simp [stockyardlaw25_ManifestFinds.l0])
              | succ k2 =>
                have H := HA.out
                clear HA
                simp only [stockyardlaw25_ManifestFinds.l0] at H
                by_cases c39 : x13_2 < t356
                · rw [if_pos c39] at H
                  have c39b0 : decide (x13_2 < t356) = true := decide_eq_true c39
                  clear c39
                  by_cases c40 : 0 ≤ x13_2
                  · rw [if_pos c40] at H
                    have c40b0 : decide (0 ≤ x13_2) = true := decide_eq_true c40
                    clear c40
                    by_cases c41 : x13_2 < (t345.length : Int)
                    · rw [if_pos c41] at H
                      have c41b0 : decide (x13_2 < (t345.length : Int)) = true := decide_eq_true c41
                      clear c41
                      have H' := Aside0.mk H
                      clear H
                      have p360 : 0 ≤ (x13_2 : Int) := of_decide_eq_true (by first | (with_reducible assumption) | assumption)
                      have q360 : x13_2 < (t345.length : Int) := of_decide_eq_true (by first | (with_reducible assumption) | assumption)
                      obtain ⟨ad360, A360_0, c360_0, e360, hx360_0, hl360_0, hi360_0⟩ := at_L2 (Kd.S_reads' HO_6.out).2.2 x13_2 p360 q360
                      cases e360
                      obtain ⟨ce360, hce360, hMe360, hcc360⟩ := Kd.S_get HO_6.out [] x13_2 p360 (by first | exact q360 | exact of_decide_eq_true (by first | (with_reducible assumption) | assumption) | (have e_ := (Kd.S_reads' HO_6.out).1; omega))
                      obtain ⟨ve360_0, rfl, ge360_0⟩ := hMe360
                      have hv360_0 := hcc360 0 _ rfl
                      rw [Nat.add_zero, show ((Kd.slice 5 (Kd.int .u8))).sz = 1 from rfl, Nat.mul_one] at hv360_0
                      replace hv360_0 := Option.some.inj (hv360_0.symm.trans hx360_0)
                      rw [hv360_0] at ge360_0
                      have HL360_0 := Aside0.mk (show Kd.R (Kd.int .u8) 5 _ _ _ _ (rd_L2 t345 x13_2) from ge360_0)
                      clear hv360_0 ge360_0
                      clear hcc360 hce360
                      have HR360_0 := Aside0.mk hi360_0
                      have HC360_0 := Aside0.mk hl360_0
                      clear hi360_0 hl360_0
                      replace p360 := eq_true p360
                      replace q360 := eq_true q360
                      go_wp2
                      go_roundg k2
                      case measure => have := HJ19.out; have := HK2.out; omega
                      case rel => exact ⟨(wrap64 (x12_2 + ((rd_L2 t345 x13_2).length : Int))), (wrap64 (x13_2 + 1)), (by first | rfl | (simp; done) | (simp [*]; done)), (by first | rfl | (simp; done) | (simp [*]; done)), H', ⟨by have := HJ19.out; have := HK2.out; omega⟩, ⟨by (with_reducible repeat (first | apply Kd.S_alloc | apply Kd.S_drewN | apply Kd.S_drew)); exact HO_6.out⟩, ⟨by (with_reducible repeat (first | apply Kd.R_alloc | apply Kd.R_drewN | apply Kd.R_drew)); exact HO_354001.out⟩, ⟨by (with_reducible repeat (first | refine blk_drewN ?_ _ | refine blk_drew ?_ | refine blk_alloc ?_ _)); exact BK353.out⟩, ⟨by repeat (first | (with_reducible first | exact HB.out | apply below_alloc | apply pw_below_drewN | apply below_drew1 | refine below_set ?_ GE353.out) | exact HB.out)⟩⟩
                    · rw [if_neg c41] at H
                      exact absurd H (by simp)
                  · rw [if_neg c40] at H
                    exact absurd H (by simp)
                · rw [if_neg c39] at H
                  have c39b0 : decide (x13_2 < t356) = false := decide_eq_false c39
                  clear c39
                  by_cases c42 : (wrap64 (x12_2 + t357)) = t355
                  · rw [if_pos c42] at H
                    have c42b0 : ((wrap64 (x12_2 + t357)) == t355) = true := beq_iff_eq.mpr c42
                    have c42b1 : ((wrap64 (x12_2 + t357)) != t355) = false := bne_eq_false_iff_eq.mpr c42
                    clear c42
                    by_cases c43 : 0 ≤ t356
                    · rw [if_pos c43] at H
                      have c43b0 : decide (0 ≤ t356) = true := decide_eq_true c43
                      clear c43
                      by_cases c44 : t356 < (t345.length : Int)
                      · rw [if_pos c44] at H
                        have c44b0 : decide (t356 < (t345.length : Int)) = true := decide_eq_true c44
                        clear c44
                        by_cases c45 : 0 ≤ t357
                        · rw [if_pos c45] at H
                          have c45b0 : decide (0 ≤ t357) = true := decide_eq_true c45
                          clear c45
                          by_cases c46 : t357 < ((rd_L2 t345 t356).length : Int)
                          · rw [if_pos c46] at H
                            have c46b0 : decide (t357 < ((rd_L2 t345 t356).length : Int)) = true := decide_eq_true c46
                            clear c46
                            replace H := Option.bind_eq_some_iff.mp H
                            obtain ⟨t363, A470, H⟩ := H
                            replace H : (if 0 ≤ t355 then (if t355 < (t363.length : Int) then (some ((rd (rd_L2 t345 t356) t357) == (rd t363 t355))) else (none)) else (none)) = some r := H
                            have A47 := Aside0.mk A470
                            clear A470
                            by_cases c48 : 0 ≤ t355
                            · rw [if_pos c48] at H
                              have c48b0 : decide (0 ≤ t355) = true := decide_eq_true c48
                              clear c48
                              by_cases c49 : t355 < (t363.length : Int)
                              · rw [if_pos c49] at H
                                have c49b0 : decide (t355 < (t363.length : Int)) = true := decide_eq_true c49
                                clear c49
                                obtain rfl := Option.some.inj H
                                try go_wp2
                                have n0_ := Aside0.mk (Kd.S_drew HO_6.out)
                                have n1_ := Aside0.mk (Kd.R_drew HO_354001.out)
                                have n2_ := Aside0.mk (blk_drew BK353.out)
                                have n3_ := Aside0.mk (below_drew1 HB.out)
                                clear HO_6
                                clear HO_354001
                                clear BK353
                                clear HB
                                have HO_6 := n0_
                                have HO_354001 := n1_
                                have BK353 := n2_
                                have HB := n3_
                                clear n0_ n1_ n2_ n3_
                                have p361 : 0 ≤ (t356 : Int) := of_decide_eq_true (by first | (with_reducible assumption) | assumption)
                                have q361 : t356 < (t345.length : Int) := of_decide_eq_true (by first | (with_reducible assumption) | assumption)
                                obtain ⟨ad361, A361_0, c361_0, e361, hx361_0, hl361_0, hi361_0⟩ := at_L2 (Kd.S_reads' HO_6.out).2.2 t356 p361 q361
                                cases e361
                                obtain ⟨ce361, hce361, hMe361, hcc361⟩ := Kd.S_get HO_6.out [] t356 p361 (by first | exact q361 | exact of_decide_eq_true (by first | (with_reducible assumption) | assumption) | (have e_ := (Kd.S_reads' HO_6.out).1; omega))
                                obtain ⟨ve361_0, rfl, ge361_0⟩ := hMe361
                                have hv361_0 := hcc361 0 _ rfl
                                rw [Nat.add_zero, show ((Kd.slice 5 (Kd.int .u8))).sz = 1 from rfl, Nat.mul_one] at hv361_0
                                replace hv361_0 := Option.some.inj (hv361_0.symm.trans hx361_0)
                                rw [hv361_0] at ge361_0
                                have HL361_0 := Aside0.mk (show Kd.R (Kd.int .u8) 5 _ _ _ _ (rd_L2 t345 t356) from ge361_0)
                                clear hv361_0 ge361_0
                                clear hcc361 hce361
                                have HR361_0 := Aside0.mk hi361_0
                                have HC361_0 := Aside0.mk hl361_0
                                clear hi361_0 hl361_0
                                replace p361 := eq_true p361
                                replace q361 := eq_true q361
                                have p362 : 0 ≤ (t357 : Int) := of_decide_eq_true (by first | (with_reducible assumption) | assumption)
                                have q362 : t357 < ((rd_L2 t345 t356).length : Int) := of_decide_eq_true (by first | (with_reducible assumption) | assumption)
                                obtain ⟨ad362, e362, hx362_0⟩ := Kd.at_int (by repeat (first | (with_reducible exact HR361_0.out) | (with_reducible refine Kd.C_alloc ?_ _) | (with_reducible refine Kd.C_drewN ?_ _) | (with_reducible refine Kd.C_drew ?_) | exact HR361_0.out)) t357 p362 q362
                                cases e362
                                replace p362 := eq_true p362
                                replace q362 := eq_true q362
                                refine start_ (n := 21) (S := fun w' => w'.cell? (ad361.add (t356).toNat) = some (.slice (some ad362) (rd_L2 t345 t356).length c361_0) ∧ w'.cell? (ad362.add (t357).toNat) = some (.int .u8 (rd (rd_L2 t345 t356) t357))) (ds := []) #[false, false, false, false, false, false, false, false, false, false, false, false, false, false, false, false, false, false, false, false, false] (by kernel_rfl) rfl rfl ⟨hx361_0, hx362_0⟩ (fun hHeld => ?_); refine with_tabW stockyardlaw25_ManifestFinds.tab17 stockyardlaw25_ManifestFinds.bits17 (fun HT_ HW_ => ?_)
                                generalize wr.drew = w50 at HO_6 HO_354001 BK353 HB HL361_0 HR361_0 hx361_0 hx362_0 hHeld ⊢
                                refine pure_ (i := 0) (N := some 74) (v := ?_) (a' := ?_) #[true, false, false, false, false, false, false, false, false, false, false, false, false, false, false, false, false, false, false, false, false] rfl rfl (any_of HT_.out (by kernel_rfl)) (fun _ _ _ h => h) (Or.inl ⟨by rfl, ?_⟩) ?_ ?_
                                rotate_left
                                · intro w'
                                  go_simp
                                  with_reducible rfl
                                rotate_left
                                · simp only [Act.put, List.setIfInBounds_toArray, List.set_cons_zero, List.set_cons_succ, i64_w, i32_w]
                                  rfl
                                refine pure_ (i := 1) (N := some 75) (v := ?_) (a' := ?_) #[true, true, false, false, false, false, false, false, false, false, false, false, false, false, false, false, false, false, false, false, false] rfl rfl (any_of HT_.out (by kernel_rfl)) (fun _ _ _ h => h) (Or.inl ⟨by rfl, ?_⟩) ?_ ?_
                                rotate_left
                                · intro w'
                                  go_simp
                                  with_reducible rfl
                                rotate_left
                                · simp only [Act.put, List.setIfInBounds_toArray, List.set_cons_zero, List.set_cons_succ, i64_w, i32_w]
                                  rfl
                                refine pure_ (i := 2) (N := some 76) (v := ?_) (a' := ?_) #[true, true, true, false, false, false, false, false, false, false, false, false, false, false, false, false, false, false, false, false, false] rfl rfl (any_of HT_.out (by kernel_rfl)) (fun _ _ _ h => h) (Or.inl ⟨by rfl, ?_⟩) ?_ ?_
                                rotate_left
                                · intro w'
                                  go_simp
                                  with_reducible rfl
                                rotate_left
                                · simp only [Act.put, List.setIfInBounds_toArray, List.set_cons_zero, List.set_cons_succ, i64_w, i32_w]
                                  rfl
                                refine pure_ (i := 3) (N := some 77) (v := ?_) (a' := ?_) #[true, true, true, true, false, false, false, false, false, false, false, false, false, false, false, false, false, false, false, false, false] rfl rfl (any_of HT_.out (by kernel_rfl)) (fun _ _ _ h => h) (Or.inl ⟨by rfl, ?_⟩) ?_ ?_
                                rotate_left
                                · intro w'
                                  go_simp
                                  with_reducible rfl
                                rotate_left
                                · simp only [Act.put, List.setIfInBounds_toArray, List.set_cons_zero, List.set_cons_succ, i64_w, i32_w]
                                  rfl
                                refine pure_ (i := 4) (N := some 78) (v := ?_) (a' := ?_) #[true, true, true, true, true, false, false, false, false, false, false, false, false, false, false, false, false, false, false, false, false] rfl rfl (any_of HT_.out (by kernel_rfl)) (fun _ _ _ h => h) (Or.inl ⟨by rfl, ?_⟩) ?_ ?_
                                rotate_left
                                · intro w'
                                  go_simp
                                  with_reducible rfl
                                rotate_left
                                · simp only [Act.put, List.setIfInBounds_toArray, List.set_cons_zero, List.set_cons_succ, i64_w, i32_w]
                                  rfl
                                refine pure_ (i := 5) (N := some 79) (v := ?_) (a' := ?_) #[true, true, true, true, true, true, false, false, false, false, false, false, false, false, false, false, false, false, false, false, false] rfl rfl (any_of HT_.out (by kernel_rfl)) (fun _ _ _ h => h) (Or.inl ⟨by rfl, ?_⟩) ?_ ?_
                                rotate_left
                                · intro w'
                                  go_simp
                                  with_reducible rfl
                                rotate_left
                                · simp only [Act.put, List.setIfInBounds_toArray, List.set_cons_zero, List.set_cons_succ, i64_w, i32_w]
                                  rfl
                                refine pure_ (i := 6) (N := some 80) (v := ?_) (a' := ?_) #[true, true, true, true, true, true, true, false, false, false, false, false, false, false, false, false, false, false, false, false, false] rfl rfl (any_of HT_.out (by kernel_rfl)) (fun _ _ _ h => h) (Or.inl ⟨by rfl, ?_⟩) ?_ ?_
                                rotate_left
                                · intro w'
                                  go_simp
                                  with_reducible rfl
                                rotate_left
                                · simp only [Act.put, List.setIfInBounds_toArray, List.set_cons_zero, List.set_cons_succ, i64_w, i32_w]
                                  rfl
                                refine pure_ (i := 7) (N := some 81) (v := ?_) (a' := ?_) #[true, true, true, true, true, true, true, true, false, false, false, false, false, false, false, false, false, false, false, false, false] rfl rfl (any_of HT_.out (by kernel_rfl)) (fun _ _ _ h => h) (Or.inl ⟨by rfl, ?_⟩) ?_ ?_
                                rotate_left
                                · intro w'
                                  go_simp
                                  with_reducible rfl
                                rotate_left
                                · simp only [Act.put, List.setIfInBounds_toArray, List.set_cons_zero, List.set_cons_succ, i64_w, i32_w]
                                  rfl
                                refine pure_ (i := 8) (N := some 82) (v := ?_) (a' := ?_) #[true, true, true, true, true, true, true, true, true, false, false, false, false, false, false, false, false, false, false, false, false] rfl rfl (any_of HT_.out (by kernel_rfl)) (fun _ _ _ h => h) (Or.inl ⟨by rfl, ?_⟩) ?_ ?_
                                rotate_left
                                · intro w'
                                  go_simp
                                  with_reducible rfl
                                rotate_left
                                · simp only [Act.put, List.setIfInBounds_toArray, List.set_cons_zero, List.set_cons_succ, i64_w, i32_w]
                                  rfl
                                refine pure_ (i := 10) (N := some 84) (v := ?_) (a' := ?_) #[true, true, true, true, true, true, true, true, true, false, true, false, false, false, false, false, false, false, false, false, false] rfl rfl (any_of HT_.out (by kernel_rfl)) (fun _ _ _ h => h) (Or.inl ⟨by rfl, ?_⟩) ?_ ?_
                                rotate_left
                                · intro w'
                                  go_simp
                                  with_reducible rfl
                                rotate_left
                                · simp only [Act.put, List.setIfInBounds_toArray, List.set_cons_zero, List.set_cons_succ, i64_w, i32_w]
                                  rfl
                                refine pure_ (i := 13) (N := some 87) (v := ?_) (a' := ?_) #[true, true, true, true, true, true, true, true, true, false, true, false, false, true, false, false, false, false, false, false, false] rfl rfl (any_of HT_.out (by kernel_rfl)) (fun _ _ _ h => h) (Or.inl ⟨by rfl, ?_⟩) ?_ ?_
                                rotate_left
                                · intro w'
                                  go_simp
                                  with_reducible rfl
                                rotate_left
                                · simp only [Act.put, List.setIfInBounds_toArray, List.set_cons_zero, List.set_cons_succ, i64_w, i32_w]
                                  rfl
                                refine pure_ (i := 15) (N := some 89) (v := ?_) (a' := ?_) #[true, true, true, true, true, true, true, true, true, false, true, false, false, true, false, true, false, false, false, false, false] rfl rfl (any_of HT_.out (by kernel_rfl)) (fun _ _ _ h => h) (Or.inl ⟨by rfl, ?_⟩) ?_ ?_
                                rotate_left
                                · intro w'
                                  go_simp
                                  with_reducible rfl
                                rotate_left
                                · simp only [Act.put, List.setIfInBounds_toArray, List.set_cons_zero, List.set_cons_succ, i64_w, i32_w]
                                  rfl
                                refine take_ (i := 9) (N := some 83) (v := ?_) (a' := ?_) #[true, true, true, true, true, true, true, true, true, true, true, false, false, true, false, true, false, false, false, false, false] rfl rfl (take_ofW HT_.out HW_.out (by kernel_rfl)) (fun _ _ _ h => h) (Or.inl ⟨by rfl, ?_⟩) hHeld ?_ ?_
                                rotate_left
                                · rintro w' ⟨s0, s1⟩
                                  go_simp
                                  with_reducible rfl
                                rotate_left
                                · simp only [Act.put, List.setIfInBounds_toArray, List.set_cons_zero, List.set_cons_succ, i64_w, i32_w]
                                  rfl
                                refine pure_ (i := 11) (N := some 85) (v := ?_) (a' := ?_) #[true, true, true, true, true, true, true, true, true, true, true, true, false, true, false, true, false, false, false, false, false] rfl rfl (any_of HT_.out (by kernel_rfl)) (fun _ _ _ h => h) (Or.inl ⟨by rfl, ?_⟩) ?_ ?_
                                rotate_left
                                · intro w'
                                  go_simp
                                  with_reducible rfl
                                rotate_left
                                · simp only [Act.put, List.setIfInBounds_toArray, List.set_cons_zero, List.set_cons_succ, i64_w, i32_w]
                                  rfl
                                refine take_ (i := 12) (N := some 86) (v := ?_) (a' := ?_) #[true, true, true, true, true, true, true, true, true, true, true, true, true, true, false, true, false, false, false, false, false] rfl rfl (take_ofW HT_.out HW_.out (by kernel_rfl)) (fun _ _ _ h => h) (Or.inl ⟨by rfl, ?_⟩) hHeld ?_ ?_
                                rotate_left
                                · rintro w' ⟨s0, s1⟩
                                  go_simp
                                  with_reducible rfl
                                rotate_left
                                · simp only [Act.put, List.setIfInBounds_toArray, List.set_cons_zero, List.set_cons_succ, i64_w, i32_w]
                                  rfl
                                refine one_ (i := 14) (N := some 88) #[true, true, true, true, true, true, true, true, true, true, true, true, true, true, true, true, false, false, false, false, false] rfl rfl (one_of HT_.out (by kernel_rfl)) (by decide) (fun K hK => ?_)
                                refine goes_ Try.func31 (by kernel_rfl) rfl #[.slice (some ad361) t345.length co23] (by rfl) rfl rfl (by (try simp only [List.map_toArray, List.map_cons, List.map_nil]); first | done | rfl | (simp only [List.length_drop, List.length_take]; rfl)) ?_
                                with_reducible refine (stockyardmake_Joined.calls k2 _ _ t345 t363 _ ?side1 ?side2 A47.out).mono ?_
                                (case side1 => repeat (first | exact (Kd.S_reads' HO_6.out).2.2 | (with_reducible refine Kd.C_alloc ?_ _) | (with_reducible refine Kd.C_drewN ?_ _) | (with_reducible refine Kd.C_drew ?_)))
                                (case side2 => exact (Kd.S_reads' HO_6.out).2.1)
                                rintro e w51 ⟨v364, rfl, ho0, hb⟩
                                have HS0_ := (hb.cell (World.block_lt_of_cell? _ _ (hHeld.1))).trans (hHeld.1)
                                have HS1_ := (hb.cell (World.block_lt_of_cell? _ _ (hHeld.2))).trans (hHeld.2)
                                refine ⟨_, rfl, ?_⟩
                                have n0_ := Aside0.mk (Kd.S_elder' (by (with_reducible repeat (first | apply Kd.S_alloc | apply Kd.S_drewN | apply Kd.S_drew)); exact HO_6.out) (Kd.R_base ho0) hb)
                                have n1_ := Aside0.mk (Kd.R_below (by (with_reducible repeat (first | apply Kd.R_alloc | apply Kd.R_drewN | apply Kd.R_drew)); exact HO_354001.out) hb)
                                have n2_ := Aside0.mk (Kd.R_elder' (by (with_reducible repeat (first | apply Kd.R_alloc | apply Kd.R_drewN | apply Kd.R_drew)); exact HL361_0.out) (Kd.R_base ho0) hb)
                                have n3_ := Aside0.mk (Kd.R_lower (Kd.R_new' ho0 (Kd.R_lt (by (with_reducible repeat (first | apply Kd.R_alloc | apply Kd.R_drewN | apply Kd.R_drew)); exact HL361_0.out))) (below_size (by repeat (first | (with_reducible first | exact HB.out | apply below_alloc | apply pw_below_drewN | apply below_drew1 | refine below_set ?_ GE353.out) | exact HB.out))))
                                have n4_ := Aside0.mk (blk_below (g := gb353) (o := .cells #[.int .i64 t349, .slice Ao28 t350.length co28] 31 (0, 0)) (by (with_reducible repeat (first | refine blk_drewN ?_ _ | refine blk_drew ?_ | refine blk_alloc ?_ _)); exact BK353.out) hb)
                                have n5_ := Aside0.mk (Kd.C_below (by repeat (first | (with_reducible exact HR361_0.out) | (with_reducible refine Kd.C_alloc ?_ _) | (with_reducible refine Kd.C_drewN ?_ _) | (with_reducible refine Kd.C_drew ?_) | exact HR361_0.out)) hb)
                                have n6_ := Aside0.mk (below_step (by repeat (first | (with_reducible first | exact HB.out | apply below_alloc | apply pw_below_drewN | apply below_drew1 | refine below_set ?_ GE353.out) | exact HB.out)) hb)
                                clear HO_6
                                clear HO_354001
                                clear HL361_0
                                clear BK353
                                clear HR361_0
                                clear HB
                                have HO_6 := n0_
                                have HO_354001 := n1_
                                have HL361_0 := n2_
                                have HO365 := n3_
                                have BK353 := n4_
                                have HR361_0 := n5_
                                have HB := n6_
                                clear n0_ n1_ n2_ n3_ n4_ n5_ n6_
                                (try clear hb)
                                (try clear hb2)
                                (try clear hk)
                                (try clear hi)
                                (try clear ho0)
                                obtain ⟨Ao52, co52, eo52⟩ := Kd.R_slice HO365.out
                                (first | subst eo52 | (injection eo52 with f1_ f2_ f3_; have f4_ := f1_.symm; have f5_ := f3_.symm; clear f1_ f2_ f3_; subst f4_; subst f5_))
                                have p366 : 0 ≤ (t355 : Int) := of_decide_eq_true (by first | (with_reducible assumption) | assumption)
                                have q366 : t355 < (t363.length : Int) := of_decide_eq_true (by first | (with_reducible assumption) | assumption)
                                obtain ⟨ad366, e366, hx366_0⟩ := Kd.at_int (Kd.R_reads' HO365.out).2.2 t355 p366 q366
                                cases e366
                                replace p366 := eq_true p366
                                replace q366 := eq_true q366
                                refine hK.out _ _ ⟨HS0_, HS1_⟩ (fun hHeld => ?_)
                                clear hK K
                                refine norm_ (a' := ?_) ?_ ?_
                                rotate_left
                                · show Act.put _ (some 88) _ = _
                                  simp only [Act.put, List.setIfInBounds_toArray, List.set_cons_zero, List.set_cons_succ, i64_w, i32_w]
                                  rfl
                                refine pure_ (i := 16) (N := some 90) (v := ?_) (a' := ?_) #[true, true, true, true, true, true, true, true, true, true, true, true, true, true, true, true, true, false, false, false, false] rfl rfl (any_of HT_.out (by kernel_rfl)) (fun _ _ _ h => h) (Or.inl ⟨by rfl, ?_⟩) ?_ ?_
                                rotate_left
                                · intro w'
                                  go_simp
                                  with_reducible rfl
                                rotate_left
                                · simp only [Act.put, List.setIfInBounds_toArray, List.set_cons_zero, List.set_cons_succ, i64_w, i32_w]
                                  rfl
                                refine one_ (i := 17) (N := some 91) #[true, true, true, true, true, true, true, true, true, true, true, true, true, true, true, true, true, true, false, false, false] rfl rfl (one_of HT_.out (by kernel_rfl)) (by decide) (fun K hK => ?_)
                                refine value_ (w1 := ?_) (v := ?_) (by rfl) rfl ?_ ?_
                                rotate_left 2
                                · go_simp
                                  constructor
                                  · rfl
                                  · rfl
                                refine hK.out _ _ hHeld (fun hHeld => ?_)
                                clear hK K
                                refine norm_ (a' := ?_) ?_ ?_
                                rotate_left
                                · show Act.put _ (some 91) _ = _
                                  simp only [Act.put, List.setIfInBounds_toArray, List.set_cons_zero, List.set_cons_succ, i64_w, i32_w]
                                  rfl
                                refine pure_ (i := 18) (N := some 92) (v := ?_) (a' := ?_) #[true, true, true, true, true, true, true, true, true, true, true, true, true, true, true, true, true, true, true, false, false] rfl rfl (any_of HT_.out (by kernel_rfl)) (fun _ _ _ h => h) (Or.inl ⟨by rfl, ?_⟩) ?_ ?_
                                rotate_left
                                · intro w'
                                  go_simp
                                  with_reducible rfl
                                rotate_left
                                · simp only [Act.put, List.setIfInBounds_toArray, List.set_cons_zero, List.set_cons_succ, i64_w, i32_w]
                                  rfl
                                refine pure_ (i := 19) (N := some 93) (v := ?_) (a' := ?_) #[true, true, true, true, true, true, true, true, true, true, true, true, true, true, true, true, true, true, true, true, false] rfl rfl (any_of HT_.out (by kernel_rfl)) (fun _ _ _ h => h) (Or.inl ⟨by rfl, ?_⟩) ?_ ?_
                                rotate_left
                                · intro w'
                                  go_simp
                                  with_reducible rfl
                                rotate_left
                                · simp only [Act.put, List.setIfInBounds_toArray, List.set_cons_zero, List.set_cons_succ, i64_w, i32_w]
                                  rfl
                                refine pure_ (i := 20) (N := some 4) (v := ?_) (a' := ?_) #[true, true, true, true, true, true, true, true, true, true, true, true, true, true, true, true, true, true, true, true, true] rfl rfl (any_of HT_.out (by kernel_rfl)) (fun _ _ _ h => h) (Or.inl ⟨by rfl, ?_⟩) ?_ ?_
                                rotate_left
                                · intro w'
                                  go_simp
                                  with_reducible rfl
                                rotate_left
                                · simp only [Act.put, List.setIfInBounds_toArray, List.set_cons_zero, List.set_cons_succ, i64_w, i32_w]
                                  rfl
                                refine done_ (done_of HT_.out (by kernel_rfl)) ?_
                                try go_wp2
                                go_ret
                                exact ⟨by first | rfl | (simp [errW_none, errW_some] <;> rfl) | (simp [*, errW_none, errW_some] <;> rfl), by repeat (first | (with_reducible first | exact HB.out | apply below_alloc | apply pw_below_drewN | apply below_drew1 | refine below_set ?_ GE353.out) | exact HB.out)⟩
                              · rw [if_neg c49] at H
                                exact absurd H (by simp)
                            · rw [if_neg c48] at H
                              exact absurd H (by simp)
                          · rw [if_neg c46] at H
                            exact absurd H (by simp)
                        · rw [if_neg c45] at H
                          exact absurd H (by simp)
                      · rw [if_neg c44] at H
                        exact absurd H (by simp)
                    · rw [if_neg c43] at H
                      exact absurd H (by simp)
                  · rw [if_neg c42] at H
                    have c42b0 : ((wrap64 (x12_2 + t357)) == t355) = false := beq_eq_false_iff_ne.mpr c42
                    have c42b1 : ((wrap64 (x12_2 + t357)) != t355) = true := bne_iff_ne.mpr c42
                    exact absurd ((Option.some.inj H).trans HRT.out) (by decide)
  · replace c6 := Bool.eq_false_iff.mpr c6
    subst c6
    have H1 : (some false) = some r := by rw [if_neg (show ¬ (false = true) by decide)] at H; exact H
    clear H
    have H := H1
    clear H1
    exact absurd ((Option.some.inj H).trans HRT.out) (by decide)

end Go.Proofs.Ytleapbbdpediiaa.P
