-- What this claim does not use is left out (shake.py).
import Derived.Test.YtleapbbdpediiaaPx0
import Derived.Test.YtleapbbdpediiaaPxe51
import Derived.Test.YtleapbbdpediiaaPxf63
import Derived.Test.YtleapbbdpediiaaPxf45
-- Printed by a program (pr.py over the kit's print) out of the translation.
namespace Go.Proofs.Ytleapbbdpediiaa.P
open Go.RowKit Go.Proofs.YtleapbbdpediiaaW.PrintWords Go.Proofs.YtleapbbdpediiaaW.PrintLast Go.Proofs.YtleapbbdpediiaaW.PrintMore
attribute [local go_sem] max2_int min2_int max_two min_two max_three min_three max_four min_four   -- for this text's walks alone
set_option linter.unusedVariables false
set_option linter.unusedSimpArgs false

attribute [local go_sem high] eqA51
/-! ### manifest_Locate: function 28 -/
mutual
def manifest_Locate.j0 : Nat → Int → Int → Bool → Int → List (S51) → Option (Int × Int × Int)
  | 0, _, _, _, _, _ => none
  | k + 1, x1, x4, x20, x319000, x319001 => if x20 = true then (some (0, 0, 253)) else (manifest_Locate.l0 k x1 x4 x319000 x319001)
def manifest_Locate.l0 : Nat → Int → Int → Int → List (S51) → Option (Int × Int × Int)
  | 0, _, _, _, _ => none
  | k + 1, x1, x4, x319000, x319001 => if 0 ≤ x4 then (if x4 < (x319001.length : Int) then (if x1 ≥ ((rd_T51 x319001 x4).f1) then (manifest_Locate.l0 k (wrap64 (x1 - ((rd_T51 x319001 x4).f1))) (wrap64 (x4 + 1)) x319000 x319001) else (some (x4, x1, 0))) else (none)) else (none)
end
def manifest_Locate.f (k : Nat) (a0_0 : Int) (l0_1 : List (S51)) (a1 : Int) : Option (Int × Int × Int) := (manifest_Check.f k a0_0 l0_1).bind fun t319 => (if t319 = 0 then (if a1 < 0 then (manifest_Locate.j0 k a1 0 true a0_0 l0_1) else (manifest_Locate.j0 k a1 0 (decide (a1 ≥ a0_0)) a0_0 l0_1)) else (some (0, 0, t319)))
set_option maxHeartbeats 8000000 in
set_option maxRecDepth 100000 in
theorem manifest_Locate.calls (k : Nat) (a0_0 : Int) (A0_1 : Option Addr) (c0_1 : Nat) (l0_1 : List (S51)) (a1 : Int) (r1 : Int) (r2 : Int) (r3 : Int) (w : World) (hr0_1 : Kd.C k51 w A0_1 l0_1.length l0_1) (hc0_1 : l0_1.length ≤ c0_1) (h : manifest_Locate.f k a0_0 l0_1 a1 = some (r1, r2, r3)) :
    Calls Try.prog 28 #[.agg #[.int .i64 a0_0, .slice A0_1 l0_1.length c0_1], .int .i64 a1] w fun e w' => e = .returned (.tuple #[.int .i64 r1, .int .i64 r2, .int .i64 r3]) ∧ Below w.heap.size w w' := by
  have hu31 := Try.underlying31
  have HR0_1 := Aside0.mk hr0_1
  have HC0_1 := Aside0.mk hc0_1
  clear hr0_1 hc0_1
  have HB := Aside0.mk (Below.refl w.heap.size w)
  have H : ((manifest_Check.f k a0_0 l0_1).bind fun t319 => (if t319 = 0 then (if a1 < 0 then (manifest_Locate.j0 k a1 0 true a0_0 l0_1) else (manifest_Locate.j0 k a1 0 (decide (a1 ≥ a0_0)) a0_0 l0_1)) else (some (0, 0, t319)))) = some (r1, r2, r3) := h
  clear h
  replace H := Option.bind_eq_some_iff.mp H
  obtain ⟨t319, A30, H⟩ := H
  replace H : (if t319 = 0 then (if a1 < 0 then (manifest_Locate.j0 k a1 0 true a0_0 l0_1) else (manifest_Locate.j0 k a1 0 (decide (a1 ≥ a0_0)) a0_0 l0_1)) else (some (0, 0, t319))) = some (r1, r2, r3) := H
  have A3 := Aside0.mk A30
  clear A30
  by_cases c4 : t319 = 0
  · rw [if_pos c4] at H
    have c4b0 : (t319 == 0) = true := beq_iff_eq.mpr c4
    have c4b1 : (t319 != 0) = false := bne_eq_false_iff_eq.mpr c4
    clear c4
    have HC5 := Aside0.mk H
    clear H
    go_enter Try.func28, Try.ntmps28
    go_upto_region 4 with (first | ((with_reducible refine gate_dst (N := 2) rfl ?_); refine box_event ?hg (N := 2) ?hd (cs := #[.int .i64 a0_0, .slice A0_1 l0_1.length c0_1]) (t := 31) ?hr ?_; (case hd => rfl); (case hg => rfl); (case hr => first | (go_simp; done) | (go_simp; rfl)); intro gb318 hg w6 hbox hb; have n0_ := Aside0.mk (below_step (by repeat (first | (with_reducible first | exact HB.out | apply below_alloc | apply pw_below_drewN | apply below_drew1) | exact HB.out)) hb); have n1_ := Aside0.mk (hbox); have n2_ := Aside0.mk ((by rw [hg]; exact (below_size (by repeat (first | (with_reducible first | exact HB.out | apply below_alloc | apply pw_below_drewN | apply below_drew1) | exact HB.out))) : w.heap.size ≤ gb318)); have n3_ := Aside0.mk ((by rw [hg]; exact (below_size (by repeat (first | (with_reducible first | exact HB.out | apply below_alloc | apply pw_below_drewN | apply below_drew1) | exact HB.out))) : w.heap.size ≤ gb318)); clear HB; have HB := n0_; have BK318 := n1_; have GW318 := n2_; have GE318 := n3_; clear n0_ n1_ n2_ n3_; clear hb hbox hg; have hcz7_0 : w6.cell? ⟨gb318, 0, none⟩ = some (.int .i64 a0_0) := (blk_cell BK318.out 0).trans rfl; have hcz7_1 : w6.cell? ⟨gb318, 1, none⟩ = some (.slice A0_1 l0_1.length c0_1) := (blk_cell BK318.out 1).trans rfl; have hfz7_0 := blk_frozen BK318.out 0; have hfz7_1 := blk_frozen BK318.out 1) | ((with_reducible refine gate_callee (f := 45) rfl ?_); refine goesL_ (some 9) rfl rfl Try.func45 (by kernel_rfl) rfl #[.agg #[.int .i64 a0_0, .slice A0_1 l0_1.length c0_1]] rfl (by (try simp only [List.map_toArray, List.map_cons, List.map_nil]); first | done | rfl | (simp only [List.length_drop, List.length_take]; rfl)) ?_; (with_reducible refine (manifest_Check.calls k a0_0 _ _ l0_1 t319 _ ?side1 ?side2 A3.out).mono ?_); (case side1 => repeat (first | exact (Kd.C_below HR0_1.out HB.out) | (with_reducible refine Kd.C_alloc ?_ _) | (with_reducible refine Kd.C_drewN ?_ _) | (with_reducible refine Kd.C_drew ?_))); (case side2 => exact HC0_1.out); rintro e w8 ⟨rfl, hb⟩; refine ⟨_, rfl, ?_⟩; have n0_ := Aside0.mk (blk_below (g := gb318) (o := .cells #[.int .i64 a0_0, .slice A0_1 l0_1.length c0_1] 31 (0, 0)) (by (with_reducible repeat (first | refine blk_drewN ?_ _ | refine blk_drew ?_ | refine blk_alloc ?_ _)); exact BK318.out) hb); have n1_ := Aside0.mk (below_step (by repeat (first | (with_reducible first | exact HB.out | apply below_alloc | apply pw_below_drewN | apply below_drew1 | refine below_set ?_ GE318.out) | exact HB.out)) hb); clear BK318; clear HB; have BK318 := n0_; have HB := n1_; clear n0_ n1_; (try clear hb); (try clear hb2); (try clear hk); (try clear hi)))
    (try simp only [Act.put, List.setIfInBounds_toArray, List.set_cons_zero, List.set_cons_succ])
    go_cut [20] (fun v20 wc => ∃ (kq : Nat) (x20_4 : Bool), v20 = .bool x20_4 ∧ Aside0 (manifest_Locate.j0 kq a1 0 x20_4 a0_0 l0_1 = some (r1, r2, r3)) ∧ Aside0 (kq ≤ k) ∧ Aside0 (wc.heap[gb318]? = some (.cells #[.int .i64 a0_0, (.slice A0_1 l0_1.length c0_1)] 31 (0, 0))) ∧ Aside0 (Below w.heap.size w wc))
    case first =>
      have H := HC5.out
      clear HC5
      by_cases c9 : a1 < 0
      · rw [if_pos c9] at H
        have c9b0 : decide (a1 < 0) = true := decide_eq_true c9
        clear c9
        (first | rw [c9b0] | (simp only [i64_w, i32_w]; rw [c9b0]) | skip)
        have H' := Aside0.mk H
        clear H
        go_wp2
        go_meet
        case rel => exact ⟨_, (true), (by first | rfl | (simp; done) | (simp [*]; done)), H', ⟨by first | omega | exact Nat.le_refl _⟩, ⟨by (with_reducible repeat (first | refine blk_drewN ?_ _ | refine blk_drew ?_ | refine blk_alloc ?_ _)); exact BK318.out⟩, ⟨by repeat (first | (with_reducible first | exact HB.out | apply below_alloc | apply pw_below_drewN | apply below_drew1 | refine below_set ?_ GE318.out) | exact HB.out)⟩⟩
      · rw [if_neg c9] at H
        have c9b0 : decide (a1 < 0) = false := decide_eq_false c9
        clear c9
        (first | rw [c9b0] | (simp only [i64_w, i32_w]; rw [c9b0]) | skip)
        have H' := Aside0.mk H
        clear H
        have hcz10_0 : w8.cell? ⟨gb318, 0, none⟩ = some (.int .i64 a0_0) := (blk_cell BK318.out 0).trans rfl
        have hcz10_1 : w8.cell? ⟨gb318, 1, none⟩ = some (.slice A0_1 l0_1.length c0_1) := (blk_cell BK318.out 1).trans rfl
        have hfz10_0 := blk_frozen BK318.out 0
        have hfz10_1 := blk_frozen BK318.out 1
        go_wp2
        go_meet
        case rel => exact ⟨_, (decide (a1 ≥ a0_0)), (by first | rfl | (simp; done) | (simp [*]; done)), H', ⟨by first | omega | exact Nat.le_refl _⟩, ⟨by (with_reducible repeat (first | refine blk_drewN ?_ _ | refine blk_drew ?_ | refine blk_alloc ?_ _)); exact BK318.out⟩, ⟨by repeat (first | (with_reducible first | exact HB.out | apply below_alloc | apply pw_below_drewN | apply below_drew1 | refine below_set ?_ GE318.out) | exact HB.out)⟩⟩
    case rest =>
      clear HC5
      try clear c2
      try clear p2
      try clear c4
      try clear c4b0
      try clear c4b1
      try clear c9
      try clear c9b0
      try clear hcz10_0
      try clear hcz10_1
      try clear hcz7_0
      try clear hcz7_1
      try clear hfz10_0
      try clear hfz10_1
      try clear hfz7_0
      try clear hfz7_1
      obtain ⟨kq, x20_4, rfl, HA, HJ4, BK318, HB⟩ := hcut
      cases kq with
      | zero => exact absurd HA.out (by simp [manifest_Locate.j0])
      | succ kj4 =>
        have H := HA.out
        clear HA
        simp only [manifest_Locate.j0] at H
        by_cases c11 : x20_4 = true
        · subst c11
          have H1 : (some (0, 0, 253)) = some (r1, r2, r3) := by rw [if_pos rfl] at H; exact H
          clear H
          have H := H1
          clear H1
          simp only [Option.some.injEq, Prod.mk.injEq] at H
          obtain ⟨rfl, rfl, rfl⟩ := H
          go_wp2
          go_ret3
          exact ⟨by first | rfl | (simp [errW_none, errW_some] <;> rfl) | (simp [*, errW_none, errW_some] <;> rfl), by repeat (first | (with_reducible first | exact HB.out | apply below_alloc | apply pw_below_drewN | apply below_drew1 | refine below_set ?_ GE318.out) | exact HB.out)⟩
        · replace c11 := Bool.eq_false_iff.mpr c11
          subst c11
          have H1 : (manifest_Locate.l0 kj4 a1 0 a0_0 l0_1) = some (r1, r2, r3) := by rw [if_neg (show ¬ (false = true) by decide)] at H; exact H
          clear H
          have H := H1
          clear H1
          have H' := Aside0.mk H
          clear H
          go_wp2
          go_loopg [1, 4] kj4 (fun kq v1 v4 w' => ∃ (x1_2 : Int) (x4_2 : Int), v1 = .int .i64 x1_2 ∧ v4 = .int .i64 x4_2 ∧ Aside0 (manifest_Locate.l0 kq x1_2 x4_2 a0_0 l0_1 = some (r1, r2, r3)) ∧ Aside0 (kq ≤ kj4) ∧ Aside0 (w'.heap[gb318]? = some (.cells #[.int .i64 a0_0, (.slice A0_1 l0_1.length c0_1)] 31 (0, 0))) ∧ Aside0 (Below w.heap.size w w'))
          case atStart => exact ⟨(a1), (0), (by first | rfl | (simp; done) | (simp [*]; done)), (by first | rfl | (simp; done) | (simp [*]; done)), H', ⟨Nat.le_refl _⟩, ⟨by (with_reducible repeat (first | refine blk_drewN ?_ _ | refine blk_drew ?_ | refine blk_alloc ?_ _)); exact BK318.out⟩, ⟨by repeat (first | (with_reducible first | exact HB.out | apply below_alloc | apply pw_below_drewN | apply below_drew1 | refine below_set ?_ GE318.out) | exact HB.out)⟩⟩
          case round =>
            clear H'
            try clear c1
            try clear c2
            try clear p2
            try clear c4
            try clear c4b0
            try clear c4b1
            try clear c9
            try clear c9b0
            try clear c11
            try clear hcz10_0
            try clear hcz10_1
            try clear hcz7_0
            try clear hcz7_1
            try clear hfz10_0
            try clear hfz10_1
            try clear hfz7_0
            try clear hfz7_1
            try clear p2
            obtain ⟨x1_2, x4_2, rfl, rfl, HA, HK2, BK318, HB⟩ := hrel
            cases gk with
            | zero => exact absurd HA.out (by simp [manifest_Locate.l0])
            | succ k2 =>
              have H := HA.out
              clear HA
              simp only [manifest_Locate.l0] at H
              by_cases c12 : 0 ≤ x4_2
              · rw [if_pos c12] at H
                have c12b0 : decide (0 ≤ x4_2) = true := decide_eq_true c12
                clear c12
                by_cases c13 : x4_2 < (l0_1.length : Int)
                · rw [if_pos c13] at H
                  have c13b0 : decide (x4_2 < (l0_1.length : Int)) = true := decide_eq_true c13
                  clear c13
                  by_cases c14 : x1_2 ≥ ((rd_T51 l0_1 x4_2).f1)
                  · rw [if_pos c14] at H
                    have c14b0 : decide (((rd_T51 l0_1 x4_2).f1) ≤ x1_2) = true := decide_eq_true c14
                    clear c14
                    have H' := Aside0.mk H
                    clear H
                    have hcz15_0 : wr.cell? ⟨gb318, 0, none⟩ = some (.int .i64 a0_0) := (blk_cell BK318.out 0).trans rfl
                    have hcz15_1 : wr.cell? ⟨gb318, 1, none⟩ = some (.slice A0_1 l0_1.length c0_1) := (blk_cell BK318.out 1).trans rfl
                    have hfz15_0 := blk_frozen BK318.out 0
                    have hfz15_1 := blk_frozen BK318.out 1
                    have p320 : 0 ≤ (x4_2 : Int) := of_decide_eq_true (by first | (with_reducible assumption) | assumption)
                    have q320 : x4_2 < (l0_1.length : Int) := of_decide_eq_true (by first | (with_reducible assumption) | assumption)
                    obtain ⟨ad320, e320, hx320_0, hx320_1⟩ := at_T51 HR0_1.out x4_2 p320 q320
                    cases e320
                    replace hx320_0 := (HB.out.cell (World.block_lt_of_cell? w _ hx320_0)).trans hx320_0
                    replace hx320_1 := (HB.out.cell (World.block_lt_of_cell? w _ hx320_1)).trans hx320_1
                    replace p320 := eq_true p320
                    replace q320 := eq_true q320
                    have p321 : 0 ≤ (x4_2 : Int) := of_decide_eq_true (by first | (with_reducible assumption) | assumption)
                    have q321 : x4_2 < (l0_1.length : Int) := of_decide_eq_true (by first | (with_reducible assumption) | assumption)
                    obtain ⟨ad321, e321, hx321_0, hx321_1⟩ := at_T51 HR0_1.out x4_2 p321 q321
                    obtain rfl : ad320 = ad321 := (by injection e321)
                    replace hx321_0 := (HB.out.cell (World.block_lt_of_cell? w _ hx321_0)).trans hx321_0
                    replace hx321_1 := (HB.out.cell (World.block_lt_of_cell? w _ hx321_1)).trans hx321_1
                    replace p321 := eq_true p321
                    replace q321 := eq_true q321
                    go_wp2
                    go_roundg k2
                    case measure => have := HJ4.out; have := HK2.out; omega
                    case rel => exact ⟨(wrap64 (x1_2 - ((rd_T51 l0_1 x4_2).f1))), (wrap64 (x4_2 + 1)), (by first | rfl | (simp; done) | (simp [*]; done)), (by first | rfl | (simp; done) | (simp [*]; done)), H', ⟨by have := HJ4.out; have := HK2.out; omega⟩, ⟨by (with_reducible repeat (first | refine blk_drewN ?_ _ | refine blk_drew ?_ | refine blk_alloc ?_ _)); exact BK318.out⟩, ⟨by repeat (first | (with_reducible first | exact HB.out | apply below_alloc | apply pw_below_drewN | apply below_drew1 | refine below_set ?_ GE318.out) | exact HB.out)⟩⟩
                  · rw [if_neg c14] at H
                    have c14b0 : decide (((rd_T51 l0_1 x4_2).f1) ≤ x1_2) = false := decide_eq_false c14
                    clear c14
                    simp only [Option.some.injEq, Prod.mk.injEq] at H
                    obtain ⟨rfl, rfl, rfl⟩ := H
                    have hcz16_0 : wr.cell? ⟨gb318, 0, none⟩ = some (.int .i64 a0_0) := (blk_cell BK318.out 0).trans rfl
                    have hcz16_1 : wr.cell? ⟨gb318, 1, none⟩ = some (.slice A0_1 l0_1.length c0_1) := (blk_cell BK318.out 1).trans rfl
                    have hfz16_0 := blk_frozen BK318.out 0
                    have hfz16_1 := blk_frozen BK318.out 1
                    have p320 : 0 ≤ (x4_2 : Int) := of_decide_eq_true (by first | (with_reducible assumption) | assumption)
                    have q320 : x4_2 < (l0_1.length : Int) := of_decide_eq_true (by first | (with_reducible assumption) | assumption)
                    obtain ⟨ad320, e320, hx320_0, hx320_1⟩ := at_T51 HR0_1.out x4_2 p320 q320
                    cases e320
                    replace hx320_0 := (HB.out.cell (World.block_lt_of_cell? w _ hx320_0)).trans hx320_0
                    replace hx320_1 := (HB.out.cell (World.block_lt_of_cell? w _ hx320_1)).trans hx320_1
                    replace p320 := eq_true p320
                    replace q320 := eq_true q320
                    go_wp2
                    go_ret3
                    exact ⟨by first | rfl | (simp [errW_none, errW_some] <;> rfl) | (simp [*, errW_none, errW_some] <;> rfl), by repeat (first | (with_reducible first | exact HB.out | apply below_alloc | apply pw_below_drewN | apply below_drew1 | refine below_set ?_ GE318.out) | exact HB.out)⟩
                · rw [if_neg c13] at H
                  exact absurd H (by simp)
              · rw [if_neg c12] at H
                exact absurd H (by simp)
  · rw [if_neg c4] at H
    have c4b0 : (t319 == 0) = false := beq_eq_false_iff_ne.mpr c4
    have c4b1 : (t319 != 0) = true := bne_iff_ne.mpr c4
    simp only [Option.some.injEq, Prod.mk.injEq] at H
    obtain ⟨rfl, rfl, rfl⟩ := H
    go_enter Try.func28, Try.ntmps28
    go_wp2_with (first | ((with_reducible refine gate_dst (N := 2) rfl ?_); refine box_event ?hg (N := 2) ?hd (cs := #[.int .i64 a0_0, .slice A0_1 l0_1.length c0_1]) (t := 31) ?hr ?_; (case hd => rfl); (case hg => rfl); (case hr => first | (go_simp; done) | (go_simp; rfl)); intro gb318 hg w17 hbox hb; have n0_ := Aside0.mk (below_step (by repeat (first | (with_reducible first | exact HB.out | apply below_alloc | apply pw_below_drewN | apply below_drew1) | exact HB.out)) hb); have n1_ := Aside0.mk (hbox); have n2_ := Aside0.mk ((by rw [hg]; exact (below_size (by repeat (first | (with_reducible first | exact HB.out | apply below_alloc | apply pw_below_drewN | apply below_drew1) | exact HB.out))) : w.heap.size ≤ gb318)); have n3_ := Aside0.mk ((by rw [hg]; exact (below_size (by repeat (first | (with_reducible first | exact HB.out | apply below_alloc | apply pw_below_drewN | apply below_drew1) | exact HB.out))) : w.heap.size ≤ gb318)); clear HB; have HB := n0_; have BK318 := n1_; have GW318 := n2_; have GE318 := n3_; clear n0_ n1_ n2_ n3_; clear hb hbox hg; have hcz18_0 : w17.cell? ⟨gb318, 0, none⟩ = some (.int .i64 a0_0) := (blk_cell BK318.out 0).trans rfl; have hcz18_1 : w17.cell? ⟨gb318, 1, none⟩ = some (.slice A0_1 l0_1.length c0_1) := (blk_cell BK318.out 1).trans rfl; have hfz18_0 := blk_frozen BK318.out 0; have hfz18_1 := blk_frozen BK318.out 1) | ((with_reducible refine gate_callee (f := 45) rfl ?_); refine goesL_ (some 9) rfl rfl Try.func45 (by kernel_rfl) rfl #[.agg #[.int .i64 a0_0, .slice A0_1 l0_1.length c0_1]] rfl (by (try simp only [List.map_toArray, List.map_cons, List.map_nil]); first | done | rfl | (simp only [List.length_drop, List.length_take]; rfl)) ?_; (with_reducible refine (manifest_Check.calls k a0_0 _ _ l0_1 t319 _ ?side1 ?side2 A3.out).mono ?_); (case side1 => repeat (first | exact (Kd.C_below HR0_1.out HB.out) | (with_reducible refine Kd.C_alloc ?_ _) | (with_reducible refine Kd.C_drewN ?_ _) | (with_reducible refine Kd.C_drew ?_))); (case side2 => exact HC0_1.out); rintro e w19 ⟨rfl, hb⟩; refine ⟨_, rfl, ?_⟩; have n0_ := Aside0.mk (blk_below (g := gb318) (o := .cells #[.int .i64 a0_0, .slice A0_1 l0_1.length c0_1] 31 (0, 0)) (by (with_reducible repeat (first | refine blk_drewN ?_ _ | refine blk_drew ?_ | refine blk_alloc ?_ _)); exact BK318.out) hb); have n1_ := Aside0.mk (below_step (by repeat (first | (with_reducible first | exact HB.out | apply below_alloc | apply pw_below_drewN | apply below_drew1 | refine below_set ?_ GE318.out) | exact HB.out)) hb); clear BK318; clear HB; have BK318 := n0_; have HB := n1_; clear n0_ n1_; (try clear hb); (try clear hb2); (try clear hk); (try clear hi)))
    go_ret3
    exact ⟨by first | rfl | (simp [errW_none, errW_some] <;> rfl) | (simp [*, errW_none, errW_some] <;> rfl), by repeat (first | (with_reducible first | exact HB.out | apply below_alloc | apply pw_below_drewN | apply below_drew1 | refine below_set ?_ GE318.out) | exact HB.out)⟩

/-! ### stockyardref25_Locate: function 29 -/
-- NOT PRINTED: function 5 (stockyardlaw25_ManifestSlices)

/-! ### stockyardmake_Joined: function 31 -/
def stockyardmake_Joined.l0 : Nat → List (List Int) → List Int → Int → Option (List Int)
  | 0, _, _, _ => none
  | k + 1, x0, x3, x4 => if x4 < (x0.length : Int) then (if 0 ≤ x4 then (if x3.length + (rd_L2 x0 x4).length < 140737488355328 then (stockyardmake_Joined.l0 k x0 (x3 ++ (rd_L2 x0 x4)) (wrap64 (x4 + 1))) else (none)) else (none)) else (some x3)
def stockyardmake_Joined.f (k : Nat) (l0 : List (List Int)) : Option (List Int) := stockyardmake_Joined.l0 k l0 ([] : List Int) 0
set_option maxHeartbeats 8000000 in
set_option maxRecDepth 100000 in
theorem stockyardmake_Joined.calls (k : Nat) (A0 : Option Addr) (c0 : Nat) (l0 : List (List Int)) (r : List Int) (w : World) (hr0 : Kd.C (Kd.slice 5 (Kd.int .u8)) w A0 l0.length l0) (hc0 : l0.length ≤ c0) (h : stockyardmake_Joined.f k l0 = some r) :
    Calls Try.prog 31 #[.slice A0 l0.length c0] w fun e w' => ∃ v0_ : Value, e = .returned (v0_) ∧ Kd.R (Kd.int .u8) 5 w' w.heap.size (fun _ => True) v0_ r ∧ Below w.heap.size w w' := by
  have HR0 := Aside0.mk hr0
  have HC0 := Aside0.mk hc0
  clear hr0 hc0
  have HB := Aside0.mk (Below.refl w.heap.size w)
  have H : (stockyardmake_Joined.l0 k l0 ([] : List Int) 0) = some r := h
  clear h
  have H' := Aside0.mk H
  clear H
  go_enter Try.func31, Try.ntmps31
  go_wp2
  go_loopg [3, 4] k (fun kq v3 v4 w' => ∃ (x3_1 : List Int) (x4_1 : Int), v4 = .int .i64 x4_1 ∧ Aside0 (stockyardmake_Joined.l0 kq l0 x3_1 x4_1 = some r) ∧ Aside0 (kq ≤ k) ∧ Aside0 (Kd.R (Kd.int .u8) 5 w' w.heap.size (fun _ => True) v3 x3_1) ∧ Aside0 (Below w.heap.size w w'))
  case atStart => exact ⟨(([] : List Int)), (0), (by first | rfl | (simp; done) | (simp [*]; done)), H', ⟨Nat.le_refl _⟩, ⟨by first | exact Kd.R_nil _ _ _ _ _ | exact Kd.N_nil _ _ _ _ _ | exact Kd.V_nil _ _ _ _ _ | exact Kd.Q_nil _ _ _ _ _ | exact Kd.S_nil _ _ _ _ _⟩, ⟨by repeat (first | (with_reducible first | exact HB.out | apply below_alloc | apply pw_below_drewN | apply below_drew1) | exact HB.out)⟩⟩
  case round =>
    clear H'
    obtain ⟨x3_1, x4_1, rfl, HA, HK1, HO_3, HB⟩ := hrel
    cases gk with
    | zero => exact absurd HA.out (by simp [stockyardmake_Joined.l0])
    | succ k1 =>
      have H := HA.out
      clear HA
      simp only [stockyardmake_Joined.l0] at H
      by_cases c2 : x4_1 < (l0.length : Int)
      · rw [if_pos c2] at H
        have c2b0 : decide (x4_1 < (l0.length : Int)) = true := decide_eq_true c2
        clear c2
        by_cases c3 : 0 ≤ x4_1
        · rw [if_pos c3] at H
          have c3b0 : decide (0 ≤ x4_1) = true := decide_eq_true c3
          clear c3
          by_cases c4 : x3_1.length + (rd_L2 l0 x4_1).length < 140737488355328
          · rw [if_pos c4] at H
            have LMc4 := Aside0.mk c4
            clear c4
            obtain ⟨y341, hy341⟩ : ∃ y_ : List Int, y_ = (x3_1 ++ (rd_L2 l0 x4_1)) := ⟨_, rfl⟩
            replace H : (stockyardmake_Joined.l0 k1 l0 y341 (wrap64 (x4_1 + 1))) = some r := by first | (rw [hy341]; with_reducible exact H) | (have H2_ := (Option.bind_some _ _).symm.trans H; rw [hy341]; with_reducible exact H2_) | (have H2_ := (Option.bind_some _ _).symm.trans H; with_reducible exact H2_) | with_reducible exact H | (rw [hy341]; exact H) | exact H
            have Ny341 := Aside0.mk hy341
            clear hy341
            have H' := Aside0.mk H
            clear H
            have p340 : 0 ≤ (x4_1 : Int) := of_decide_eq_true (by first | (with_reducible assumption) | assumption)
            have q340 : x4_1 < (l0.length : Int) := of_decide_eq_true (by first | (with_reducible assumption) | assumption)
            obtain ⟨ad340, A340_0, c340_0, e340, hx340_0, hl340_0, hi340_0⟩ := at_L2 HR0.out x4_1 p340 q340
            cases e340
            replace hx340_0 := (HB.out.cell (World.block_lt_of_cell? w _ hx340_0)).trans hx340_0
            have HR340_0 := Aside0.mk hi340_0
            have HC340_0 := Aside0.mk hl340_0
            clear hi340_0 hl340_0
            replace p340 := eq_true p340
            replace q340 := eq_true q340
            go_wp2_with (first | ((with_reducible refine gate_builtin (b := .append) (xs := #[.tmp 11, .tmp 15]) rfl ?_); at_builtin; refine Kd.R_append_rows (Kd.int .u8) (w0 := w) w.heap.size rfl (.tmp 11) (.tmp 15) 34 5 (.int .u8 0) 1 rfl Try.underlying34 info5 rfl (by decide) (by omega) u3 x3_1 (rd_L2 l0 x4_1) _ _ _ (fun _ => True) (fun _ => False) rfl rfl ?aO ?aR (fun _ _ h => h) (fun _ h => h.elim) ?aF ?aB ?aS ?aL ?_; (case aR => repeat (first | exact (Kd.C_below HR340_0.out HB.out) | (with_reducible refine Kd.C_alloc ?_ _) | (with_reducible refine Kd.C_drewN ?_ _) | (with_reducible refine Kd.C_drew ?_))); (case aB => exact (by repeat (first | (with_reducible first | exact HB.out | apply below_alloc | apply pw_below_drewN | apply below_drew1) | exact HB.out))); (case aF => exact (fun _ _ => trivial)); (case aO => exact (by (with_reducible repeat (first | apply Kd.R_alloc | apply Kd.R_drewN | apply Kd.R_drew)); exact HO_3.out)); (case aS => exact (below_size (by repeat (first | (with_reducible first | exact HB.out | apply below_alloc | apply pw_below_drewN | apply below_drew1) | exact HB.out)))); (case aL => have := LMc4.out; omega); intro v342 w5 ho hb hg hat; rw [← Ny341.out] at ho; have n0_ := Aside0.mk (hb); have n1_ := Aside0.mk (ho); clear HB; clear HO_3; have HB := n0_; have HO343 := n1_; clear n0_ n1_; clear ho hb hg hat))
            go_roundg k1
            case measure => have := HK1.out; omega
            case rel => exact ⟨(y341), (wrap64 (x4_1 + 1)), (by first | rfl | (simp; done) | (simp [*]; done)), H', ⟨by have := HK1.out; omega⟩, ⟨by (with_reducible repeat (first | apply Kd.R_alloc | apply Kd.R_drewN | apply Kd.R_drew)); exact HO343.out⟩, ⟨by repeat (first | (with_reducible first | exact HB.out | apply below_alloc | apply pw_below_drewN | apply below_drew1) | exact HB.out)⟩⟩
          · rw [if_neg c4] at H
            exact absurd H (by simp)
        · rw [if_neg c3] at H
          exact absurd H (by simp)
      · rw [if_neg c2] at H
        have c2b0 : decide (x4_1 < (l0.length : Int)) = false := decide_eq_false c2
        clear c2
        obtain rfl := Option.some.inj H
        go_wp2
        go_ret
        exact ⟨_, by first | rfl | (simp [errW_none, errW_some] <;> rfl) | (simp [*, errW_none, errW_some] <;> rfl), by (with_reducible repeat (first | apply Kd.R_alloc | apply Kd.R_drewN | apply Kd.R_drew)); exact HO_3.out, by repeat (first | (with_reducible first | exact HB.out | apply below_alloc | apply pw_below_drewN | apply below_drew1) | exact HB.out)⟩

/-! ### stockyardref25_Has: function 32 -/
end Go.Proofs.Ytleapbbdpediiaa.P
