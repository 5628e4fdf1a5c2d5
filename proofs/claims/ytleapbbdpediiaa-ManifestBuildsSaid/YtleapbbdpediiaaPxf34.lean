-- What this claim does not use is left out (shake.py).
import Derived.Test.YtleapbbdpediiaaPx0
import Derived.Test.YtleapbbdpediiaaPxe51
import Derived.Test.YtleapbbdpediiaaPxf28
import Derived.Test.YtleapbbdpediiaaPxf63
-- Printed by a program (pr.py over the kit's print) out of the translation.
namespace Go.Proofs.Ytleapbbdpediiaa.P
open Go.RowKit Go.Proofs.YtleapbbdpediiaaW.PrintWords Go.Proofs.YtleapbbdpediiaaW.PrintLast Go.Proofs.YtleapbbdpediiaaW.PrintMore
attribute [local go_sem] max2_int min2_int max_two min_two max_three min_three max_four min_four   -- for this text's walks alone
set_option linter.unusedVariables false
set_option linter.unusedSimpArgs false

attribute [local go_sem high] eqA51
/-! ### stockyardref25_Missing: function 34 -/
def stockyardref25_Missing.l0 : Nat → List (S51) → List (S51) → Int → Int → List (S51) → Option ((List (S51)) × Int)
  | 0, _, _, _, _, _ => none
  | k + 1, x1, x7, x8, x370000, x370001 => if x8 < (x370001.length : Int) then (if 0 ≤ x8 then ((stockyardref25_Has.f k x1 ((rd_T51 x370001 x8).f0) ((rd_T51 x370001 x8).f1)).bind fun t372 => (if t372 = true then (stockyardref25_Missing.l0 k x1 x7 (wrap64 (x8 + 1)) x370000 x370001) else ((stockyardref25_Has.f k x7 ((rd_T51 x370001 x8).f0) ((rd_T51 x370001 x8).f1)).bind fun t374 => (if t374 = true then (stockyardref25_Missing.l0 k x1 x7 (wrap64 (x8 + 1)) x370000 x370001) else (if x7.length < 8796093022208 then (stockyardref25_Missing.l0 k x1 (x7 ++ [(⟨(rd_T51 x370001 x8).f0, (rd_T51 x370001 x8).f1⟩ : S51)]) (wrap64 (x8 + 1)) x370000 x370001) else (none)))))) else (none)) else (some (x7, 0))
def stockyardref25_Missing.f (k : Nat) (a0_0 : Int) (l0_1 : List (S51)) (l1 : List (S51)) : Option ((List (S51)) × Int) := (stockyardref25_Check.f k a0_0 l0_1).bind fun t370 => (if t370 = 0 then (stockyardref25_Missing.l0 k l1 ([] : List (S51)) 0 a0_0 l0_1) else (some (([] : List (S51)), t370)))
set_option maxHeartbeats 8000000 in
set_option maxRecDepth 100000 in
theorem stockyardref25_Missing.calls (k : Nat) (a0_0 : Int) (A0_1 : Option Addr) (c0_1 : Nat) (l0_1 : List (S51)) (A1 : Option Addr) (c1 : Nat) (l1 : List (S51)) (r1 : List (S51)) (r2 : Int) (w : World) (hr0_1 : Kd.C k51 w A0_1 l0_1.length l0_1) (hc0_1 : l0_1.length ≤ c0_1) (hr1 : Kd.C k51 w A1 l1.length l1) (hc1 : l1.length ≤ c1) (h : stockyardref25_Missing.f k a0_0 l0_1 l1 = some (r1, r2)) :
    Calls Try.prog 34 #[.agg #[.int .i64 a0_0, .slice A0_1 l0_1.length c0_1], .slice A1 l1.length c1] w fun e w' => ∃ v0_ : Value, e = .returned (.tuple #[v0_, .int .i64 r2]) ∧ Kd.R k51 51 w' w.heap.size (fun _ => True) v0_ r1 ∧ Below w.heap.size w w' := by
  have hu31 := Try.underlying31
  have hu51 := Try.underlying51
  have HR0_1 := Aside0.mk hr0_1
  have HC0_1 := Aside0.mk hc0_1
  clear hr0_1 hc0_1
  have HR1 := Aside0.mk hr1
  have HC1 := Aside0.mk hc1
  clear hr1 hc1
  have HB := Aside0.mk (Below.refl w.heap.size w)
  have H : ((stockyardref25_Check.f k a0_0 l0_1).bind fun t370 => (if t370 = 0 then (stockyardref25_Missing.l0 k l1 ([] : List (S51)) 0 a0_0 l0_1) else (some (([] : List (S51)), t370)))) = some (r1, r2) := h
  clear h
  replace H := Option.bind_eq_some_iff.mp H
  obtain ⟨t370, A30, H⟩ := H
  replace H : (if t370 = 0 then (stockyardref25_Missing.l0 k l1 ([] : List (S51)) 0 a0_0 l0_1) else (some (([] : List (S51)), t370))) = some (r1, r2) := H
  have A3 := Aside0.mk A30
  clear A30
  by_cases c4 : t370 = 0
  · rw [if_pos c4] at H
    have c4b0 : (t370 == 0) = true := beq_iff_eq.mpr c4
    have c4b1 : (t370 != 0) = false := bne_eq_false_iff_eq.mpr c4
    clear c4
    have H' := Aside0.mk H
    clear H
    go_enter Try.func34, Try.ntmps34
    go_wp2_with (first | ((with_reducible refine gate_dst (N := 2) rfl ?_); refine box_event ?hg (N := 2) ?hd (cs := #[.int .i64 a0_0, .slice A0_1 l0_1.length c0_1]) (t := 31) ?hr ?_; (case hd => rfl); (case hg => rfl); (case hr => first | (go_simp; done) | (go_simp; rfl)); intro gb369 hg w5 hbox hb; have n0_ := Aside0.mk (below_step (by repeat (first | (with_reducible first | exact HB.out | apply below_alloc | apply pw_below_drewN | apply below_drew1) | exact HB.out)) hb); have n1_ := Aside0.mk (hbox); have n2_ := Aside0.mk ((by rw [hg]; exact (below_size (by repeat (first | (with_reducible first | exact HB.out | apply below_alloc | apply pw_below_drewN | apply below_drew1) | exact HB.out))) : w.heap.size ≤ gb369)); have n3_ := Aside0.mk ((by rw [hg]; exact (below_size (by repeat (first | (with_reducible first | exact HB.out | apply below_alloc | apply pw_below_drewN | apply below_drew1) | exact HB.out))) : w.heap.size ≤ gb369)); clear HB; have HB := n0_; have BK369 := n1_; have GW369 := n2_; have GE369 := n3_; clear n0_ n1_ n2_ n3_; clear hb hbox hg; have hcz6_0 : w5.cell? ⟨gb369, 0, none⟩ = some (.int .i64 a0_0) := (blk_cell BK369.out 0).trans rfl; have hcz6_1 : w5.cell? ⟨gb369, 1, none⟩ = some (.slice A0_1 l0_1.length c0_1) := (blk_cell BK369.out 1).trans rfl; have hfz6_0 := blk_frozen BK369.out 0; have hfz6_1 := blk_frozen BK369.out 1) | ((with_reducible refine gate_callee (f := 44) rfl ?_); refine goesL_ (some 10) rfl rfl Try.func44 (by kernel_rfl) rfl #[.agg #[.int .i64 a0_0, .slice A0_1 l0_1.length c0_1]] rfl (by (try simp only [List.map_toArray, List.map_cons, List.map_nil]); first | done | rfl | (simp only [List.length_drop, List.length_take]; rfl)) ?_; (with_reducible refine (stockyardref25_Check.calls k a0_0 _ _ l0_1 t370 _ ?side1 ?side2 A3.out).mono ?_); (case side1 => repeat (first | exact (Kd.C_below HR0_1.out HB.out) | (with_reducible refine Kd.C_alloc ?_ _) | (with_reducible refine Kd.C_drewN ?_ _) | (with_reducible refine Kd.C_drew ?_))); (case side2 => exact HC0_1.out); rintro e w7 ⟨rfl, hb⟩; refine ⟨_, rfl, ?_⟩; have n0_ := Aside0.mk (blk_below (g := gb369) (o := .cells #[.int .i64 a0_0, .slice A0_1 l0_1.length c0_1] 31 (0, 0)) (by (with_reducible repeat (first | refine blk_drewN ?_ _ | refine blk_drew ?_ | refine blk_alloc ?_ _)); exact BK369.out) hb); have n1_ := Aside0.mk (below_step (by repeat (first | (with_reducible first | exact HB.out | apply below_alloc | apply pw_below_drewN | apply below_drew1 | refine below_set ?_ GE369.out) | exact HB.out)) hb); clear BK369; clear HB; have BK369 := n0_; have HB := n1_; clear n0_ n1_; (try clear hb); (try clear hb2); (try clear hk); (try clear hi)))
    go_loopg [7, 8] k (fun kq v7 v8 w' => ∃ (x7_1 : List (S51)) (x8_1 : Int), v8 = .int .i64 x8_1 ∧ Aside0 (stockyardref25_Missing.l0 kq l1 x7_1 x8_1 a0_0 l0_1 = some (r1, r2)) ∧ Aside0 (kq ≤ k) ∧ Aside0 (Kd.R k51 51 w' w.heap.size (fun _ => True) v7 x7_1) ∧ Aside0 (w'.heap[gb369]? = some (.cells #[.int .i64 a0_0, (.slice A0_1 l0_1.length c0_1)] 31 (0, 0))) ∧ Aside0 (Below w.heap.size w w'))
    case atStart => exact ⟨(([] : List (S51))), (0), (by first | rfl | (simp; done) | (simp [*]; done)), H', ⟨Nat.le_refl _⟩, ⟨by first | exact Kd.R_nil _ _ _ _ _ | exact Kd.N_nil _ _ _ _ _ | exact Kd.V_nil _ _ _ _ _ | exact Kd.Q_nil _ _ _ _ _ | exact Kd.S_nil _ _ _ _ _⟩, ⟨by (with_reducible repeat (first | refine blk_drewN ?_ _ | refine blk_drew ?_ | refine blk_alloc ?_ _)); exact BK369.out⟩, ⟨by repeat (first | (with_reducible first | exact HB.out | apply below_alloc | apply pw_below_drewN | apply below_drew1 | refine below_set ?_ GE369.out) | exact HB.out)⟩⟩
    case round =>
      clear H'
      try clear c1
      try clear p2
      try clear c3
      try clear c4
      try clear c4b0
      try clear c4b1
      try clear hcz6_0
      try clear hcz6_1
      try clear hfz6_0
      try clear hfz6_1
      obtain ⟨x7_1, x8_1, rfl, HA, HK1, HO_7, BK369, HB⟩ := hrel
      cases gk with
      | zero => exact absurd HA.out (by simp [stockyardref25_Missing.l0])
      | succ k1 =>
        have H := HA.out
        clear HA
        simp only [stockyardref25_Missing.l0] at H
        by_cases c8 : x8_1 < (l0_1.length : Int)
        · rw [if_pos c8] at H
          have c8b0 : decide (x8_1 < (l0_1.length : Int)) = true := decide_eq_true c8
          clear c8
          by_cases c9 : 0 ≤ x8_1
          · rw [if_pos c9] at H
            have c9b0 : decide (0 ≤ x8_1) = true := decide_eq_true c9
            clear c9
            replace H := Option.bind_eq_some_iff.mp H
            obtain ⟨t372, A100, H⟩ := H
            replace H : (if t372 = true then (stockyardref25_Missing.l0 k1 l1 x7_1 (wrap64 (x8_1 + 1)) a0_0 l0_1) else ((stockyardref25_Has.f k1 x7_1 ((rd_T51 l0_1 x8_1).f0) ((rd_T51 l0_1 x8_1).f1)).bind fun t374 => (if t374 = true then (stockyardref25_Missing.l0 k1 l1 x7_1 (wrap64 (x8_1 + 1)) a0_0 l0_1) else (if x7_1.length < 8796093022208 then (stockyardref25_Missing.l0 k1 l1 (x7_1 ++ [(⟨(rd_T51 l0_1 x8_1).f0, (rd_T51 l0_1 x8_1).f1⟩ : S51)]) (wrap64 (x8_1 + 1)) a0_0 l0_1) else (none))))) = some (r1, r2) := H
            have A10 := Aside0.mk A100
            clear A100
            by_cases c11 : t372 = true
            · subst c11
              have H1 : (stockyardref25_Missing.l0 k1 l1 x7_1 (wrap64 (x8_1 + 1)) a0_0 l0_1) = some (r1, r2) := by rw [if_pos rfl] at H; exact H
              clear H
              have H := H1
              clear H1
              have H' := Aside0.mk H
              clear H
              have hcz12_0 : wr.cell? ⟨gb369, 0, none⟩ = some (.int .i64 a0_0) := (blk_cell BK369.out 0).trans rfl
              have hcz12_1 : wr.cell? ⟨gb369, 1, none⟩ = some (.slice A0_1 l0_1.length c0_1) := (blk_cell BK369.out 1).trans rfl
              have hfz12_0 := blk_frozen BK369.out 0
              have hfz12_1 := blk_frozen BK369.out 1
              have p371 : 0 ≤ (x8_1 : Int) := of_decide_eq_true (by first | (with_reducible assumption) | assumption)
              have q371 : x8_1 < (l0_1.length : Int) := of_decide_eq_true (by first | (with_reducible assumption) | assumption)
              obtain ⟨ad371, e371, hx371_0, hx371_1⟩ := at_T51 HR0_1.out x8_1 p371 q371
              cases e371
              replace hx371_0 := (HB.out.cell (World.block_lt_of_cell? w _ hx371_0)).trans hx371_0
              replace hx371_1 := (HB.out.cell (World.block_lt_of_cell? w _ hx371_1)).trans hx371_1
              replace p371 := eq_true p371
              replace q371 := eq_true q371
              go_wp2_with (first | ((with_reducible refine gate_callee (f := 32) rfl ?_); refine goesL_ (some 27) rfl rfl Try.func32 (by kernel_rfl) rfl #[.slice A1 l1.length c1, .agg #[.int .u64 ((rd_T51 l0_1 x8_1).f0), .int .i64 ((rd_T51 l0_1 x8_1).f1)]] rfl (by (try simp only [List.map_toArray, List.map_cons, List.map_nil]); first | done | rfl | (simp only [List.length_drop, List.length_take]; rfl)) ?_; (with_reducible refine (stockyardref25_Has.calls k1 _ _ l1 ((rd_T51 l0_1 x8_1).f0) ((rd_T51 l0_1 x8_1).f1) true _ ?side1 ?side2 A10.out).mono ?_); (case side1 => repeat (first | exact (Kd.C_below HR1.out HB.out) | (with_reducible refine Kd.C_alloc ?_ _) | (with_reducible refine Kd.C_drewN ?_ _) | (with_reducible refine Kd.C_drew ?_))); (case side2 => exact HC1.out); rintro e w13 ⟨rfl, hb⟩; refine ⟨_, rfl, ?_⟩; have n0_ := Aside0.mk (Kd.R_below (by (with_reducible repeat (first | apply Kd.R_alloc | apply Kd.R_drewN | apply Kd.R_drew)); exact HO_7.out) hb); have n1_ := Aside0.mk (blk_below (g := gb369) (o := .cells #[.int .i64 a0_0, .slice (some ad371) l0_1.length c0_1] 31 (0, 0)) (by (with_reducible repeat (first | refine blk_drewN ?_ _ | refine blk_drew ?_ | refine blk_alloc ?_ _)); exact BK369.out) hb); have n2_ := Aside0.mk (below_step (by repeat (first | (with_reducible first | exact HB.out | apply below_alloc | apply pw_below_drewN | apply below_drew1 | refine below_set ?_ GE369.out) | exact HB.out)) hb); clear HO_7; clear BK369; clear HB; have HO_7 := n0_; have BK369 := n1_; have HB := n2_; clear n0_ n1_ n2_; (try clear hb); (try clear hb2); (try clear hk); (try clear hi)))
              go_roundg k1
              case measure => have := HK1.out; omega
              case rel => exact ⟨(x7_1), (wrap64 (x8_1 + 1)), (by first | rfl | (simp; done) | (simp [*]; done)), H', ⟨by have := HK1.out; omega⟩, ⟨by (with_reducible repeat (first | apply Kd.R_alloc | apply Kd.R_drewN | apply Kd.R_drew)); exact HO_7.out⟩, ⟨by (with_reducible repeat (first | refine blk_drewN ?_ _ | refine blk_drew ?_ | refine blk_alloc ?_ _)); exact BK369.out⟩, ⟨by repeat (first | (with_reducible first | exact HB.out | apply below_alloc | apply pw_below_drewN | apply below_drew1 | refine below_set ?_ GE369.out) | exact HB.out)⟩⟩
            · replace c11 := Bool.eq_false_iff.mpr c11
              subst c11
              have H1 : ((stockyardref25_Has.f k1 x7_1 ((rd_T51 l0_1 x8_1).f0) ((rd_T51 l0_1 x8_1).f1)).bind fun t374 => (if t374 = true then (stockyardref25_Missing.l0 k1 l1 x7_1 (wrap64 (x8_1 + 1)) a0_0 l0_1) else (if x7_1.length < 8796093022208 then (stockyardref25_Missing.l0 k1 l1 (x7_1 ++ [(⟨(rd_T51 l0_1 x8_1).f0, (rd_T51 l0_1 x8_1).f1⟩ : S51)]) (wrap64 (x8_1 + 1)) a0_0 l0_1) else (none)))) = some (r1, r2) := by rw [if_neg (show ¬ (false = true) by decide)] at H; exact H
              clear H
              have H := H1
              clear H1
              replace H := Option.bind_eq_some_iff.mp H
              obtain ⟨t374, A140, H⟩ := H
              replace H : (if t374 = true then (stockyardref25_Missing.l0 k1 l1 x7_1 (wrap64 (x8_1 + 1)) a0_0 l0_1) else (if x7_1.length < 8796093022208 then (stockyardref25_Missing.l0 k1 l1 (x7_1 ++ [(⟨(rd_T51 l0_1 x8_1).f0, (rd_T51 l0_1 x8_1).f1⟩ : S51)]) (wrap64 (x8_1 + 1)) a0_0 l0_1) else (none))) = some (r1, r2) := H
              have A14 := Aside0.mk A140
              clear A140
              by_cases c15 : t374 = true
              · subst c15
                have H1 : (stockyardref25_Missing.l0 k1 l1 x7_1 (wrap64 (x8_1 + 1)) a0_0 l0_1) = some (r1, r2) := by rw [if_pos rfl] at H; exact H
                clear H
                have H := H1
                clear H1
                have H' := Aside0.mk H
                clear H
                have hcz16_0 : wr.cell? ⟨gb369, 0, none⟩ = some (.int .i64 a0_0) := (blk_cell BK369.out 0).trans rfl
                have hcz16_1 : wr.cell? ⟨gb369, 1, none⟩ = some (.slice A0_1 l0_1.length c0_1) := (blk_cell BK369.out 1).trans rfl
                have hfz16_0 := blk_frozen BK369.out 0
                have hfz16_1 := blk_frozen BK369.out 1
                have p371 : 0 ≤ (x8_1 : Int) := of_decide_eq_true (by first | (with_reducible assumption) | assumption)
                have q371 : x8_1 < (l0_1.length : Int) := of_decide_eq_true (by first | (with_reducible assumption) | assumption)
                obtain ⟨ad371, e371, hx371_0, hx371_1⟩ := at_T51 HR0_1.out x8_1 p371 q371
                cases e371
                replace hx371_0 := (HB.out.cell (World.block_lt_of_cell? w _ hx371_0)).trans hx371_0
                replace hx371_1 := (HB.out.cell (World.block_lt_of_cell? w _ hx371_1)).trans hx371_1
                replace p371 := eq_true p371
                replace q371 := eq_true q371
                go_wp2_with (first | ((with_reducible refine gate_callee (f := 32) rfl ?_); refine goesL_ (some 27) rfl rfl Try.func32 (by kernel_rfl) rfl #[.slice A1 l1.length c1, .agg #[.int .u64 ((rd_T51 l0_1 x8_1).f0), .int .i64 ((rd_T51 l0_1 x8_1).f1)]] rfl (by (try simp only [List.map_toArray, List.map_cons, List.map_nil]); first | done | rfl | (simp only [List.length_drop, List.length_take]; rfl)) ?_; (with_reducible refine (stockyardref25_Has.calls k1 _ _ l1 ((rd_T51 l0_1 x8_1).f0) ((rd_T51 l0_1 x8_1).f1) false _ ?side1 ?side2 A10.out).mono ?_); (case side1 => repeat (first | exact (Kd.C_below HR1.out HB.out) | (with_reducible refine Kd.C_alloc ?_ _) | (with_reducible refine Kd.C_drewN ?_ _) | (with_reducible refine Kd.C_drew ?_))); (case side2 => exact HC1.out); rintro e w17 ⟨rfl, hb⟩; refine ⟨_, rfl, ?_⟩; have n0_ := Aside0.mk (Kd.R_below (by (with_reducible repeat (first | apply Kd.R_alloc | apply Kd.R_drewN | apply Kd.R_drew)); exact HO_7.out) hb); have n1_ := Aside0.mk (blk_below (g := gb369) (o := .cells #[.int .i64 a0_0, .slice (some ad371) l0_1.length c0_1] 31 (0, 0)) (by (with_reducible repeat (first | refine blk_drewN ?_ _ | refine blk_drew ?_ | refine blk_alloc ?_ _)); exact BK369.out) hb); have n2_ := Aside0.mk (below_step (by repeat (first | (with_reducible first | exact HB.out | apply below_alloc | apply pw_below_drewN | apply below_drew1 | refine below_set ?_ GE369.out) | exact HB.out)) hb); clear HO_7; clear BK369; clear HB; have HO_7 := n0_; have BK369 := n1_; have HB := n2_; clear n0_ n1_ n2_; (try clear hb); (try clear hb2); (try clear hk); (try clear hi); have hcz18_0 : w17.cell? ⟨gb369, 0, none⟩ = some (.int .i64 a0_0) := (blk_cell BK369.out 0).trans rfl; have hcz18_1 : w17.cell? ⟨gb369, 1, none⟩ = some (.slice (some ad371) l0_1.length c0_1) := (blk_cell BK369.out 1).trans rfl; have hfz18_0 := blk_frozen BK369.out 0; have hfz18_1 := blk_frozen BK369.out 1; have p373 : 0 ≤ (x8_1 : Int) := of_decide_eq_true (by first | (with_reducible assumption) | assumption); have q373 : x8_1 < (l0_1.length : Int) := of_decide_eq_true (by first | (with_reducible assumption) | assumption); obtain ⟨ad373, e373, hx373_0, hx373_1⟩ := at_T51 HR0_1.out x8_1 p373 q373; obtain rfl : ad371 = ad373 := (by injection e373); replace hx373_0 := (HB.out.cell (World.block_lt_of_cell? w _ hx373_0)).trans hx373_0; replace hx373_1 := (HB.out.cell (World.block_lt_of_cell? w _ hx373_1)).trans hx373_1; replace p373 := eq_true p373; replace q373 := eq_true q373; obtain ⟨Ao19, co19, eo19⟩ := Kd.R_slice HO_7.out; subst eo19) | (go_at_call 32; (with_reducible refine (stockyardref25_Has.calls k1 _ _ x7_1 ((rd_T51 l0_1 x8_1).f0) ((rd_T51 l0_1 x8_1).f1) true _ ?side1 ?side2 A14.out).mono ?_); (case side1 => repeat (first | exact (Kd.R_reads' HO_7.out).2.2 | (with_reducible refine Kd.C_alloc ?_ _) | (with_reducible refine Kd.C_drewN ?_ _) | (with_reducible refine Kd.C_drew ?_))); (case side2 => exact (Kd.R_reads' HO_7.out).2.1); rintro e w20 ⟨rfl, hb⟩; have n0_ := Aside0.mk (Kd.R_below (by (with_reducible repeat (first | apply Kd.R_alloc | apply Kd.R_drewN | apply Kd.R_drew)); exact HO_7.out) hb); have n1_ := Aside0.mk (blk_below (g := gb369) (o := .cells #[.int .i64 a0_0, .slice (some ad371) l0_1.length c0_1] 31 (0, 0)) (by (with_reducible repeat (first | refine blk_drewN ?_ _ | refine blk_drew ?_ | refine blk_alloc ?_ _)); exact BK369.out) hb); have n2_ := Aside0.mk (below_step (by repeat (first | (with_reducible first | exact HB.out | apply below_alloc | apply pw_below_drewN | apply below_drew1 | refine below_set ?_ GE369.out) | exact HB.out)) hb); clear HO_7; clear BK369; clear HB; have HO_7 := n0_; have BK369 := n1_; have HB := n2_; clear n0_ n1_ n2_; (try clear hb); (try clear hb2); (try clear hk); (try clear hi)))
                go_roundg k1
                case measure => have := HK1.out; omega
                case rel => exact ⟨(x7_1), (wrap64 (x8_1 + 1)), (by first | rfl | (simp; done) | (simp [*]; done)), H', ⟨by have := HK1.out; omega⟩, ⟨by (with_reducible repeat (first | apply Kd.R_alloc | apply Kd.R_drewN | apply Kd.R_drew)); exact HO_7.out⟩, ⟨by (with_reducible repeat (first | refine blk_drewN ?_ _ | refine blk_drew ?_ | refine blk_alloc ?_ _)); exact BK369.out⟩, ⟨by repeat (first | (with_reducible first | exact HB.out | apply below_alloc | apply pw_below_drewN | apply below_drew1 | refine below_set ?_ GE369.out) | exact HB.out)⟩⟩
              · replace c15 := Bool.eq_false_iff.mpr c15
                subst c15
                have H1 : (if x7_1.length < 8796093022208 then (stockyardref25_Missing.l0 k1 l1 (x7_1 ++ [(⟨(rd_T51 l0_1 x8_1).f0, (rd_T51 l0_1 x8_1).f1⟩ : S51)]) (wrap64 (x8_1 + 1)) a0_0 l0_1) else (none)) = some (r1, r2) := by rw [if_neg (show ¬ (false = true) by decide)] at H; exact H
                clear H
                have H := H1
                clear H1
                by_cases c21 : x7_1.length < 8796093022208
                · rw [if_pos c21] at H
                  have LMc21 := Aside0.mk c21
                  clear c21
                  obtain ⟨y376, hy376⟩ : ∃ y_ : List (S51), y_ = (x7_1 ++ [(⟨(rd_T51 l0_1 x8_1).f0, (rd_T51 l0_1 x8_1).f1⟩ : S51)]) := ⟨_, rfl⟩
                  replace H : (stockyardref25_Missing.l0 k1 l1 y376 (wrap64 (x8_1 + 1)) a0_0 l0_1) = some (r1, r2) := by first | (rw [hy376]; with_reducible exact H) | (have H2_ := (Option.bind_some _ _).symm.trans H; rw [hy376]; with_reducible exact H2_) | (have H2_ := (Option.bind_some _ _).symm.trans H; with_reducible exact H2_) | with_reducible exact H | (rw [hy376]; exact H) | exact H
                  have Ny376 := Aside0.mk hy376
                  clear hy376
                  have H' := Aside0.mk H
                  clear H
                  have hcz22_0 : wr.cell? ⟨gb369, 0, none⟩ = some (.int .i64 a0_0) := (blk_cell BK369.out 0).trans rfl
                  have hcz22_1 : wr.cell? ⟨gb369, 1, none⟩ = some (.slice A0_1 l0_1.length c0_1) := (blk_cell BK369.out 1).trans rfl
                  have hfz22_0 := blk_frozen BK369.out 0
                  have hfz22_1 := blk_frozen BK369.out 1
                  have p371 : 0 ≤ (x8_1 : Int) := of_decide_eq_true (by first | (with_reducible assumption) | assumption)
                  have q371 : x8_1 < (l0_1.length : Int) := of_decide_eq_true (by first | (with_reducible assumption) | assumption)
                  obtain ⟨ad371, e371, hx371_0, hx371_1⟩ := at_T51 HR0_1.out x8_1 p371 q371
                  cases e371
                  replace hx371_0 := (HB.out.cell (World.block_lt_of_cell? w _ hx371_0)).trans hx371_0
                  replace hx371_1 := (HB.out.cell (World.block_lt_of_cell? w _ hx371_1)).trans hx371_1
                  replace p371 := eq_true p371
                  replace q371 := eq_true q371
                  go_wp2_with (first | ((with_reducible refine gate_callee (f := 32) rfl ?_); refine goesL_ (some 27) rfl rfl Try.func32 (by kernel_rfl) rfl #[.slice A1 l1.length c1, .agg #[.int .u64 ((rd_T51 l0_1 x8_1).f0), .int .i64 ((rd_T51 l0_1 x8_1).f1)]] rfl (by (try simp only [List.map_toArray, List.map_cons, List.map_nil]); first | done | rfl | (simp only [List.length_drop, List.length_take]; rfl)) ?_; (with_reducible refine (stockyardref25_Has.calls k1 _ _ l1 ((rd_T51 l0_1 x8_1).f0) ((rd_T51 l0_1 x8_1).f1) false _ ?side1 ?side2 A10.out).mono ?_); (case side1 => repeat (first | exact (Kd.C_below HR1.out HB.out) | (with_reducible refine Kd.C_alloc ?_ _) | (with_reducible refine Kd.C_drewN ?_ _) | (with_reducible refine Kd.C_drew ?_))); (case side2 => exact HC1.out); rintro e w23 ⟨rfl, hb⟩; refine ⟨_, rfl, ?_⟩; have n0_ := Aside0.mk (Kd.R_below (by (with_reducible repeat (first | apply Kd.R_alloc | apply Kd.R_drewN | apply Kd.R_drew)); exact HO_7.out) hb); have n1_ := Aside0.mk (blk_below (g := gb369) (o := .cells #[.int .i64 a0_0, .slice (some ad371) l0_1.length c0_1] 31 (0, 0)) (by (with_reducible repeat (first | refine blk_drewN ?_ _ | refine blk_drew ?_ | refine blk_alloc ?_ _)); exact BK369.out) hb); have n2_ := Aside0.mk (below_step (by repeat (first | (with_reducible first | exact HB.out | apply below_alloc | apply pw_below_drewN | apply below_drew1 | refine below_set ?_ GE369.out) | exact HB.out)) hb); clear HO_7; clear BK369; clear HB; have HO_7 := n0_; have BK369 := n1_; have HB := n2_; clear n0_ n1_ n2_; (try clear hb); (try clear hb2); (try clear hk); (try clear hi); have hcz24_0 : w23.cell? ⟨gb369, 0, none⟩ = some (.int .i64 a0_0) := (blk_cell BK369.out 0).trans rfl; have hcz24_1 : w23.cell? ⟨gb369, 1, none⟩ = some (.slice (some ad371) l0_1.length c0_1) := (blk_cell BK369.out 1).trans rfl; have hfz24_0 := blk_frozen BK369.out 0; have hfz24_1 := blk_frozen BK369.out 1; have p373 : 0 ≤ (x8_1 : Int) := of_decide_eq_true (by first | (with_reducible assumption) | assumption); have q373 : x8_1 < (l0_1.length : Int) := of_decide_eq_true (by first | (with_reducible assumption) | assumption); obtain ⟨ad373, e373, hx373_0, hx373_1⟩ := at_T51 HR0_1.out x8_1 p373 q373; obtain rfl : ad371 = ad373 := (by injection e373); replace hx373_0 := (HB.out.cell (World.block_lt_of_cell? w _ hx373_0)).trans hx373_0; replace hx373_1 := (HB.out.cell (World.block_lt_of_cell? w _ hx373_1)).trans hx373_1; replace p373 := eq_true p373; replace q373 := eq_true q373; obtain ⟨Ao25, co25, eo25⟩ := Kd.R_slice HO_7.out; subst eo25) | (go_at_call 32; (with_reducible refine (stockyardref25_Has.calls k1 _ _ x7_1 ((rd_T51 l0_1 x8_1).f0) ((rd_T51 l0_1 x8_1).f1) false _ ?side1 ?side2 A14.out).mono ?_); (case side1 => repeat (first | exact (Kd.R_reads' HO_7.out).2.2 | (with_reducible refine Kd.C_alloc ?_ _) | (with_reducible refine Kd.C_drewN ?_ _) | (with_reducible refine Kd.C_drew ?_))); (case side2 => exact (Kd.R_reads' HO_7.out).2.1); rintro e w26 ⟨rfl, hb⟩; have n0_ := Aside0.mk (Kd.R_below (by (with_reducible repeat (first | apply Kd.R_alloc | apply Kd.R_drewN | apply Kd.R_drew)); exact HO_7.out) hb); have n1_ := Aside0.mk (blk_below (g := gb369) (o := .cells #[.int .i64 a0_0, .slice (some ad371) l0_1.length c0_1] 31 (0, 0)) (by (with_reducible repeat (first | refine blk_drewN ?_ _ | refine blk_drew ?_ | refine blk_alloc ?_ _)); exact BK369.out) hb); have n2_ := Aside0.mk (below_step (by repeat (first | (with_reducible first | exact HB.out | apply below_alloc | apply pw_below_drewN | apply below_drew1 | refine below_set ?_ GE369.out) | exact HB.out)) hb); clear HO_7; clear BK369; clear HB; have HO_7 := n0_; have BK369 := n1_; have HB := n2_; clear n0_ n1_ n2_; (try clear hb); (try clear hb2); (try clear hk); (try clear hi); have hcz27_0 : w26.cell? ⟨gb369, 0, none⟩ = some (.int .i64 a0_0) := (blk_cell BK369.out 0).trans rfl; have hcz27_1 : w26.cell? ⟨gb369, 1, none⟩ = some (.slice (some ad371) l0_1.length c0_1) := (blk_cell BK369.out 1).trans rfl; have hfz27_0 := blk_frozen BK369.out 0; have hfz27_1 := blk_frozen BK369.out 1; have p375 : 0 ≤ (x8_1 : Int) := of_decide_eq_true (by first | (with_reducible assumption) | assumption); have q375 : x8_1 < (l0_1.length : Int) := of_decide_eq_true (by first | (with_reducible assumption) | assumption); obtain ⟨ad375, e375, hx375_0, hx375_1⟩ := at_T51 HR0_1.out x8_1 p375 q375; obtain rfl : ad371 = ad375 := (by injection e375); replace hx375_0 := (HB.out.cell (World.block_lt_of_cell? w _ hx375_0)).trans hx375_0; replace hx375_1 := (HB.out.cell (World.block_lt_of_cell? w _ hx375_1)).trans hx375_1; replace p375 := eq_true p375; replace q375 := eq_true q375) | ((with_reducible refine gate_builtin (b := .append) (xs := #[.tmp 39, .tmp 45]) rfl ?_); at_builtin; refine Kd.R_append k51 (w0 := w) w.heap.size rfl (.tmp 39) (.tmp 45) 29 51 (.agg #[(.int .u64 0), (.int .i64 0)]) 16 rfl Try.underlying29 info51 rfl (by decide) (by omega) (.slice Ao25 x7_1.length co25) x7_1 (⟨(rd_T51 l0_1 x8_1).f0, (rd_T51 l0_1 x8_1).f1⟩ : S51) [.int .u64 ((rd_T51 l0_1 x8_1).f0), .int .i64 ((rd_T51 l0_1 x8_1).f1)] (fun _ => True) (fun _ => False) rfl rfl ?aP (fun _ hk => hk.elim) ?aF ?aO ?aB ?aS ?aL ?_; (case aP => exact k51_mkM _ _ _ (⟨(rd_T51 l0_1 x8_1).f0, (rd_T51 l0_1 x8_1).f1⟩ : S51)); (case aB => exact (by repeat (first | (with_reducible first | exact HB.out | apply below_alloc | apply pw_below_drewN | apply below_drew1 | refine below_set ?_ GE369.out) | exact HB.out))); (case aF => exact (fun _ _ => trivial)); (case aO => exact (by (with_reducible repeat (first | apply Kd.R_alloc | apply Kd.R_drewN | apply Kd.R_drew)); exact HO_7.out)); (case aS => exact (below_size (by repeat (first | (with_reducible first | exact HB.out | apply below_alloc | apply pw_below_drewN | apply below_drew1 | refine below_set ?_ GE369.out) | exact HB.out)))); (case aL => have := LMc21.out; omega); intro v377 w28 ho hb hg hat; rw [← Ny376.out] at ho; have n0_ := Aside0.mk (blk_grown (g := gb369) (o := .cells #[.int .i64 a0_0, .slice (some ad371) l0_1.length c0_1] 31 (0, 0)) (by (with_reducible repeat (first | refine blk_drewN ?_ _ | refine blk_drew ?_ | refine blk_alloc ?_ _)); exact BK369.out) hg (Kd.R_ne HO_7.out BK369.out (by decide))); have n1_ := Aside0.mk (hb); have n2_ := Aside0.mk (ho); clear BK369; clear HB; clear HO_7; have BK369 := n0_; have HB := n1_; have HO378 := n2_; clear n0_ n1_ n2_; clear ho hb hg hat))
                  go_roundg k1
                  case measure => have := HK1.out; omega
                  case rel => exact ⟨(y376), (wrap64 (x8_1 + 1)), (by first | rfl | (simp; done) | (simp [*]; done)), H', ⟨by have := HK1.out; omega⟩, ⟨by (with_reducible repeat (first | apply Kd.R_alloc | apply Kd.R_drewN | apply Kd.R_drew)); exact HO378.out⟩, ⟨by (with_reducible repeat (first | refine blk_drewN ?_ _ | refine blk_drew ?_ | refine blk_alloc ?_ _)); exact BK369.out⟩, ⟨by repeat (first | (with_reducible first | exact HB.out | apply below_alloc | apply pw_below_drewN | apply below_drew1 | refine below_set ?_ GE369.out) | exact HB.out)⟩⟩
                · rw [if_neg c21] at H
                  exact absurd H (by simp)
          · rw [if_neg c9] at H
            exact absurd H (by simp)
        · rw [if_neg c8] at H
          have c8b0 : decide (x8_1 < (l0_1.length : Int)) = false := decide_eq_false c8
          clear c8
          simp only [Option.some.injEq, Prod.mk.injEq] at H
          obtain ⟨rfl, rfl⟩ := H
          have hcz29_0 : wr.cell? ⟨gb369, 0, none⟩ = some (.int .i64 a0_0) := (blk_cell BK369.out 0).trans rfl
          have hcz29_1 : wr.cell? ⟨gb369, 1, none⟩ = some (.slice A0_1 l0_1.length c0_1) := (blk_cell BK369.out 1).trans rfl
          have hfz29_0 := blk_frozen BK369.out 0
          have hfz29_1 := blk_frozen BK369.out 1
          go_wp2
          go_ret2
          exact ⟨_, by first | rfl | (simp [errW_none, errW_some] <;> rfl) | (simp [*, errW_none, errW_some] <;> rfl), by (with_reducible repeat (first | apply Kd.R_alloc | apply Kd.R_drewN | apply Kd.R_drew)); exact HO_7.out, by repeat (first | (with_reducible first | exact HB.out | apply below_alloc | apply pw_below_drewN | apply below_drew1 | refine below_set ?_ GE369.out) | exact HB.out)⟩
  · rw [if_neg c4] at H
    have c4b0 : (t370 == 0) = false := beq_eq_false_iff_ne.mpr c4
    have c4b1 : (t370 != 0) = true := bne_iff_ne.mpr c4
    simp only [Option.some.injEq, Prod.mk.injEq] at H
    obtain ⟨rfl, rfl⟩ := H
    go_enter Try.func34, Try.ntmps34
    go_wp2_with (first | ((with_reducible refine gate_dst (N := 2) rfl ?_); refine box_event ?hg (N := 2) ?hd (cs := #[.int .i64 a0_0, .slice A0_1 l0_1.length c0_1]) (t := 31) ?hr ?_; (case hd => rfl); (case hg => rfl); (case hr => first | (go_simp; done) | (go_simp; rfl)); intro gb369 hg w30 hbox hb; have n0_ := Aside0.mk (below_step (by repeat (first | (with_reducible first | exact HB.out | apply below_alloc | apply pw_below_drewN | apply below_drew1) | exact HB.out)) hb); have n1_ := Aside0.mk (hbox); have n2_ := Aside0.mk ((by rw [hg]; exact (below_size (by repeat (first | (with_reducible first | exact HB.out | apply below_alloc | apply pw_below_drewN | apply below_drew1) | exact HB.out))) : w.heap.size ≤ gb369)); have n3_ := Aside0.mk ((by rw [hg]; exact (below_size (by repeat (first | (with_reducible first | exact HB.out | apply below_alloc | apply pw_below_drewN | apply below_drew1) | exact HB.out))) : w.heap.size ≤ gb369)); clear HB; have HB := n0_; have BK369 := n1_; have GW369 := n2_; have GE369 := n3_; clear n0_ n1_ n2_ n3_; clear hb hbox hg; have hcz31_0 : w30.cell? ⟨gb369, 0, none⟩ = some (.int .i64 a0_0) := (blk_cell BK369.out 0).trans rfl; have hcz31_1 : w30.cell? ⟨gb369, 1, none⟩ = some (.slice A0_1 l0_1.length c0_1) := (blk_cell BK369.out 1).trans rfl; have hfz31_0 := blk_frozen BK369.out 0; have hfz31_1 := blk_frozen BK369.out 1) | ((with_reducible refine gate_callee (f := 44) rfl ?_); refine goesL_ (some 10) rfl rfl Try.func44 (by kernel_rfl) rfl #[.agg #[.int .i64 a0_0, .slice A0_1 l0_1.length c0_1]] rfl (by (try simp only [List.map_toArray, List.map_cons, List.map_nil]); first | done | rfl | (simp only [List.length_drop, List.length_take]; rfl)) ?_; (with_reducible refine (stockyardref25_Check.calls k a0_0 _ _ l0_1 t370 _ ?side1 ?side2 A3.out).mono ?_); (case side1 => repeat (first | exact (Kd.C_below HR0_1.out HB.out) | (with_reducible refine Kd.C_alloc ?_ _) | (with_reducible refine Kd.C_drewN ?_ _) | (with_reducible refine Kd.C_drew ?_))); (case side2 => exact HC0_1.out); rintro e w32 ⟨rfl, hb⟩; refine ⟨_, rfl, ?_⟩; have n0_ := Aside0.mk (blk_below (g := gb369) (o := .cells #[.int .i64 a0_0, .slice A0_1 l0_1.length c0_1] 31 (0, 0)) (by (with_reducible repeat (first | refine blk_drewN ?_ _ | refine blk_drew ?_ | refine blk_alloc ?_ _)); exact BK369.out) hb); have n1_ := Aside0.mk (below_step (by repeat (first | (with_reducible first | exact HB.out | apply below_alloc | apply pw_below_drewN | apply below_drew1 | refine below_set ?_ GE369.out) | exact HB.out)) hb); clear BK369; clear HB; have BK369 := n0_; have HB := n1_; clear n0_ n1_; (try clear hb); (try clear hb2); (try clear hk); (try clear hi)))
    go_ret2
    exact ⟨_, by first | rfl | (simp [errW_none, errW_some] <;> rfl) | (simp [*, errW_none, errW_some] <;> rfl), by first | exact Kd.R_nil _ _ _ _ _ | exact Kd.N_nil _ _ _ _ _ | exact Kd.V_nil _ _ _ _ _ | exact Kd.Q_nil _ _ _ _ _ | exact Kd.S_nil _ _ _ _ _, by repeat (first | (with_reducible first | exact HB.out | apply below_alloc | apply pw_below_drewN | apply below_drew1 | refine below_set ?_ GE369.out) | exact HB.out)⟩

/-! ### stockyardmake_SameIDs: function 35 -/
def stockyardmake_SameIDs.l0 : Nat → List (S51) → List (S51) → Int → Option (Bool)
  | 0, _, _, _ => none
  | k + 1, x0, x1, x5 => if x5 < (x0.length : Int) then (if 0 ≤ x5 then (if x5 < (x1.length : Int) then (if (!(((rd_T51 x0 x5).f0) == ((rd_T51 x1 x5).f0)) || (!(((rd_T51 x0 x5).f1) == ((rd_T51 x1 x5).f1)))) = true then (some false) else (stockyardmake_SameIDs.l0 k x0 x1 (wrap64 (x5 + 1)))) else (none)) else (none)) else (some true)
def stockyardmake_SameIDs.f (k : Nat) (l0 : List (S51)) (l1 : List (S51)) : Option (Bool) := if (l0.length : Int) = (l1.length : Int) then (stockyardmake_SameIDs.l0 k l0 l1 0) else (some false)
set_option maxHeartbeats 8000000 in
set_option maxRecDepth 100000 in
theorem stockyardmake_SameIDs.calls (k : Nat) (A0 : Option Addr) (c0 : Nat) (l0 : List (S51)) (A1 : Option Addr) (c1 : Nat) (l1 : List (S51)) (r : Bool) (w : World) (hr0 : Kd.C k51 w A0 l0.length l0) (hc0 : l0.length ≤ c0) (hr1 : Kd.C k51 w A1 l1.length l1) (hc1 : l1.length ≤ c1) (h : stockyardmake_SameIDs.f k l0 l1 = some r) :
    Calls Try.prog 35 #[.slice A0 l0.length c0, .slice A1 l1.length c1] w fun e w' => e = .returned (.bool r) ∧ Drawn0 w w' := by
  have hu51 := Try.underlying51
  have HR0 := Aside0.mk hr0
  have HC0 := Aside0.mk hc0
  clear hr0 hc0
  have HR1 := Aside0.mk hr1
  have HC1 := Aside0.mk hc1
  clear hr1 hc1
  have H : (if (l0.length : Int) = (l1.length : Int) then (stockyardmake_SameIDs.l0 k l0 l1 0) else (some false)) = some r := h
  clear h
  by_cases c3 : (l0.length : Int) = (l1.length : Int)
  · rw [if_pos c3] at H
    have c3b0 : ((l0.length : Int) == (l1.length : Int)) = true := beq_iff_eq.mpr c3
    have c3b1 : ((l0.length : Int) != (l1.length : Int)) = false := bne_eq_false_iff_eq.mpr c3
    have c3b2 : (l0.length == l1.length) = true := by first | simpa using c3 | (simp at c3 ⊢; omega)
    clear c3
    have H' := Aside0.mk H
    clear H
    go_enter Try.func35, Try.ntmps35
    go_wp2
    repeat (go_quiet (fail); try go_wp2)
    go_loopg [5] k (fun kq v5 w' => ∃ (x5_1 : Int), v5 = .int .i64 x5_1 ∧ Aside0 (stockyardmake_SameIDs.l0 kq l0 l1 x5_1 = some r) ∧ Aside0 (kq ≤ k) ∧ Drawn0 w w')
    case atStart => exact ⟨(0), (by first | rfl | (simp; done) | (simp [*]; done)), H', ⟨Nat.le_refl _⟩, by repeat (first | exact Drawn0.refl _ | apply Drawn0.step)⟩
    case round =>
      clear H'
      try clear c1
      try clear p2
      try clear c3
      try clear c3b0
      try clear c3b1
      try clear c3b2
      obtain ⟨x5_1, rfl, HA, HK1, ⟨m1, rfl⟩⟩ := hrel
      cases gk with
      | zero => exact absurd HA.out (by simp [stockyardmake_SameIDs.l0])
      | succ k1 =>
        have H := HA.out
        clear HA
        simp only [stockyardmake_SameIDs.l0] at H
        by_cases c4 : x5_1 < (l0.length : Int)
        · rw [if_pos c4] at H
          have c4b0 : decide (x5_1 < (l0.length : Int)) = true := decide_eq_true c4
          clear c4
          by_cases c5 : 0 ≤ x5_1
          · rw [if_pos c5] at H
            have c5b0 : decide (0 ≤ x5_1) = true := decide_eq_true c5
            clear c5
            by_cases c6 : x5_1 < (l1.length : Int)
            · rw [if_pos c6] at H
              have c6b0 : decide (x5_1 < (l1.length : Int)) = true := decide_eq_true c6
              clear c6
              by_cases c7 : (!(((rd_T51 l0 x5_1).f0) == ((rd_T51 l1 x5_1).f0)) || (!(((rd_T51 l0 x5_1).f1) == ((rd_T51 l1 x5_1).f1)))) = true
              · rw [if_pos c7] at H
                have c7b0 : (!(((rd_T51 l0 x5_1).f0) == ((rd_T51 l1 x5_1).f0)) || (!(((rd_T51 l0 x5_1).f1) == ((rd_T51 l1 x5_1).f1)))) = true := c7
                clear c7
                obtain rfl := Option.some.inj H
                have p379 : 0 ≤ (x5_1 : Int) := of_decide_eq_true (by first | (with_reducible assumption) | assumption)
                have q379 : x5_1 < (l0.length : Int) := of_decide_eq_true (by first | (with_reducible assumption) | assumption)
                obtain ⟨ad379, e379, hx379_0, hx379_1⟩ := at_T51 HR0.out x5_1 p379 q379
                cases e379
                replace p379 := eq_true p379
                replace q379 := eq_true q379
                have p380 : 0 ≤ (x5_1 : Int) := of_decide_eq_true (by first | (with_reducible assumption) | assumption)
                have q380 : x5_1 < (l1.length : Int) := of_decide_eq_true (by first | (with_reducible assumption) | assumption)
                obtain ⟨ad380, e380, hx380_0, hx380_1⟩ := at_T51 HR1.out x5_1 p380 q380
                cases e380
                replace p380 := eq_true p380
                replace q380 := eq_true q380
                go_wp2
                repeat (go_quiet (fail); try go_wp2)
                go_ret
                exact ⟨by first | rfl | (simp; done) | (simp [*]; done), by repeat (first | exact Drawn0.refl _ | apply Drawn0.step)⟩
              · rw [if_neg c7] at H
                have c7b0 : (!(((rd_T51 l0 x5_1).f0) == ((rd_T51 l1 x5_1).f0)) || (!(((rd_T51 l0 x5_1).f1) == ((rd_T51 l1 x5_1).f1)))) = false := by simpa using c7
                clear c7
                have H' := Aside0.mk H
                clear H
                have p379 : 0 ≤ (x5_1 : Int) := of_decide_eq_true (by first | (with_reducible assumption) | assumption)
                have q379 : x5_1 < (l0.length : Int) := of_decide_eq_true (by first | (with_reducible assumption) | assumption)
                obtain ⟨ad379, e379, hx379_0, hx379_1⟩ := at_T51 HR0.out x5_1 p379 q379
                cases e379
                replace p379 := eq_true p379
                replace q379 := eq_true q379
                have p380 : 0 ≤ (x5_1 : Int) := of_decide_eq_true (by first | (with_reducible assumption) | assumption)
                have q380 : x5_1 < (l1.length : Int) := of_decide_eq_true (by first | (with_reducible assumption) | assumption)
                obtain ⟨ad380, e380, hx380_0, hx380_1⟩ := at_T51 HR1.out x5_1 p380 q380
                cases e380
                replace p380 := eq_true p380
                replace q380 := eq_true q380
                go_wp2
                repeat (go_quiet (fail); try go_wp2)
                go_roundg k1
                case measure => have := HK1.out; omega
                case rel => exact ⟨(wrap64 (x5_1 + 1)), (by first | rfl | (simp; done) | (simp [*]; done)), H', ⟨by have := HK1.out; omega⟩, by repeat (first | exact Drawn0.refl _ | apply Drawn0.step)⟩
            · rw [if_neg c6] at H
              exact absurd H (by simp)
          · rw [if_neg c5] at H
            exact absurd H (by simp)
        · rw [if_neg c4] at H
          have c4b0 : decide (x5_1 < (l0.length : Int)) = false := decide_eq_false c4
          clear c4
          obtain rfl := Option.some.inj H
          go_wp2
          repeat (go_quiet (fail); try go_wp2)
          go_ret
          exact ⟨by first | rfl | (simp; done) | (simp [*]; done), by repeat (first | exact Drawn0.refl _ | apply Drawn0.step)⟩
  · rw [if_neg c3] at H
    have c3b0 : ((l0.length : Int) == (l1.length : Int)) = false := beq_eq_false_iff_ne.mpr c3
    have c3b1 : ((l0.length : Int) != (l1.length : Int)) = true := bne_iff_ne.mpr c3
    have c3b2 : (l0.length == l1.length) = false := by first | simpa using c3 | (simp at c3 ⊢; omega)
    obtain rfl := Option.some.inj H
    go_enter Try.func35, Try.ntmps35
    go_wp2
    repeat (go_quiet (fail); try go_wp2)
    go_ret
    exact ⟨by first | rfl | (simp; done) | (simp [*]; done), by repeat (first | exact Drawn0.refl _ | apply Drawn0.step)⟩

/-! ### stockyardref01_Uint: function 59 -/
end Go.Proofs.Ytleapbbdpediiaa.P
