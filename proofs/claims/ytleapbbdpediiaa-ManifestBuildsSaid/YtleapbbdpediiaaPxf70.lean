-- What this claim does not use is left out (shake.py).
import Derived.Test.YtleapbbdpediiaaPx0
import Derived.Test.YtleapbbdpediiaaPxf54
import Derived.Test.YtleapbbdpediiaaPxf63
-- Printed by a program (pr.py over the kit's print) out of the translation.
namespace Go.Proofs.Ytleapbbdpediiaa.P
open Go.RowKit Go.Proofs.YtleapbbdpediiaaW.PrintWords Go.Proofs.YtleapbbdpediiaaW.PrintLast Go.Proofs.YtleapbbdpediiaaW.PrintMore
attribute [local go_sem] max2_int min2_int max_two min_two max_three min_three max_four min_four   -- for this text's walks alone
set_option linter.unusedVariables false
set_option linter.unusedSimpArgs false

/-! ### chunker_Split: function 70 -/
def chunker_Split.l0 : Nat → List Int → List (List Int) → Int → List Int → Int → Int → Option ((List (List Int)) × Int)
  | 0, _, _, _, _, _, _ => none
  | k + 1, x1, x8, x9, x21, x22, x23 => if x23 < x22 then (if 0 ≤ x23 then (if x23 < (x21.length : Int) then (if 0 ≤ x9 then (if x9 ≤ (rd x21 x23) then (if (rd x21 x23) ≤ (x1.length : Int) then (if ([] : List Int).length + ((x1.take ((rd x21 x23) : Int).toNat).drop (x9 : Int).toNat).length < 140737488355328 then (if x8.length < 5864062014805 then (chunker_Split.l0 k x1 (x8 ++ [(([] : List Int) ++ ((x1.take ((rd x21 x23) : Int).toNat).drop (x9 : Int).toNat))]) (rd x21 x23) x21 x22 (wrap64 (x23 + 1))) else (none)) else (none)) else (none)) else (none)) else (none)) else (none)) else (none)) else (some (x8, 0))
def chunker_Split.f (k : Nat) (a0_0 : Int) (a0_1 : Int) (a0_2 : Int) (a0_3 : Int) (l1 : List Int) : Option ((List (List Int)) × Int) := (chunker_Ends.f a0_0 a0_1 a0_2 a0_3 l1).bind fun bt666 => (if bt666.2 = 0 then (chunker_Split.l0 k l1 ([] : List (List Int)) 0 bt666.1 (bt666.1.length : Int) 0) else (some (([] : List (List Int)), bt666.2)))
set_option maxHeartbeats 8000000 in
set_option maxRecDepth 100000 in
theorem chunker_Split.calls (k : Nat) (a0_0 : Int) (a0_1 : Int) (a0_2 : Int) (a0_3 : Int) (A1 : Option Addr) (c1 : Nat) (l1 : List Int) (r1 : List (List Int)) (r2 : Int) (w : World) (hr1 : Kd.C (Kd.int .u8) w A1 l1.length l1) (hc1 : l1.length ≤ c1) (h : chunker_Split.f k a0_0 a0_1 a0_2 a0_3 l1 = some (r1, r2)) :
    Calls Try.prog 70 #[.agg #[.int .i64 a0_0, .int .i64 a0_1, .int .i64 a0_2, .int .u64 a0_3], .slice A1 l1.length c1] w fun e w' => ∃ v0_ : Value, e = .returned (.tuple #[v0_, .int .i64 r2]) ∧ Kd.S (Kd.slice 5 (Kd.int .u8)) 34 w' w.heap.size (fun _ => True) v0_ r1 ∧ Below w.heap.size w w' := by
  have hu83 := Try.underlying83
  have HR1 := Aside0.mk hr1
  have HC1 := Aside0.mk hc1
  clear hr1 hc1
  have HB := Aside0.mk (Below.refl w.heap.size w)
  have H : ((chunker_Ends.f a0_0 a0_1 a0_2 a0_3 l1).bind fun bt666 => (if bt666.2 = 0 then (chunker_Split.l0 k l1 ([] : List (List Int)) 0 bt666.1 (bt666.1.length : Int) 0) else (some (([] : List (List Int)), bt666.2)))) = some (r1, r2) := h
  clear h
  replace H := Option.bind_eq_some_iff.mp H
  obtain ⟨⟨t666, t669⟩, A30, H⟩ := H
  replace H : (if t669 = 0 then (chunker_Split.l0 k l1 ([] : List (List Int)) 0 t666 (t666.length : Int) 0) else (some (([] : List (List Int)), t669))) = some (r1, r2) := H
  have A3 := Aside0.mk A30
  clear A30
  by_cases c4 : t669 = 0
  · rw [if_pos c4] at H
    have c4b0 : (t669 == 0) = true := beq_iff_eq.mpr c4
    have c4b1 : (t669 != 0) = false := bne_eq_false_iff_eq.mpr c4
    clear c4
    have H' := Aside0.mk H
    clear H
    go_enter Try.func70, Try.ntmps70
    go_wp2_with (first | ((with_reducible refine gate_dst (N := 2) rfl ?_); refine box_event ?hg (N := 2) ?hd (cs := #[.int .i64 a0_0, .int .i64 a0_1, .int .i64 a0_2, .int .u64 a0_3]) (t := 83) ?hr ?_; (case hd => rfl); (case hg => rfl); (case hr => first | (go_simp; done) | (go_simp; rfl)); intro gb665 hg w5 hbox hb; have n0_ := Aside0.mk (below_step (by repeat (first | (with_reducible first | exact HB.out | apply below_alloc | apply pw_below_drewN | apply below_drew1) | exact HB.out)) hb); have n1_ := Aside0.mk (hbox); have n2_ := Aside0.mk ((by rw [hg]; exact (below_size (by repeat (first | (with_reducible first | exact HB.out | apply below_alloc | apply pw_below_drewN | apply below_drew1) | exact HB.out))) : w.heap.size ≤ gb665)); have n3_ := Aside0.mk ((by rw [hg]; exact (below_size (by repeat (first | (with_reducible first | exact HB.out | apply below_alloc | apply pw_below_drewN | apply below_drew1) | exact HB.out))) : w.heap.size ≤ gb665)); clear HB; have HB := n0_; have BK665 := n1_; have GW665 := n2_; have GE665 := n3_; clear n0_ n1_ n2_ n3_; clear hb hbox hg; have hcz6_0 : w5.cell? ⟨gb665, 0, none⟩ = some (.int .i64 a0_0) := (blk_cell BK665.out 0).trans rfl; have hcz6_1 : w5.cell? ⟨gb665, 1, none⟩ = some (.int .i64 a0_1) := (blk_cell BK665.out 1).trans rfl; have hcz6_2 : w5.cell? ⟨gb665, 2, none⟩ = some (.int .i64 a0_2) := (blk_cell BK665.out 2).trans rfl; have hcz6_3 : w5.cell? ⟨gb665, 3, none⟩ = some (.int .u64 a0_3) := (blk_cell BK665.out 3).trans rfl; have hfz6_0 := blk_frozen BK665.out 0; have hfz6_1 := blk_frozen BK665.out 1; have hfz6_2 := blk_frozen BK665.out 2; have hfz6_3 := blk_frozen BK665.out 3) | ((with_reducible refine gate_callee (f := 54) rfl ?_); refine goesL_ (some 15) rfl rfl Try.func54 (by kernel_rfl) rfl #[.agg #[.int .i64 a0_0, .int .i64 a0_1, .int .i64 a0_2, .int .u64 a0_3], .slice A1 l1.length c1] rfl (by (try simp only [List.map_toArray, List.map_cons, List.map_nil]); first | done | rfl | (simp only [List.length_drop, List.length_take]; rfl)) ?_; (with_reducible refine (chunker_Ends.calls a0_0 a0_1 a0_2 a0_3 _ _ l1 t666 t669 _ ?side1 ?side2 A3.out).mono ?_); (case side1 => repeat (first | exact (Kd.C_below HR1.out HB.out) | (with_reducible refine Kd.C_alloc ?_ _) | (with_reducible refine Kd.C_drewN ?_ _) | (with_reducible refine Kd.C_drew ?_))); (case side2 => exact HC1.out); rintro e w7 ⟨v667, rfl, ho0, hb⟩; refine ⟨_, rfl, ?_⟩; have n0_ := Aside0.mk (Kd.R_lower ho0 (below_size (by repeat (first | (with_reducible first | exact HB.out | apply below_alloc | apply pw_below_drewN | apply below_drew1 | refine below_set ?_ GE665.out) | exact HB.out)))); have n1_ := Aside0.mk (blk_below (g := gb665) (o := .cells #[.int .i64 a0_0, .int .i64 a0_1, .int .i64 a0_2, .int .u64 a0_3] 83 (0, 0)) (by (with_reducible repeat (first | refine blk_drewN ?_ _ | refine blk_drew ?_ | refine blk_alloc ?_ _)); exact BK665.out) hb); have n2_ := Aside0.mk (below_step (by repeat (first | (with_reducible first | exact HB.out | apply below_alloc | apply pw_below_drewN | apply below_drew1 | refine below_set ?_ GE665.out) | exact HB.out)) hb); clear BK665; clear HB; have HO668 := n0_; have BK665 := n1_; have HB := n2_; clear n0_ n1_ n2_; (try clear hb); (try clear hb2); (try clear hk); (try clear hi); (try clear ho0); obtain ⟨Ao8, co8, eo8⟩ := Kd.R_slice HO668.out; subst eo8))
    go_loopg [8, 9, 23] k (fun kq v8 v9 v23 w' => ∃ (x8_1 : List (List Int)) (x9_1 : Int) (x23_1 : Int), v9 = .int .i64 x9_1 ∧ v23 = .int .i64 x23_1 ∧ Aside0 (chunker_Split.l0 kq l1 x8_1 x9_1 t666 (t666.length : Int) x23_1 = some (r1, r2)) ∧ Aside0 (kq ≤ k) ∧ Aside0 (Kd.S (Kd.slice 5 (Kd.int .u8)) 34 w' w.heap.size (fun _ => True) v8 x8_1) ∧ Aside0 (Kd.R (Kd.int .i64) 3 w' w.heap.size (fun _ => True) (.slice Ao8 t666.length co8) t666) ∧ Aside0 (w'.heap[gb665]? = some (.cells #[.int .i64 a0_0, .int .i64 a0_1, .int .i64 a0_2, .int .u64 a0_3] 83 (0, 0))) ∧ Aside0 (Below w.heap.size w w'))
    case atStart => exact ⟨(([] : List (List Int))), (0), (0), (by first | rfl | (simp; done) | (simp [*]; done)), (by first | rfl | (simp; done) | (simp [*]; done)), H', ⟨Nat.le_refl _⟩, ⟨by first | exact Kd.S_nil _ _ _ _ _ | exact Kd.N_nil _ _ _ _ _ | exact Kd.V_nil _ _ _ _ _ | exact Kd.Q_nil _ _ _ _ _ | exact Kd.R_nil _ _ _ _ _⟩, ⟨by (with_reducible repeat (first | apply Kd.R_alloc | apply Kd.R_drewN | apply Kd.R_drew)); exact HO668.out⟩, ⟨by (with_reducible repeat (first | refine blk_drewN ?_ _ | refine blk_drew ?_ | refine blk_alloc ?_ _)); exact BK665.out⟩, ⟨by repeat (first | (with_reducible first | exact HB.out | apply below_alloc | apply pw_below_drewN | apply below_drew1 | refine below_set ?_ GE665.out) | exact HB.out)⟩⟩
    case round =>
      clear H'
      try clear c1
      try clear p2
      try clear c4
      try clear c4b0
      try clear c4b1
      try clear c5
      try clear c7
      try clear hcz6_0
      try clear hcz6_1
      try clear hcz6_2
      try clear hcz6_3
      try clear hfz6_0
      try clear hfz6_1
      try clear hfz6_2
      try clear hfz6_3
      obtain ⟨x8_1, x9_1, x23_1, rfl, rfl, HA, HK1, HO_8, HO_21, BK665, HB⟩ := hrel
      cases gk with
      | zero => exact absurd HA.out (by simp [chunker_Split.l0])
      | succ k1 =>
        have H := HA.out
        clear HA
        simp only [chunker_Split.l0] at H
        by_cases c9 : x23_1 < (t666.length : Int)
        · rw [if_pos c9] at H
          have c9b0 : decide (x23_1 < (t666.length : Int)) = true := decide_eq_true c9
          clear c9
          by_cases c10 : 0 ≤ x23_1
          · rw [if_pos c10] at H
            have c10b0 : decide (0 ≤ x23_1) = true := decide_eq_true c10
            clear c10
            by_cases c11 : x23_1 < (t666.length : Int)
            · rw [if_pos c11] at H
              have c11b0 : decide (x23_1 < (t666.length : Int)) = true := decide_eq_true c11
              clear c11
              by_cases c12 : 0 ≤ x9_1
              · rw [if_pos c12] at H
                have c12b0 := eq_true c12
                have c12b1 : decide (0 ≤ x9_1) = true := decide_eq_true c12
                clear c12
                by_cases c13 : x9_1 ≤ (rd t666 x23_1)
                · rw [if_pos c13] at H
                  have c13b0 := eq_true c13
                  have c13b1 : decide (x9_1 ≤ (rd t666 x23_1)) = true := decide_eq_true c13
                  clear c13
                  by_cases c14 : (rd t666 x23_1) ≤ (l1.length : Int)
                  · rw [if_pos c14] at H
                    have c14b0 := eq_true c14
                    have c14b1 : decide ((rd t666 x23_1) ≤ (l1.length : Int)) = true := decide_eq_true c14
                    clear c14
                    by_cases c15 : ([] : List Int).length + ((l1.take ((rd t666 x23_1) : Int).toNat).drop (x9_1 : Int).toNat).length < 140737488355328
                    · rw [if_pos c15] at H
                      have LMc15 := Aside0.mk c15
                      clear c15
                      obtain ⟨y672, hy672⟩ : ∃ y_ : List Int, y_ = (([] : List Int) ++ ((l1.take ((rd t666 x23_1) : Int).toNat).drop (x9_1 : Int).toNat)) := ⟨_, rfl⟩
                      replace H : (if x8_1.length < 5864062014805 then (chunker_Split.l0 k1 l1 (x8_1 ++ [y672]) (rd t666 x23_1) t666 (t666.length : Int) (wrap64 (x23_1 + 1))) else (none)) = some (r1, r2) := by first | (rw [hy672]; with_reducible exact H) | (have H2_ := (Option.bind_some _ _).symm.trans H; rw [hy672]; with_reducible exact H2_) | (have H2_ := (Option.bind_some _ _).symm.trans H; with_reducible exact H2_) | with_reducible exact H | (rw [hy672]; exact H) | exact H
                      have Ny672 := Aside0.mk hy672
                      clear hy672
                      by_cases c16 : x8_1.length < 5864062014805
                      · rw [if_pos c16] at H
                        have LMc16 := Aside0.mk c16
                        clear c16
                        obtain ⟨y675, hy675⟩ : ∃ y_ : List (List Int), y_ = (x8_1 ++ [y672]) := ⟨_, rfl⟩
                        replace H : (chunker_Split.l0 k1 l1 y675 (rd t666 x23_1) t666 (t666.length : Int) (wrap64 (x23_1 + 1))) = some (r1, r2) := by first | (rw [hy675]; with_reducible exact H) | (have H2_ := (Option.bind_some _ _).symm.trans H; rw [hy675]; with_reducible exact H2_) | (have H2_ := (Option.bind_some _ _).symm.trans H; with_reducible exact H2_) | with_reducible exact H | (rw [hy675]; exact H) | exact H
                        have Ny675 := Aside0.mk hy675
                        clear hy675
                        have H' := Aside0.mk H
                        clear H
                        have p670 : 0 ≤ (x23_1 : Int) := of_decide_eq_true (by first | (with_reducible assumption) | assumption)
                        have q670 : x23_1 < (t666.length : Int) := of_decide_eq_true (by first | (with_reducible assumption) | assumption)
                        obtain ⟨ad670, e670, hx670_0⟩ := Kd.at_int (Kd.R_reads' HO_21.out).2.2 x23_1 p670 q670
                        cases e670
                        replace p670 := eq_true p670
                        replace q670 := eq_true q670
                        obtain ⟨i017, hi017, _, hsz17, _⟩ := info_parts info5
                        obtain ⟨A17, hcut17, hA17, hC17⟩ := print_mid_of (P := Try.prog) (Value.int .u8) 0 34 5 .i64 .i64 Try.underlying34 hi017 hsz17 A1 c1 l1 x9_1 (rd t666 x23_1) (of_decide_eq_true (by first | (with_reducible assumption) | assumption)) (by first | omega | exact of_decide_eq_true (by first | (with_reducible assumption) | assumption)) (of_decide_eq_true (by first | (with_reducible assumption) | assumption)) HC1.out
                        have HR671 := Aside0.mk (Kd.C_of_reads (h1 := fun _ => rfl) (hA17 _ (Kd.reads_of_C HR1.out)))
                        have HC671 := Aside0.mk hC17
                        clear hA17 hC17 hi017 hsz17
                        go_wp2_with (first | ((with_reducible refine gate_builtin (b := .append) (xs := #[.const (.slice none 0 0), .tmp 31]) rfl ?_); at_builtin; refine Kd.R_append_rows (Kd.int .u8) (w0 := w) w.heap.size rfl (.const (.slice none 0 0)) (.tmp 31) 34 5 (.int .u8 0) 1 rfl Try.underlying34 info5 rfl (by decide) (by omega) (.slice none 0 0) ([] : List Int) ((l1.take ((rd t666 x23_1) : Int).toNat).drop (x9_1 : Int).toNat) _ _ _ (fun _ => True) (fun _ => False) rfl rfl ?aO ?aR (fun _ _ h => h) (fun _ h => h.elim) ?aF ?aB ?aS ?aL ?_; (case aR => first | (rw [← show ((l1.take ((rd t666 x23_1) : Int).toNat).drop (x9_1 : Int).toNat).length = ((rd t666 x23_1).toNat - x9_1.toNat) from (by rw [List.length_drop, List.length_take]; have h_ : ((rd t666 x23_1) : Int) ≤ (l1.length : Int) := of_decide_eq_true (by first | (with_reducible assumption) | assumption); omega)]; repeat (first | exact (Kd.C_below HR671.out HB.out) | (with_reducible refine Kd.C_alloc ?_ _) | (with_reducible refine Kd.C_drewN ?_ _) | (with_reducible refine Kd.C_drew ?_))) | (repeat (first | exact (Kd.C_below HR671.out HB.out) | (with_reducible refine Kd.C_alloc ?_ _) | (with_reducible refine Kd.C_drewN ?_ _) | (with_reducible refine Kd.C_drew ?_)))); (case aB => exact (by repeat (first | (with_reducible first | exact HB.out | apply below_alloc | apply pw_below_drewN | apply below_drew1 | refine below_set ?_ GE665.out) | exact HB.out))); (case aF => exact (fun _ _ => trivial)); (case aO => exact ((Kd.R_nil _ _ _ _ (fun _ => True)))); (case aS => exact (below_size (by repeat (first | (with_reducible first | exact HB.out | apply below_alloc | apply pw_below_drewN | apply below_drew1 | refine below_set ?_ GE665.out) | exact HB.out)))); (case aL => have := LMc15.out; have hlx_ := (show ((l1.take ((rd t666 x23_1) : Int).toNat).drop (x9_1 : Int).toNat).length = ((rd t666 x23_1).toNat - x9_1.toNat) from (by rw [List.length_drop, List.length_take]; have h_ : ((rd t666 x23_1) : Int) ≤ (l1.length : Int) := of_decide_eq_true (by first | (with_reducible assumption) | assumption); omega)); omega); intro v673 w18 ho hb hg hat; rw [← Ny672.out] at ho; have n0_ := Aside0.mk (Kd.S_after (Kd.S_apart_nil (by (with_reducible repeat (first | apply Kd.S_alloc | apply Kd.S_drewN | apply Kd.S_drew)); exact HO_8.out)) hg hat); have n1_ := Aside0.mk (Kd.R_grown (by (with_reducible repeat (first | apply Kd.R_alloc | apply Kd.R_drewN | apply Kd.R_drew)); exact HO_21.out) hg (fun _ _ => by simp [Value.ownBlock])); have n2_ := Aside0.mk (blk_grown (g := gb665) (o := .cells #[.int .i64 a0_0, .int .i64 a0_1, .int .i64 a0_2, .int .u64 a0_3] 83 (0, 0)) (by (with_reducible repeat (first | refine blk_drewN ?_ _ | refine blk_drew ?_ | refine blk_alloc ?_ _)); exact BK665.out) hg (by simp [Value.ownBlock])); have n3_ := Aside0.mk (hb); have n4_ := Aside0.mk (ho); clear HO_8; clear HO_21; clear BK665; clear HB; have HO_8 := n0_; have HO_21 := n1_; have BK665 := n2_; have HB := n3_; have HO674 := n4_; clear n0_ n1_ n2_ n3_ n4_; clear ho hb hg hat; obtain ⟨Ao20, co20, eo20⟩ := Kd.R_slice HO674.out; subst eo20) | ((with_reducible refine gate_builtin (b := .append) (xs := #[.tmp 27, .tmp 33]) rfl ?_); at_builtin; refine Kd.S_append (Kd.slice 5 (Kd.int .u8)) (w0 := w) w.heap.size rfl (.tmp 27) (.tmp 33) 27 34 (.slice none 0 0) 24 rfl Try.underlying27 info34 rfl (by decide) (by omega) u8 x8_1 y672 [.slice Ao20 y672.length co20] (fun _ => True) (fun k_ => some k_ = (.slice Ao20 y672.length co20 : Value).ownBlock) rfl rfl ?aP (fun k_ hk_ => ((Kd.R_mono (ok' := fun k_ => ((fun _ => True)) k_ ∧ some k_ ≠ (u8 : Value).ownBlock) (Kd.R_apart' (HO674.out) (Kd.S_typed HO_8.out) (by decide)) (fun k_ hk => ⟨trivial, hk.2⟩))).1 k_ hk_.symm) ?aF ?aO ?aB ?aS ?aL ?_; (case aP => exact Kd.M_row (Kd.R_mono (Kd.R_tight rfl (Kd.R_mono (ok' := fun k_ => ((fun _ => True)) k_ ∧ some k_ ≠ (u8 : Value).ownBlock) (Kd.R_apart' (HO674.out) (Kd.S_typed HO_8.out) (by decide)) (fun k_ hk => ⟨trivial, hk.2⟩))) (fun _ h_ => h_))); (case aB => exact (by repeat (first | (with_reducible first | exact HB.out | apply below_alloc | apply pw_below_drewN | apply below_drew1 | refine below_set ?_ GE665.out) | exact HB.out))); (case aF => exact (fun _ _ => trivial)); (case aO => exact (by (with_reducible repeat (first | apply Kd.S_alloc | apply Kd.S_drewN | apply Kd.S_drew)); exact Kd.S_mono HO_8.out (fun k_ hk => ⟨trivial, fun e_ => hk.2 e_⟩))); (case aS => exact (below_size (by repeat (first | (with_reducible first | exact HB.out | apply below_alloc | apply pw_below_drewN | apply below_drew1 | refine below_set ?_ GE665.out) | exact HB.out)))); (case aL => have := LMc16.out; omega); intro v676 w19 ho hb hg hat; rw [← Ny675.out] at ho; have n0_ := Aside0.mk (Kd.R_over' (by (with_reducible repeat (first | apply Kd.R_alloc | apply Kd.R_drewN | apply Kd.R_drew)); exact HO_21.out) (Kd.S_typed (by (with_reducible repeat (first | apply Kd.S_alloc | apply Kd.S_drewN | apply Kd.S_drew)); exact HO_8.out)) (by decide) hg); have n1_ := Aside0.mk (blk_grown (g := gb665) (o := .cells #[.int .i64 a0_0, .int .i64 a0_1, .int .i64 a0_2, .int .u64 a0_3] 83 (0, 0)) (by (with_reducible repeat (first | refine blk_drewN ?_ _ | refine blk_drew ?_ | refine blk_alloc ?_ _)); exact BK665.out) hg (Kd.S_ne HO_8.out BK665.out (by decide))); have n2_ := Aside0.mk (hb); have n3_ := Aside0.mk (ho); clear HO_21; clear BK665; clear HB; clear HO_8; clear HO674; have HO_21 := n0_; have BK665 := n1_; have HB := n2_; have HO677 := n3_; clear n0_ n1_ n2_ n3_; clear ho hb hg hat))
                        go_roundg k1
                        case measure => have := HK1.out; omega
                        case rel => exact ⟨(y675), (rd t666 x23_1), (wrap64 (x23_1 + 1)), (by first | rfl | (simp; done) | (simp [*]; done)), (by first | rfl | (simp; done) | (simp [*]; done)), H', ⟨by have := HK1.out; omega⟩, ⟨by (with_reducible repeat (first | apply Kd.S_alloc | apply Kd.S_drewN | apply Kd.S_drew)); exact HO677.out⟩, ⟨by (with_reducible repeat (first | apply Kd.R_alloc | apply Kd.R_drewN | apply Kd.R_drew)); exact HO_21.out⟩, ⟨by (with_reducible repeat (first | refine blk_drewN ?_ _ | refine blk_drew ?_ | refine blk_alloc ?_ _)); exact BK665.out⟩, ⟨by repeat (first | (with_reducible first | exact HB.out | apply below_alloc | apply pw_below_drewN | apply below_drew1 | refine below_set ?_ GE665.out) | exact HB.out)⟩⟩
                      · rw [if_neg c16] at H
                        exact absurd H (by simp)
                    · rw [if_neg c15] at H
                      exact absurd H (by simp)
                  · rw [if_neg c14] at H
                    exact absurd H (by simp)
                · rw [if_neg c13] at H
                  exact absurd H (by simp)
              · rw [if_neg c12] at H
                exact absurd H (by simp)
            · rw [if_neg c11] at H
              exact absurd H (by simp)
          · rw [if_neg c10] at H
            exact absurd H (by simp)
        · rw [if_neg c9] at H
          have c9b0 : decide (x23_1 < (t666.length : Int)) = false := decide_eq_false c9
          clear c9
          simp only [Option.some.injEq, Prod.mk.injEq] at H
          obtain ⟨rfl, rfl⟩ := H
          go_wp2
          go_ret2
          exact ⟨_, by first | rfl | (simp [errW_none, errW_some] <;> rfl) | (simp [*, errW_none, errW_some] <;> rfl), by (with_reducible repeat (first | apply Kd.S_alloc | apply Kd.S_drewN | apply Kd.S_drew)); exact HO_8.out, by repeat (first | (with_reducible first | exact HB.out | apply below_alloc | apply pw_below_drewN | apply below_drew1 | refine below_set ?_ GE665.out) | exact HB.out)⟩
  · rw [if_neg c4] at H
    have c4b0 : (t669 == 0) = false := beq_eq_false_iff_ne.mpr c4
    have c4b1 : (t669 != 0) = true := bne_iff_ne.mpr c4
    simp only [Option.some.injEq, Prod.mk.injEq] at H
    obtain ⟨rfl, rfl⟩ := H
    go_enter Try.func70, Try.ntmps70
    go_wp2_with (first | ((with_reducible refine gate_dst (N := 2) rfl ?_); refine box_event ?hg (N := 2) ?hd (cs := #[.int .i64 a0_0, .int .i64 a0_1, .int .i64 a0_2, .int .u64 a0_3]) (t := 83) ?hr ?_; (case hd => rfl); (case hg => rfl); (case hr => first | (go_simp; done) | (go_simp; rfl)); intro gb665 hg w21 hbox hb; have n0_ := Aside0.mk (below_step (by repeat (first | (with_reducible first | exact HB.out | apply below_alloc | apply pw_below_drewN | apply below_drew1) | exact HB.out)) hb); have n1_ := Aside0.mk (hbox); have n2_ := Aside0.mk ((by rw [hg]; exact (below_size (by repeat (first | (with_reducible first | exact HB.out | apply below_alloc | apply pw_below_drewN | apply below_drew1) | exact HB.out))) : w.heap.size ≤ gb665)); have n3_ := Aside0.mk ((by rw [hg]; exact (below_size (by repeat (first | (with_reducible first | exact HB.out | apply below_alloc | apply pw_below_drewN | apply below_drew1) | exact HB.out))) : w.heap.size ≤ gb665)); clear HB; have HB := n0_; have BK665 := n1_; have GW665 := n2_; have GE665 := n3_; clear n0_ n1_ n2_ n3_; clear hb hbox hg; have hcz22_0 : w21.cell? ⟨gb665, 0, none⟩ = some (.int .i64 a0_0) := (blk_cell BK665.out 0).trans rfl; have hcz22_1 : w21.cell? ⟨gb665, 1, none⟩ = some (.int .i64 a0_1) := (blk_cell BK665.out 1).trans rfl; have hcz22_2 : w21.cell? ⟨gb665, 2, none⟩ = some (.int .i64 a0_2) := (blk_cell BK665.out 2).trans rfl; have hcz22_3 : w21.cell? ⟨gb665, 3, none⟩ = some (.int .u64 a0_3) := (blk_cell BK665.out 3).trans rfl; have hfz22_0 := blk_frozen BK665.out 0; have hfz22_1 := blk_frozen BK665.out 1; have hfz22_2 := blk_frozen BK665.out 2; have hfz22_3 := blk_frozen BK665.out 3) | ((with_reducible refine gate_callee (f := 54) rfl ?_); refine goesL_ (some 15) rfl rfl Try.func54 (by kernel_rfl) rfl #[.agg #[.int .i64 a0_0, .int .i64 a0_1, .int .i64 a0_2, .int .u64 a0_3], .slice A1 l1.length c1] rfl (by (try simp only [List.map_toArray, List.map_cons, List.map_nil]); first | done | rfl | (simp only [List.length_drop, List.length_take]; rfl)) ?_; (with_reducible refine (chunker_Ends.calls a0_0 a0_1 a0_2 a0_3 _ _ l1 t666 t669 _ ?side1 ?side2 A3.out).mono ?_); (case side1 => repeat (first | exact (Kd.C_below HR1.out HB.out) | (with_reducible refine Kd.C_alloc ?_ _) | (with_reducible refine Kd.C_drewN ?_ _) | (with_reducible refine Kd.C_drew ?_))); (case side2 => exact HC1.out); rintro e w23 ⟨v667, rfl, ho0, hb⟩; refine ⟨_, rfl, ?_⟩; have n0_ := Aside0.mk (Kd.R_lower ho0 (below_size (by repeat (first | (with_reducible first | exact HB.out | apply below_alloc | apply pw_below_drewN | apply below_drew1 | refine below_set ?_ GE665.out) | exact HB.out)))); have n1_ := Aside0.mk (blk_below (g := gb665) (o := .cells #[.int .i64 a0_0, .int .i64 a0_1, .int .i64 a0_2, .int .u64 a0_3] 83 (0, 0)) (by (with_reducible repeat (first | refine blk_drewN ?_ _ | refine blk_drew ?_ | refine blk_alloc ?_ _)); exact BK665.out) hb); have n2_ := Aside0.mk (below_step (by repeat (first | (with_reducible first | exact HB.out | apply below_alloc | apply pw_below_drewN | apply below_drew1 | refine below_set ?_ GE665.out) | exact HB.out)) hb); clear BK665; clear HB; have HO668 := n0_; have BK665 := n1_; have HB := n2_; clear n0_ n1_ n2_; (try clear hb); (try clear hb2); (try clear hk); (try clear hi); (try clear ho0)))
    go_ret2
    exact ⟨_, by first | rfl | (simp [errW_none, errW_some] <;> rfl) | (simp [*, errW_none, errW_some] <;> rfl), by first | exact Kd.S_nil _ _ _ _ _ | exact Kd.N_nil _ _ _ _ _ | exact Kd.V_nil _ _ _ _ _ | exact Kd.Q_nil _ _ _ _ _ | exact Kd.R_nil _ _ _ _ _, by repeat (first | (with_reducible first | exact HB.out | apply below_alloc | apply pw_below_drewN | apply below_drew1 | refine below_set ?_ GE665.out) | exact HB.out)⟩

/-! ### manifest_Build: function 51 -/
def manifest_Build.l0 : Nat → List (List Int) → List (List Int) → Int → Int → Int → List (S51) → Option (Int × (List (S51)) × (List (List Int)) × Int)
  | 0, _, _, _, _, _, _ => none
  | k + 1, x7, x29, x30, x31, x685000, x685001 => if x31 < x30 then (if 0 ≤ x31 then (if x31 < (x29.length : Int) then ((fingerprint_Of.f k (rd_L2 x29 x31)).bind fun bt686 => (if x685001.length < 8796093022208 then (manifest_Build.l0 k x7 x29 x30 (wrap64 (x31 + 1)) x685000 (x685001 ++ [(⟨bt686.1, bt686.2⟩ : S51)])) else (none))) else (none)) else (none)) else (some (x685000, x685001, x7, 0))
def manifest_Build.f (k : Nat) (a0_0 : Int) (a0_1 : Int) (a0_2 : Int) (a0_3 : Int) (l1 : List Int) : Option (Int × (List (S51)) × (List (List Int)) × Int) := (chunker_Split.f k a0_0 a0_1 a0_2 a0_3 l1).bind fun bt680 => (if bt680.2 = 0 then (if (bt680.1.length : Int) > 1024 then (some (0, ([] : List (S51)), ([] : List (List Int)), 251)) else (manifest_Build.l0 k bt680.1 bt680.1 (bt680.1.length : Int) 0 (l1.length : Int) ([] : List (S51)))) else (some (0, ([] : List (S51)), ([] : List (List Int)), bt680.2)))
def manifest_Build.T10 : Bool × List (List Nat × List Nat) := (true, [([], []), ([0], [0]), ([], []), ([2], [2]), ([3], [3]), ([1, 4, 3], [1, 4]), ([0, 1, 2, 3, 4, 5], []), ([6, 5, 5, 0, 1, 2, 3, 4, 5], [5, 6])])
def manifest_Build.B10 : List Nat := [0, 1, 0, 4, 12, 31, 63, 127]
theorem manifest_Build.tab10 : rtab .any (opsOf Try.f51 10) = manifest_Build.T10 := by kernel_rfl
theorem manifest_Build.bits10 : waitsOk manifest_Build.T10.2 manifest_Build.B10 = true := by kernel_rfl
set_option maxHeartbeats 8000000 in
set_option maxRecDepth 100000 in
theorem manifest_Build.calls (k : Nat) (a0_0 : Int) (a0_1 : Int) (a0_2 : Int) (a0_3 : Int) (A1 : Option Addr) (c1 : Nat) (l1 : List Int) (r1 : Int) (r2 : List (S51)) (r3 : List (List Int)) (r4 : Int) (w : World) (hr1 : Kd.C (Kd.int .u8) w A1 l1.length l1) (hc1 : l1.length ≤ c1) (h : manifest_Build.f k a0_0 a0_1 a0_2 a0_3 l1 = some (r1, r2, r3, r4)) :
    Calls Try.prog 51 #[.agg #[.int .i64 a0_0, .int .i64 a0_1, .int .i64 a0_2, .int .u64 a0_3], .slice A1 l1.length c1] w fun e w' => ∃ v1_ v2_ : Value, e = .returned (.tuple #[.agg #[.int .i64 r1, v1_], v2_, .int .i64 r4]) ∧ Kd.R k51 51 w' w.heap.size (fun _ => True) v1_ r2 ∧ Kd.S (Kd.slice 5 (Kd.int .u8)) 34 w' w.heap.size (fun _ => True) v2_ r3 ∧ Below w.heap.size w w' := by
  have hu83 := Try.underlying83
  have hu31 := Try.underlying31
  have HR1 := Aside0.mk hr1
  have HC1 := Aside0.mk hc1
  clear hr1 hc1
  have HB := Aside0.mk (Below.refl w.heap.size w)
  have H : ((chunker_Split.f k a0_0 a0_1 a0_2 a0_3 l1).bind fun bt680 => (if bt680.2 = 0 then (if (bt680.1.length : Int) > 1024 then (some (0, ([] : List (S51)), ([] : List (List Int)), 251)) else (manifest_Build.l0 k bt680.1 bt680.1 (bt680.1.length : Int) 0 (l1.length : Int) ([] : List (S51)))) else (some (0, ([] : List (S51)), ([] : List (List Int)), bt680.2)))) = some (r1, r2, r3, r4) := h
  clear h
  replace H := Option.bind_eq_some_iff.mp H
  obtain ⟨⟨t680, t683⟩, A30, H⟩ := H
  replace H : (if t683 = 0 then (if (t680.length : Int) > 1024 then (some (0, ([] : List (S51)), ([] : List (List Int)), 251)) else (manifest_Build.l0 k t680 t680 (t680.length : Int) 0 (l1.length : Int) ([] : List (S51)))) else (some (0, ([] : List (S51)), ([] : List (List Int)), t683))) = some (r1, r2, r3, r4) := H
  have A3 := Aside0.mk A30
  clear A30
  by_cases c4 : t683 = 0
  · rw [if_pos c4] at H
    have c4b0 : (t683 == 0) = true := beq_iff_eq.mpr c4
    have c4b1 : (t683 != 0) = false := bne_eq_false_iff_eq.mpr c4
    clear c4
    by_cases c5 : (t680.length : Int) > 1024
    · rw [if_pos c5] at H
      have c5b0 : decide (1024 < (t680.length : Int)) = true := decide_eq_true c5
      have c5b1 : decide (1024 < t680.length) = true := decide_eq_true (by omega)
      clear c5
      simp only [Option.some.injEq, Prod.mk.injEq] at H
      obtain ⟨rfl, rfl, rfl, rfl⟩ := H
      go_enter Try.func51, Try.ntmps51
      go_wp2_with (first | ((with_reducible refine gate_dst (N := 2) rfl ?_); refine box_event ?hg (N := 2) ?hd (cs := #[.int .i64 a0_0, .int .i64 a0_1, .int .i64 a0_2, .int .u64 a0_3]) (t := 83) ?hr ?_; (case hd => rfl); (case hg => rfl); (case hr => first | (go_simp; done) | (go_simp; rfl)); intro gb678 hg w6 hbox hb; have n0_ := Aside0.mk (below_step (by repeat (first | (with_reducible first | exact HB.out | apply below_alloc | apply pw_below_drewN | apply below_drew1) | exact HB.out)) hb); have n1_ := Aside0.mk (hbox); have n2_ := Aside0.mk ((by rw [hg]; exact (below_size (by repeat (first | (with_reducible first | exact HB.out | apply below_alloc | apply pw_below_drewN | apply below_drew1) | exact HB.out))) : w.heap.size ≤ gb678)); have n3_ := Aside0.mk ((by rw [hg]; exact (below_size (by repeat (first | (with_reducible first | exact HB.out | apply below_alloc | apply pw_below_drewN | apply below_drew1) | exact HB.out))) : w.heap.size ≤ gb678)); clear HB; have HB := n0_; have BK678 := n1_; have GW678 := n2_; have GE678 := n3_; clear n0_ n1_ n2_ n3_; clear hb hbox hg) | ((with_reducible refine gate_dst (N := 4) rfl ?_); refine box_event ?hg (N := 4) ?hd (cs := #[.int .i64 0, .slice none 0 0]) (t := 31) ?hr ?_; (case hd => rfl); (case hg => rfl); (case hr => first | (go_simp; done) | (go_simp; rfl)); intro gb679 hg w7 hbox hb; have n0_ := Aside0.mk (blk_below (g := gb678) (o := .cells #[.int .i64 a0_0, .int .i64 a0_1, .int .i64 a0_2, .int .u64 a0_3] 83 (0, 0)) (by (with_reducible repeat (first | refine blk_drewN ?_ _ | refine blk_drew ?_ | refine blk_alloc ?_ _)); exact BK678.out) hb); have n1_ := Aside0.mk (below_step (by repeat (first | (with_reducible first | exact HB.out | apply below_alloc | apply pw_below_drewN | apply below_drew1 | refine below_set ?_ GE678.out) | exact HB.out)) hb); have n2_ := Aside0.mk (hbox); have n3_ := Aside0.mk ((by rw [hg]; exact (below_size (by repeat (first | (with_reducible first | exact HB.out | apply below_alloc | apply pw_below_drewN | apply below_drew1 | refine below_set ?_ GE678.out) | exact HB.out))) : w.heap.size ≤ gb679)); have n4_ := Aside0.mk ((by rw [hg]; exact (below_size (by repeat (first | (with_reducible first | exact HB.out | apply below_alloc | apply pw_below_drewN | apply below_drew1 | refine below_set ?_ GE678.out) | exact HB.out))) : w.heap.size ≤ gb679)); have n5_ := Aside0.mk ((by rw [hg]; exact Nat.ne_of_lt (blk_lt (g := gb678) (o := .cells #[.int .i64 a0_0, .int .i64 a0_1, .int .i64 a0_2, .int .u64 a0_3] 83 (0, 0)) (by (with_reducible repeat (first | refine blk_drewN ?_ _ | refine blk_drew ?_ | refine blk_alloc ?_ _)); exact BK678.out)) : gb678 ≠ gb679)); have n6_ := Aside0.mk ((by rw [hg]; exact Nat.ne_of_gt (blk_lt (g := gb678) (o := .cells #[.int .i64 a0_0, .int .i64 a0_1, .int .i64 a0_2, .int .u64 a0_3] 83 (0, 0)) (by (with_reducible repeat (first | refine blk_drewN ?_ _ | refine blk_drew ?_ | refine blk_alloc ?_ _)); exact BK678.out)) : gb679 ≠ gb678)); clear BK678; clear HB; have BK678 := n0_; have HB := n1_; have BK679 := n2_; have GW679 := n3_; have GE679 := n4_; have NB678_679 := n5_; have NB679_678 := n6_; clear n0_ n1_ n2_ n3_ n4_ n5_ n6_; clear hb hbox hg; have hnb8 := NB678_679.out; have hnc8 := NB679_678.out; have hcz9_0 : w7.cell? ⟨gb678, 0, none⟩ = some (.int .i64 a0_0) := (blk_cell BK678.out 0).trans rfl; have hcz9_1 : w7.cell? ⟨gb678, 1, none⟩ = some (.int .i64 a0_1) := (blk_cell BK678.out 1).trans rfl; have hcz9_2 : w7.cell? ⟨gb678, 2, none⟩ = some (.int .i64 a0_2) := (blk_cell BK678.out 2).trans rfl; have hcz9_3 : w7.cell? ⟨gb678, 3, none⟩ = some (.int .u64 a0_3) := (blk_cell BK678.out 3).trans rfl; have hfz9_0 := blk_frozen BK678.out 0; have hfz9_1 := blk_frozen BK678.out 1; have hfz9_2 := blk_frozen BK678.out 2; have hfz9_3 := blk_frozen BK678.out 3) | ((with_reducible refine gate_callee (f := 70) rfl ?_); refine goesL_ (some 15) rfl rfl Try.func70 (by kernel_rfl) rfl #[.agg #[.int .i64 a0_0, .int .i64 a0_1, .int .i64 a0_2, .int .u64 a0_3], .slice A1 l1.length c1] rfl (by (try simp only [List.map_toArray, List.map_cons, List.map_nil]); first | done | rfl | (simp only [List.length_drop, List.length_take]; rfl)) ?_; (with_reducible refine (chunker_Split.calls k a0_0 a0_1 a0_2 a0_3 _ _ l1 t680 t683 _ ?side1 ?side2 A3.out).mono ?_); (case side1 => repeat (first | exact (Kd.C_below HR1.out HB.out) | (with_reducible refine Kd.C_alloc ?_ _) | (with_reducible refine Kd.C_drewN ?_ _) | (with_reducible refine Kd.C_drew ?_))); (case side2 => exact HC1.out); rintro e w10 ⟨v681, rfl, ho0, hb⟩; refine ⟨_, rfl, ?_⟩; have n0_ := Aside0.mk (Kd.S_lower ho0 (below_size (by repeat (first | (with_reducible first | exact HB.out | apply below_alloc | apply pw_below_drewN | apply below_drew1 | refine below_set ?_ GE678.out | refine below_set ?_ GE679.out) | exact HB.out)))); have n1_ := Aside0.mk (blk_below (g := gb678) (o := .cells #[.int .i64 a0_0, .int .i64 a0_1, .int .i64 a0_2, .int .u64 a0_3] 83 (0, 0)) (by (with_reducible repeat (first | refine blk_drewN ?_ _ | refine blk_drew ?_ | refine blk_alloc ?_ _)); exact BK678.out) hb); have n2_ := Aside0.mk (blk_below (g := gb679) (o := .cells #[.int .i64 0, .slice none 0 0] 31 (0, 0)) (by (with_reducible repeat (first | refine blk_drewN ?_ _ | refine blk_drew ?_ | refine blk_alloc ?_ _)); exact BK679.out) hb); have n3_ := Aside0.mk (below_step (by repeat (first | (with_reducible first | exact HB.out | apply below_alloc | apply pw_below_drewN | apply below_drew1 | refine below_set ?_ GE678.out | refine below_set ?_ GE679.out) | exact HB.out)) hb); clear BK678; clear BK679; clear HB; have HO682 := n0_; have BK678 := n1_; have BK679 := n2_; have HB := n3_; clear n0_ n1_ n2_ n3_; (try clear hb); (try clear hb2); (try clear hk); (try clear hi); (try clear ho0); obtain ⟨Ao11, co11, eo11⟩ := Kd.S_slice HO682.out; subst eo11; have hcz12_0 : w10.cell? ⟨gb679, 0, none⟩ = some (.int .i64 0) := (blk_cell BK679.out 0).trans rfl; have hcz12_1 : w10.cell? ⟨gb679, 1, none⟩ = some (.slice none 0 0) := (blk_cell BK679.out 1).trans rfl; have hfz12_0 := blk_frozen BK679.out 0; have hfz12_1 := blk_frozen BK679.out 1))
      refine bodyPost_ret (results_ctt rfl _ _ gb679 31 #[.int .i64 0, .slice none 0 0] (0, 0) _ rfl (by (with_reducible repeat (first | refine blk_drewN ?_ _ | refine blk_drew ?_ | refine blk_alloc ?_ _)); refine blk_put (cs := #[.int .i64 0, .slice none 0 0]) ?_ 1 _ rfl; (with_reducible repeat (first | refine blk_drewN ?_ _ | refine blk_drew ?_ | refine blk_alloc ?_ _)); refine blk_put (cs := #[.int .i64 0, .slice none 0 0]) ?_ 0 _ rfl; (with_reducible repeat (first | refine blk_drewN ?_ _ | refine blk_drew ?_ | refine blk_alloc ?_ _)); exact BK679.out) Try.underlying31 rfl (by kernel_rfl)) rfl ?_
      exact ⟨_, _, by first | rfl | (simp [errW_none, errW_some] <;> rfl) | (simp [*, errW_none, errW_some] <;> rfl), by first | exact Kd.R_nil _ _ _ _ _ | exact Kd.N_nil _ _ _ _ _ | exact Kd.V_nil _ _ _ _ _ | exact Kd.Q_nil _ _ _ _ _ | exact Kd.S_nil _ _ _ _ _, by first | exact Kd.S_nil _ _ _ _ _ | exact Kd.N_nil _ _ _ _ _ | exact Kd.V_nil _ _ _ _ _ | exact Kd.Q_nil _ _ _ _ _ | exact Kd.R_nil _ _ _ _ _, by repeat (first | (with_reducible first | exact HB.out | apply below_alloc | apply pw_below_drewN | apply below_drew1 | refine below_set ?_ GE678.out | refine below_set ?_ GE679.out) | exact HB.out)⟩
    · rw [if_neg c5] at H
      have c5b0 : decide (1024 < (t680.length : Int)) = false := decide_eq_false c5
      have c5b1 : decide (1024 < t680.length) = false := decide_eq_false (by omega)
      clear c5
      have H' := Aside0.mk H
      clear H
      go_enter Try.func51, Try.ntmps51
      go_wp2_with (first | ((with_reducible refine gate_dst (N := 2) rfl ?_); refine box_event ?hg (N := 2) ?hd (cs := #[.int .i64 a0_0, .int .i64 a0_1, .int .i64 a0_2, .int .u64 a0_3]) (t := 83) ?hr ?_; (case hd => rfl); (case hg => rfl); (case hr => first | (go_simp; done) | (go_simp; rfl)); intro gb678 hg w13 hbox hb; have n0_ := Aside0.mk (below_step (by repeat (first | (with_reducible first | exact HB.out | apply below_alloc | apply pw_below_drewN | apply below_drew1) | exact HB.out)) hb); have n1_ := Aside0.mk (hbox); have n2_ := Aside0.mk ((by rw [hg]; exact (below_size (by repeat (first | (with_reducible first | exact HB.out | apply below_alloc | apply pw_below_drewN | apply below_drew1) | exact HB.out))) : w.heap.size ≤ gb678)); have n3_ := Aside0.mk ((by rw [hg]; exact (below_size (by repeat (first | (with_reducible first | exact HB.out | apply below_alloc | apply pw_below_drewN | apply below_drew1) | exact HB.out))) : w.heap.size ≤ gb678)); clear HB; have HB := n0_; have BK678 := n1_; have GW678 := n2_; have GE678 := n3_; clear n0_ n1_ n2_ n3_; clear hb hbox hg) | ((with_reducible refine gate_dst (N := 4) rfl ?_); refine box_event ?hg (N := 4) ?hd (cs := #[.int .i64 0, .slice none 0 0]) (t := 31) ?hr ?_; (case hd => rfl); (case hg => rfl); (case hr => first | (go_simp; done) | (go_simp; rfl)); intro gb679 hg w14 hbox hb; have n0_ := Aside0.mk (blk_below (g := gb678) (o := .cells #[.int .i64 a0_0, .int .i64 a0_1, .int .i64 a0_2, .int .u64 a0_3] 83 (0, 0)) (by (with_reducible repeat (first | refine blk_drewN ?_ _ | refine blk_drew ?_ | refine blk_alloc ?_ _)); exact BK678.out) hb); have n1_ := Aside0.mk (below_step (by repeat (first | (with_reducible first | exact HB.out | apply below_alloc | apply pw_below_drewN | apply below_drew1 | refine below_set ?_ GE678.out) | exact HB.out)) hb); have n2_ := Aside0.mk (hbox); have n3_ := Aside0.mk ((by rw [hg]; exact (below_size (by repeat (first | (with_reducible first | exact HB.out | apply below_alloc | apply pw_below_drewN | apply below_drew1 | refine below_set ?_ GE678.out) | exact HB.out))) : w.heap.size ≤ gb679)); have n4_ := Aside0.mk ((by rw [hg]; exact (below_size (by repeat (first | (with_reducible first | exact HB.out | apply below_alloc | apply pw_below_drewN | apply below_drew1 | refine below_set ?_ GE678.out) | exact HB.out))) : w.heap.size ≤ gb679)); have n5_ := Aside0.mk ((by rw [hg]; exact Nat.ne_of_lt (blk_lt (g := gb678) (o := .cells #[.int .i64 a0_0, .int .i64 a0_1, .int .i64 a0_2, .int .u64 a0_3] 83 (0, 0)) (by (with_reducible repeat (first | refine blk_drewN ?_ _ | refine blk_drew ?_ | refine blk_alloc ?_ _)); exact BK678.out)) : gb678 ≠ gb679)); have n6_ := Aside0.mk ((by rw [hg]; exact Nat.ne_of_gt (blk_lt (g := gb678) (o := .cells #[.int .i64 a0_0, .int .i64 a0_1, .int .i64 a0_2, .int .u64 a0_3] 83 (0, 0)) (by (with_reducible repeat (first | refine blk_drewN ?_ _ | refine blk_drew ?_ | refine blk_alloc ?_ _)); exact BK678.out)) : gb679 ≠ gb678)); clear BK678; clear HB; have BK678 := n0_; have HB := n1_; have BK679 := n2_; have GW679 := n3_; have GE679 := n4_; have NB678_679 := n5_; have NB679_678 := n6_; clear n0_ n1_ n2_ n3_ n4_ n5_ n6_; clear hb hbox hg; have hnb15 := NB678_679.out; have hnc15 := NB679_678.out; have hcz16_0 : w14.cell? ⟨gb678, 0, none⟩ = some (.int .i64 a0_0) := (blk_cell BK678.out 0).trans rfl; have hcz16_1 : w14.cell? ⟨gb678, 1, none⟩ = some (.int .i64 a0_1) := (blk_cell BK678.out 1).trans rfl; have hcz16_2 : w14.cell? ⟨gb678, 2, none⟩ = some (.int .i64 a0_2) := (blk_cell BK678.out 2).trans rfl; have hcz16_3 : w14.cell? ⟨gb678, 3, none⟩ = some (.int .u64 a0_3) := (blk_cell BK678.out 3).trans rfl; have hfz16_0 := blk_frozen BK678.out 0; have hfz16_1 := blk_frozen BK678.out 1; have hfz16_2 := blk_frozen BK678.out 2; have hfz16_3 := blk_frozen BK678.out 3) | ((with_reducible refine gate_callee (f := 70) rfl ?_); refine goesL_ (some 15) rfl rfl Try.func70 (by kernel_rfl) rfl #[.agg #[.int .i64 a0_0, .int .i64 a0_1, .int .i64 a0_2, .int .u64 a0_3], .slice A1 l1.length c1] rfl (by (try simp only [List.map_toArray, List.map_cons, List.map_nil]); first | done | rfl | (simp only [List.length_drop, List.length_take]; rfl)) ?_; (with_reducible refine (chunker_Split.calls k a0_0 a0_1 a0_2 a0_3 _ _ l1 t680 t683 _ ?side1 ?side2 A3.out).mono ?_); (case side1 => repeat (first | exact (Kd.C_below HR1.out HB.out) | (with_reducible refine Kd.C_alloc ?_ _) | (with_reducible refine Kd.C_drewN ?_ _) | (with_reducible refine Kd.C_drew ?_))); (case side2 => exact HC1.out); rintro e w17 ⟨v681, rfl, ho0, hb⟩; refine ⟨_, rfl, ?_⟩; have n0_ := Aside0.mk (Kd.S_lower ho0 (below_size (by repeat (first | (with_reducible first | exact HB.out | apply below_alloc | apply pw_below_drewN | apply below_drew1 | refine below_set ?_ GE678.out | refine below_set ?_ GE679.out) | exact HB.out)))); have n1_ := Aside0.mk (blk_below (g := gb678) (o := .cells #[.int .i64 a0_0, .int .i64 a0_1, .int .i64 a0_2, .int .u64 a0_3] 83 (0, 0)) (by (with_reducible repeat (first | refine blk_drewN ?_ _ | refine blk_drew ?_ | refine blk_alloc ?_ _)); exact BK678.out) hb); have n2_ := Aside0.mk (blk_below (g := gb679) (o := .cells #[.int .i64 0, .slice none 0 0] 31 (0, 0)) (by (with_reducible repeat (first | refine blk_drewN ?_ _ | refine blk_drew ?_ | refine blk_alloc ?_ _)); exact BK679.out) hb); have n3_ := Aside0.mk (below_step (by repeat (first | (with_reducible first | exact HB.out | apply below_alloc | apply pw_below_drewN | apply below_drew1 | refine below_set ?_ GE678.out | refine below_set ?_ GE679.out) | exact HB.out)) hb); clear BK678; clear BK679; clear HB; have HO682 := n0_; have BK678 := n1_; have BK679 := n2_; have HB := n3_; clear n0_ n1_ n2_ n3_; (try clear hb); (try clear hb2); (try clear hk); (try clear hi); (try clear ho0); obtain ⟨Ao18, co18, eo18⟩ := Kd.S_slice HO682.out; subst eo18) | ((with_reducible refine gate_dst (N := 9) rfl ?_); refine box_event ?hg (N := 9) ?hd (cs := #[.int .i64 0, .slice none 0 0]) (t := 31) ?hr ?_; (case hd => rfl); (case hg => rfl); (case hr => first | (go_simp; done) | (go_simp; rfl)); intro gb684 hg w19 hbox hb; have n0_ := Aside0.mk (Kd.S_below (by (with_reducible repeat (first | apply Kd.S_alloc | apply Kd.S_drewN | apply Kd.S_drew)); exact HO682.out) hb); have n1_ := Aside0.mk (blk_below (g := gb678) (o := .cells #[.int .i64 a0_0, .int .i64 a0_1, .int .i64 a0_2, .int .u64 a0_3] 83 (0, 0)) (by (with_reducible repeat (first | refine blk_drewN ?_ _ | refine blk_drew ?_ | refine blk_alloc ?_ _)); exact BK678.out) hb); have n2_ := Aside0.mk (blk_below (g := gb679) (o := .cells #[.int .i64 0, .slice none 0 0] 31 (0, 0)) (by (with_reducible repeat (first | refine blk_drewN ?_ _ | refine blk_drew ?_ | refine blk_alloc ?_ _)); exact BK679.out) hb); have n3_ := Aside0.mk (below_step (by repeat (first | (with_reducible first | exact HB.out | apply below_alloc | apply pw_below_drewN | apply below_drew1 | refine below_set ?_ GE678.out | refine below_set ?_ GE679.out) | exact HB.out)) hb); have n4_ := Aside0.mk (hbox); have n5_ := Aside0.mk ((by rw [hg]; exact (below_size (by repeat (first | (with_reducible first | exact HB.out | apply below_alloc | apply pw_below_drewN | apply below_drew1 | refine below_set ?_ GE678.out | refine below_set ?_ GE679.out) | exact HB.out))) : w.heap.size ≤ gb684)); have n6_ := Aside0.mk ((by rw [hg]; exact (below_size (by repeat (first | (with_reducible first | exact HB.out | apply below_alloc | apply pw_below_drewN | apply below_drew1 | refine below_set ?_ GE678.out | refine below_set ?_ GE679.out) | exact HB.out))) : w.heap.size ≤ gb684)); have n7_ := Aside0.mk ((by rw [hg]; exact Nat.ne_of_lt (blk_lt (g := gb678) (o := .cells #[.int .i64 a0_0, .int .i64 a0_1, .int .i64 a0_2, .int .u64 a0_3] 83 (0, 0)) (by (with_reducible repeat (first | refine blk_drewN ?_ _ | refine blk_drew ?_ | refine blk_alloc ?_ _)); exact BK678.out)) : gb678 ≠ gb684)); have n8_ := Aside0.mk ((by rw [hg]; exact Nat.ne_of_gt (blk_lt (g := gb678) (o := .cells #[.int .i64 a0_0, .int .i64 a0_1, .int .i64 a0_2, .int .u64 a0_3] 83 (0, 0)) (by (with_reducible repeat (first | refine blk_drewN ?_ _ | refine blk_drew ?_ | refine blk_alloc ?_ _)); exact BK678.out)) : gb684 ≠ gb678)); have n9_ := Aside0.mk ((by rw [hg]; exact Nat.ne_of_lt (blk_lt (g := gb679) (o := .cells #[.int .i64 0, .slice none 0 0] 31 (0, 0)) (by (with_reducible repeat (first | refine blk_drewN ?_ _ | refine blk_drew ?_ | refine blk_alloc ?_ _)); exact BK679.out)) : gb679 ≠ gb684)); have n10_ := Aside0.mk ((by rw [hg]; exact Nat.ne_of_gt (blk_lt (g := gb679) (o := .cells #[.int .i64 0, .slice none 0 0] 31 (0, 0)) (by (with_reducible repeat (first | refine blk_drewN ?_ _ | refine blk_drew ?_ | refine blk_alloc ?_ _)); exact BK679.out)) : gb684 ≠ gb679)); clear HO682; clear BK678; clear BK679; clear HB; have HO682 := n0_; have BK678 := n1_; have BK679 := n2_; have HB := n3_; have BK684 := n4_; have GW684 := n5_; have GE684 := n6_; have NB678_684 := n7_; have NB684_678 := n8_; have NB679_684 := n9_; have NB684_679 := n10_; clear n0_ n1_ n2_ n3_ n4_ n5_ n6_ n7_ n8_ n9_ n10_; clear hb hbox hg; have hnb20 := NB684_678.out; have hnc20 := NB678_684.out; have hnb21 := NB684_679.out; have hnc21 := NB679_684.out; have hcz22_0 : w19.cell? ⟨gb684, 0, none⟩ = some (.int .i64 0) := (blk_cell BK684.out 0).trans rfl; have hcz22_1 : w19.cell? ⟨gb684, 1, none⟩ = some (.slice none 0 0) := (blk_cell BK684.out 1).trans rfl; have hfz22_0 := blk_frozen BK684.out 0; have hfz22_1 := blk_frozen BK684.out 1))
      go_loopg [31] k (fun kq v31 w' => ∃ (x31_1 : Int) (x685001_1 : List (S51)) (u685001 : Value), v31 = .int .i64 x31_1 ∧ Aside0 (manifest_Build.l0 kq t680 t680 (t680.length : Int) x31_1 (l1.length : Int) x685001_1 = some (r1, r2, r3, r4)) ∧ Aside0 (kq ≤ k) ∧ Aside0 (Kd.S (Kd.slice 5 (Kd.int .u8)) 34 w' w.heap.size (fun _ => True) (.slice Ao18 t680.length co18) t680) ∧ Aside0 (Kd.S (Kd.slice 5 (Kd.int .u8)) 34 w' w.heap.size (fun _ => True) (.slice Ao18 t680.length co18) t680) ∧ Aside0 (Kd.R k51 51 w' w.heap.size (fun _ => True) u685001 x685001_1) ∧ Aside0 (w'.heap[gb678]? = some (.cells #[.int .i64 a0_0, .int .i64 a0_1, .int .i64 a0_2, .int .u64 a0_3] 83 (0, 0))) ∧ Aside0 (w'.heap[gb679]? = some (.cells #[.int .i64 0, (.slice none 0 0)] 31 (0, 0))) ∧ Aside0 (w'.heap[gb684]? = some (.cells #[.int .i64 (l1.length : Int), u685001] 31 (0, 0))) ∧ Aside0 (Below w.heap.size w w'))
      case atStart => exact ⟨(0), (([] : List (S51))), (.slice none 0 0), (by first | rfl | (simp; done) | (simp [*]; done)), H', ⟨Nat.le_refl _⟩, ⟨by (with_reducible repeat (first | apply Kd.S_alloc | apply Kd.S_drewN | apply Kd.S_drew)); exact Kd.S_mono (Kd.S_far (p := ⟨gb684, 1, none⟩) (Kd.S_far (p := ⟨gb684, 0, none⟩) (Kd.S_types HO682.out BK684.out (by decide)) (fun _ hk => hk.2) (.int .i64 (l1.length : Int))) (fun _ hk => hk.2) (.slice none 0 0)) (fun _ hk => trivial)⟩, ⟨by (with_reducible repeat (first | apply Kd.S_alloc | apply Kd.S_drewN | apply Kd.S_drew)); exact Kd.S_mono (Kd.S_far (p := ⟨gb684, 1, none⟩) (Kd.S_far (p := ⟨gb684, 0, none⟩) (Kd.S_types HO682.out BK684.out (by decide)) (fun _ hk => hk.2) (.int .i64 (l1.length : Int))) (fun _ hk => hk.2) (.slice none 0 0)) (fun _ hk => trivial)⟩, ⟨by first | exact Kd.R_nil _ _ _ _ _ | exact Kd.N_nil _ _ _ _ _ | exact Kd.V_nil _ _ _ _ _ | exact Kd.Q_nil _ _ _ _ _ | exact Kd.S_nil _ _ _ _ _⟩, ⟨by (with_reducible repeat (first | refine blk_drewN ?_ _ | refine blk_drew ?_ | refine blk_alloc ?_ _)); refine blk_far ?_ NB678_684.out _; (with_reducible repeat (first | refine blk_drewN ?_ _ | refine blk_drew ?_ | refine blk_alloc ?_ _)); refine blk_far ?_ NB678_684.out _; (with_reducible repeat (first | refine blk_drewN ?_ _ | refine blk_drew ?_ | refine blk_alloc ?_ _)); exact BK678.out⟩, ⟨by (with_reducible repeat (first | refine blk_drewN ?_ _ | refine blk_drew ?_ | refine blk_alloc ?_ _)); refine blk_far ?_ NB679_684.out _; (with_reducible repeat (first | refine blk_drewN ?_ _ | refine blk_drew ?_ | refine blk_alloc ?_ _)); refine blk_far ?_ NB679_684.out _; (with_reducible repeat (first | refine blk_drewN ?_ _ | refine blk_drew ?_ | refine blk_alloc ?_ _)); exact BK679.out⟩, ⟨by (with_reducible repeat (first | refine blk_drewN ?_ _ | refine blk_drew ?_ | refine blk_alloc ?_ _)); refine blk_put (cs := #[.int .i64 (l1.length : Int), .slice none 0 0]) ?_ 1 _ rfl; (with_reducible repeat (first | refine blk_drewN ?_ _ | refine blk_drew ?_ | refine blk_alloc ?_ _)); refine blk_put (cs := #[.int .i64 0, .slice none 0 0]) ?_ 0 _ rfl; (with_reducible repeat (first | refine blk_drewN ?_ _ | refine blk_drew ?_ | refine blk_alloc ?_ _)); exact BK684.out⟩, ⟨by repeat (first | (with_reducible first | exact HB.out | apply below_alloc | apply pw_below_drewN | apply below_drew1 | refine below_set ?_ GE678.out | refine below_set ?_ GE679.out | refine below_set ?_ GE684.out) | exact HB.out)⟩⟩
      case round =>
        clear H'
        try clear c1
        try clear c2
        try clear p2
        try clear c4
        try clear c4b0
        try clear c4b1
        try clear c5
        try clear c5b0
        try clear c5b1
        try clear c7
        try clear c8
        try clear c15
        try clear c20
        try clear c21
        try clear hcz12_0
        try clear hcz12_1
        try clear hcz16_0
        try clear hcz16_1
        try clear hcz16_2
        try clear hcz16_3
        try clear hcz22_0
        try clear hcz22_1
        try clear hcz9_0
        try clear hcz9_1
        try clear hcz9_2
        try clear hcz9_3
        try clear hfz12_0
        try clear hfz12_1
        try clear hfz16_0
        try clear hfz16_1
        try clear hfz16_2
        try clear hfz16_3
        try clear hfz22_0
        try clear hfz22_1
        try clear hfz9_0
        try clear hfz9_1
        try clear hfz9_2
        try clear hfz9_3
        obtain ⟨x31_1, x685001_1, u685001, rfl, HA, HK1, HO_7, HO_29, HO_685001, BK678, BK679, BK684, HB⟩ := hrel
        cases gk with
        | zero => exact absurd HA.out (by simp [manifest_Build.l0])
        | succ k1 =>
          have H := HA.out
          clear HA
          simp only [manifest_Build.l0] at H
          by_cases c23 : x31_1 < (t680.length : Int)
          · rw [if_pos c23] at H
            have c23b0 : decide (x31_1 < (t680.length : Int)) = true := decide_eq_true c23
            clear c23
            by_cases c24 : 0 ≤ x31_1
            · rw [if_pos c24] at H
              have c24b0 : decide (0 ≤ x31_1) = true := decide_eq_true c24
              clear c24
              by_cases c25 : x31_1 < (t680.length : Int)
              · rw [if_pos c25] at H
                have c25b0 : decide (x31_1 < (t680.length : Int)) = true := decide_eq_true c25
                clear c25
                replace H := Option.bind_eq_some_iff.mp H
                obtain ⟨⟨t686, t687⟩, A260, H⟩ := H
                replace H : (if x685001_1.length < 8796093022208 then (manifest_Build.l0 k1 t680 t680 (t680.length : Int) (wrap64 (x31_1 + 1)) (l1.length : Int) (x685001_1 ++ [(⟨t686, t687⟩ : S51)])) else (none)) = some (r1, r2, r3, r4) := H
                have A26 := Aside0.mk A260
                clear A260
                by_cases c27 : x685001_1.length < 8796093022208
                · rw [if_pos c27] at H
                  have LMc27 := Aside0.mk c27
                  clear c27
                  obtain ⟨y688, hy688⟩ : ∃ y_ : List (S51), y_ = (x685001_1 ++ [(⟨t686, t687⟩ : S51)]) := ⟨_, rfl⟩
                  replace H : (manifest_Build.l0 k1 t680 t680 (t680.length : Int) (wrap64 (x31_1 + 1)) (l1.length : Int) y688) = some (r1, r2, r3, r4) := by first | (rw [hy688]; with_reducible exact H) | (have H2_ := (Option.bind_some _ _).symm.trans H; rw [hy688]; with_reducible exact H2_) | (have H2_ := (Option.bind_some _ _).symm.trans H; with_reducible exact H2_) | with_reducible exact H | (rw [hy688]; exact H) | exact H
                  have Ny688 := Aside0.mk hy688
                  clear hy688
                  have H' := Aside0.mk H
                  clear H
                  have p685 : 0 ≤ (x31_1 : Int) := of_decide_eq_true (by first | (with_reducible assumption) | assumption)
                  have q685 : x31_1 < (t680.length : Int) := of_decide_eq_true (by first | (with_reducible assumption) | assumption)
                  obtain ⟨ad685, A685_0, c685_0, e685, hx685_0, hl685_0, hi685_0⟩ := at_L2 (Kd.S_reads' HO_29.out).2.2 x31_1 p685 q685
                  cases e685
                  obtain ⟨ce685, hce685, hMe685, hcc685⟩ := Kd.S_get HO_29.out [] x31_1 p685 (by first | exact q685 | exact of_decide_eq_true (by first | (with_reducible assumption) | assumption) | (have e_ := (Kd.S_reads' HO_29.out).1; omega))
                  obtain ⟨ve685_0, rfl, ge685_0⟩ := hMe685
                  have hv685_0 := hcc685 0 _ rfl
                  rw [Nat.add_zero, show ((Kd.slice 5 (Kd.int .u8))).sz = 1 from rfl, Nat.mul_one] at hv685_0
                  replace hv685_0 := Option.some.inj (hv685_0.symm.trans hx685_0)
                  rw [hv685_0] at ge685_0
                  have HL685_0 := Aside0.mk (show Kd.R (Kd.int .u8) 5 _ _ _ _ (rd_L2 t680 x31_1) from ge685_0)
                  clear hv685_0 ge685_0
                  clear hcc685 hce685
                  have HR685_0 := Aside0.mk hi685_0
                  have HC685_0 := Aside0.mk hl685_0
                  clear hi685_0 hl685_0
                  replace p685 := eq_true p685
                  replace q685 := eq_true q685
                  try go_wp2
                  have n0_ := Aside0.mk (Kd.S_drew HO_7.out)
                  have n1_ := Aside0.mk (Kd.S_drew HO_29.out)
                  have n2_ := Aside0.mk (Kd.R_drew HO_685001.out)
                  have n3_ := Aside0.mk (Kd.R_drew HL685_0.out)
                  have n4_ := Aside0.mk (blk_drew BK678.out)
                  have n5_ := Aside0.mk (blk_drew BK679.out)
                  have n6_ := Aside0.mk (blk_drew BK684.out)
                  have n7_ := Aside0.mk (Kd.C_drew HR685_0.out)
                  have n8_ := Aside0.mk (below_drew1 HB.out)
                  clear HO_7
                  clear HO_29
                  clear HO_685001
                  clear HL685_0
                  clear BK678
                  clear BK679
                  clear BK684
                  clear HR685_0
                  clear HB
                  have HO_7 := n0_
                  have HO_29 := n1_
                  have HO_685001 := n2_
                  have HL685_0 := n3_
                  have BK678 := n4_
                  have BK679 := n5_
                  have BK684 := n6_
                  have HR685_0 := n7_
                  have HB := n8_
                  clear n0_ n1_ n2_ n3_ n4_ n5_ n6_ n7_ n8_
                  refine start_ (n := 8) (S := fun w' => w'.cell? ⟨gb684, 0, none⟩ = some (.int .i64 (l1.length : Int)) ∧ w'.cell? ⟨gb684, 1, none⟩ = some (u685001)) (ds := [7]) #[false, false, false, false, false, false, false, false] (by kernel_rfl) rfl rfl ⟨(blk_cell BK684.out 0).trans rfl, (blk_cell BK684.out 1).trans rfl⟩ (fun hHeld => ?_); refine with_tabW manifest_Build.tab10 manifest_Build.bits10 (fun HT_ HW_ => ?_)
                  generalize wr.drew = w28 at HO_7 HO_29 HO_685001 HL685_0 BK678 BK679 BK684 HR685_0 HB hHeld ⊢
                  refine pure_ (i := 0) (N := some 35) (v := ?_) (a' := ?_) #[true, false, false, false, false, false, false, false] rfl rfl (any_of HT_.out (by kernel_rfl)) (fun _ _ _ h => h) (Or.inl ⟨by rfl, ?_⟩) ?_ ?_
                  rotate_left
                  · intro w'
                    go_simp
                    with_reducible rfl
                  rotate_left
                  · simp only [Act.put, List.setIfInBounds_toArray, List.set_cons_zero, List.set_cons_succ, i64_w, i32_w]
                    rfl
                  refine pure_ (i := 2) (N := some 37) (v := ?_) (a' := ?_) #[true, false, true, false, false, false, false, false] rfl rfl (any_of HT_.out (by kernel_rfl)) (fun _ _ _ h => h) (Or.inl ⟨by rfl, ?_⟩) ?_ ?_
                  rotate_left
                  · intro w'
                    go_simp
                    with_reducible rfl
                  rotate_left
                  · simp only [Act.put, List.setIfInBounds_toArray, List.set_cons_zero, List.set_cons_succ, i64_w, i32_w]
                    rfl
                  refine take_ (i := 1) (N := some 36) (v := ?_) (a' := ?_) #[true, true, true, false, false, false, false, false] rfl rfl (take_ofW HT_.out HW_.out (by kernel_rfl)) (fun _ _ _ h => h) (Or.inl ⟨by rfl, ?_⟩) hHeld ?_ ?_
                  rotate_left
                  · rintro w' ⟨s0, s1⟩
                    go_simp
                    with_reducible rfl
                  rotate_left
                  · simp only [Act.put, List.setIfInBounds_toArray, List.set_cons_zero, List.set_cons_succ, i64_w, i32_w]
                    rfl
                  refine one_ (i := 3) (N := some 38) #[true, true, true, true, false, false, false, false] rfl rfl (one_of HT_.out (by kernel_rfl)) (by decide) (fun K hK => ?_)
                  refine goes_ Try.func42 (by kernel_rfl) rfl #[.slice A685_0 (rd_L2 t680 x31_1).length c685_0] (by rfl) rfl rfl (by (try simp only [List.map_toArray, List.map_cons, List.map_nil]); first | done | rfl | (simp only [List.length_drop, List.length_take]; rfl)) ?_
                  with_reducible refine (fingerprint_Of.calls k1 _ _ (rd_L2 t680 x31_1) t686 t687 _ ?side1 ?side2 A26.out).mono ?_
                  (case side1 => repeat (first | exact (by repeat (first | (with_reducible exact HR685_0.out) | (with_reducible refine Kd.C_alloc ?_ _) | (with_reducible refine Kd.C_drewN ?_ _) | (with_reducible refine Kd.C_drew ?_) | exact HR685_0.out)) | (with_reducible refine Kd.C_alloc ?_ _) | (with_reducible refine Kd.C_drewN ?_ _) | (with_reducible refine Kd.C_drew ?_)))
                  (case side2 => exact HC685_0.out)
                  rintro e w29 ⟨rfl, hb⟩
                  refine ⟨_, rfl, ?_⟩
                  have n0_ := Aside0.mk (Kd.S_below (by (with_reducible repeat (first | apply Kd.S_alloc | apply Kd.S_drewN | apply Kd.S_drew)); exact HO_7.out) hb)
                  have n1_ := Aside0.mk (Kd.S_below (by (with_reducible repeat (first | apply Kd.S_alloc | apply Kd.S_drewN | apply Kd.S_drew)); exact HO_29.out) hb)
                  have n2_ := Aside0.mk (Kd.R_below (by (with_reducible repeat (first | apply Kd.R_alloc | apply Kd.R_drewN | apply Kd.R_drew)); exact HO_685001.out) hb)
                  have n3_ := Aside0.mk (Kd.R_below (by (with_reducible repeat (first | apply Kd.R_alloc | apply Kd.R_drewN | apply Kd.R_drew)); exact HL685_0.out) hb)
                  have n4_ := Aside0.mk (blk_below (g := gb678) (o := .cells #[.int .i64 a0_0, .int .i64 a0_1, .int .i64 a0_2, .int .u64 a0_3] 83 (0, 0)) (by (with_reducible repeat (first | refine blk_drewN ?_ _ | refine blk_drew ?_ | refine blk_alloc ?_ _)); exact BK678.out) hb)
                  have n5_ := Aside0.mk (blk_below (g := gb679) (o := .cells #[.int .i64 0, .slice none 0 0] 31 (0, 0)) (by (with_reducible repeat (first | refine blk_drewN ?_ _ | refine blk_drew ?_ | refine blk_alloc ?_ _)); exact BK679.out) hb)
                  have n6_ := Aside0.mk (blk_below (g := gb684) (o := .cells #[.int .i64 (l1.length : Int), u685001] 31 (0, 0)) (by (with_reducible repeat (first | refine blk_drewN ?_ _ | refine blk_drew ?_ | refine blk_alloc ?_ _)); exact BK684.out) hb)
                  have n7_ := Aside0.mk (Kd.C_below (by repeat (first | (with_reducible exact HR685_0.out) | (with_reducible refine Kd.C_alloc ?_ _) | (with_reducible refine Kd.C_drewN ?_ _) | (with_reducible refine Kd.C_drew ?_) | exact HR685_0.out)) hb)
                  have n8_ := Aside0.mk (below_step (by repeat (first | (with_reducible first | exact HB.out | apply below_alloc | apply pw_below_drewN | apply below_drew1 | refine below_set ?_ GE678.out | refine below_set ?_ GE679.out | refine below_set ?_ GE684.out) | exact HB.out)) hb)
                  clear HO_7
                  clear HO_29
                  clear HO_685001
                  clear HL685_0
                  clear BK678
                  clear BK679
                  clear BK684
                  clear HR685_0
                  clear HB
                  have HO_7 := n0_
                  have HO_29 := n1_
                  have HO_685001 := n2_
                  have HL685_0 := n3_
                  have BK678 := n4_
                  have BK679 := n5_
                  have BK684 := n6_
                  have HR685_0 := n7_
                  have HB := n8_
                  clear n0_ n1_ n2_ n3_ n4_ n5_ n6_ n7_ n8_
                  (try clear hb)
                  (try clear hb2)
                  (try clear hk)
                  (try clear hi)
                  refine hK.out _ _ ⟨(blk_cell BK684.out 0).trans rfl, (blk_cell BK684.out 1).trans rfl⟩ (fun hHeld => ?_)
                  clear hK K
                  refine norm_ (a' := ?_) ?_ ?_
                  rotate_left
                  · show Act.put _ (some 38) _ = _
                    simp only [Act.put, List.setIfInBounds_toArray, List.set_cons_zero, List.set_cons_succ, i64_w, i32_w]
                    rfl
                  refine one_ (i := 4) (N := some 39) #[true, true, true, true, true, false, false, false] rfl rfl (one_of HT_.out (by kernel_rfl)) (by decide) (fun K hK => ?_)
                  refine value_ (w1 := ?_) (v := ?_) (by rfl) rfl ?_ ?_
                  rotate_left 2
                  · go_simp
                    constructor
                    · rfl
                    · rfl
                  refine hK.out _ _ ⟨(blk_cell (blk_alloc BK684.out _) 0).trans rfl, (blk_cell (blk_alloc BK684.out _) 1).trans rfl⟩ (fun hHeld => ?_)
                  clear hK K
                  refine norm_ (a' := ?_) ?_ ?_
                  rotate_left
                  · show Act.put _ (some 39) _ = _
                    simp only [Act.put, List.setIfInBounds_toArray, List.set_cons_zero, List.set_cons_succ, i64_w, i32_w]
                    rfl
                  refine one_ (i := 5) (N := some 40) #[true, true, true, true, true, true, false, false] rfl rfl (one_of HT_.out (by kernel_rfl)) (by decide) (fun K hK => ?_)
                  refine Kd.R_append_step k51 (w0 := w) w.heap.size (by rfl) (.tmp 36) (.tmp 39) 29 51 (.agg #[(.int .u64 0), (.int .i64 0)]) 16 rfl Try.underlying29 info51 rfl (by decide) (by omega) u685001 x685001_1 (⟨t686, t687⟩ : S51) [.int .u64 t686, .int .i64 t687] (fun _ => True) (fun _ => False) rfl rfl ?aP (fun _ hk => hk.elim) ?aF ?aO ?aB ?aS ?aL ?_
                  (case aP => exact k51_mkM _ _ _ (⟨t686, t687⟩ : S51))
                  (case aB => exact (by repeat (first | (with_reducible first | exact HB.out | apply below_alloc | apply pw_below_drewN | apply below_drew1 | refine below_set ?_ GE678.out | refine below_set ?_ GE679.out | refine below_set ?_ GE684.out) | exact HB.out)))
                  (case aF => exact (fun _ _ => trivial))
                  (case aO => exact (by (with_reducible repeat (first | apply Kd.R_alloc | apply Kd.R_drewN | apply Kd.R_drew)); exact HO_685001.out))
                  (case aS => exact (below_size (by repeat (first | (with_reducible first | exact HB.out | apply below_alloc | apply pw_below_drewN | apply below_drew1 | refine below_set ?_ GE678.out | refine below_set ?_ GE679.out | refine below_set ?_ GE684.out) | exact HB.out))))
                  (case aL => have := LMc27.out; omega)
                  intro v689 w30 ho hb hg hat
                  rw [← Ny688.out] at ho
                  have n0_ := Aside0.mk (Kd.S_over' (by (with_reducible repeat (first | apply Kd.S_alloc | apply Kd.S_drewN | apply Kd.S_drew)); exact HO_7.out) (Kd.R_typed (by (with_reducible repeat (first | apply Kd.R_alloc | apply Kd.R_drewN | apply Kd.R_drew)); exact HO_685001.out)) (by decide) hg)
                  have n1_ := Aside0.mk (Kd.S_over' (by (with_reducible repeat (first | apply Kd.S_alloc | apply Kd.S_drewN | apply Kd.S_drew)); exact HO_29.out) (Kd.R_typed (by (with_reducible repeat (first | apply Kd.R_alloc | apply Kd.R_drewN | apply Kd.R_drew)); exact HO_685001.out)) (by decide) hg)
                  have n2_ := Aside0.mk (blk_grown (g := gb678) (o := .cells #[.int .i64 a0_0, .int .i64 a0_1, .int .i64 a0_2, .int .u64 a0_3] 83 (0, 0)) (by (with_reducible repeat (first | refine blk_drewN ?_ _ | refine blk_drew ?_ | refine blk_alloc ?_ _)); exact BK678.out) hg (Kd.R_ne HO_685001.out BK678.out (by decide)))
                  have n3_ := Aside0.mk (blk_grown (g := gb679) (o := .cells #[.int .i64 0, .slice none 0 0] 31 (0, 0)) (by (with_reducible repeat (first | refine blk_drewN ?_ _ | refine blk_drew ?_ | refine blk_alloc ?_ _)); exact BK679.out) hg (Kd.R_ne HO_685001.out BK679.out (by decide)))
                  have n4_ := Aside0.mk (blk_grown (g := gb684) (o := .cells #[.int .i64 (l1.length : Int), u685001] 31 (0, 0)) (by (with_reducible repeat (first | refine blk_drewN ?_ _ | refine blk_drew ?_ | refine blk_alloc ?_ _)); exact BK684.out) hg (Kd.R_ne HO_685001.out BK684.out (by decide)))
                  have n5_ := Aside0.mk (Kd.R_over' (by (with_reducible repeat (first | apply Kd.R_alloc | apply Kd.R_drewN | apply Kd.R_drew)); exact HL685_0.out) (Kd.R_typed (by (with_reducible repeat (first | apply Kd.R_alloc | apply Kd.R_drewN | apply Kd.R_drew)); exact HO_685001.out)) (by decide) hg)
                  have n6_ := Aside0.mk (hb)
                  have n7_ := Aside0.mk (ho)
                  clear HO_7
                  clear HO_29
                  clear BK678
                  clear BK679
                  clear BK684
                  clear HL685_0
                  clear HB
                  clear HO_685001
                  have HO_7 := n0_
                  have HO_29 := n1_
                  have BK678 := n2_
                  have BK679 := n3_
                  have BK684 := n4_
                  have HL685_0 := n5_
                  have HB := n6_
                  have HO690 := n7_
                  clear n0_ n1_ n2_ n3_ n4_ n5_ n6_ n7_
                  clear ho hb hg hat
                  obtain ⟨Ao31, co31, eo31⟩ := Kd.R_slice HO690.out
                  (first | subst eo31 | (injection eo31 with f1_ f2_ f3_; have f4_ := f1_.symm; have f5_ := f3_.symm; clear f1_ f2_ f3_; subst f4_; subst f5_))
                  refine hK.out _ _ ⟨(blk_cell BK684.out 0).trans rfl, (blk_cell BK684.out 1).trans rfl⟩ (fun hHeld => ?_)
                  clear hK K
                  refine norm_ (a' := ?_) ?_ ?_
                  rotate_left
                  · show Act.put _ (some 40) _ = _
                    simp only [Act.put, List.setIfInBounds_toArray, List.set_cons_zero, List.set_cons_succ, i64_w, i32_w]
                    rfl
                  refine pure_ (i := 6) (N := some 41) (v := ?_) (a' := ?_) #[true, true, true, true, true, true, true, false] rfl rfl (any_of HT_.out (by kernel_rfl)) (fun _ _ _ h => h) (Or.inl ⟨by rfl, ?_⟩) ?_ ?_
                  rotate_left
                  · intro w'
                    go_simp
                    with_reducible rfl
                  rotate_left
                  · simp only [Act.put, List.setIfInBounds_toArray, List.set_cons_zero, List.set_cons_succ, i64_w, i32_w]
                    rfl
                  refine last_ (i := 7) (N := none) #[true, true, true, true, true, true, true, true] rfl rfl (one_of HT_.out (by kernel_rfl)) (by decide) (fun K hK => ?_)
                  have hs32 : w30.cell? ⟨gb684, 1, none⟩ = some (u685001) := (blk_cell BK684.out 1).trans rfl
                  have hfs32 := blk_frozen BK684.out 1
                  have hns32_0 := NB678_684.out
                  have hns32_1 := NB679_684.out
                  have hms32_0 := NB684_678.out
                  have hms32_1 := NB684_679.out
                  refine skip_ (w1 := ?_) (by rfl) rfl ?_ ?_
                  rotate_left
                  · go_simp
                    rfl
                  refine hK.out _ _ ?_
                  clear hK K
                  refine done_ (done_of HT_.out (by kernel_rfl)) ?_
                  try go_wp2
                  go_roundg k1
                  case measure => have := HK1.out; omega
                  case rel => exact ⟨(wrap64 (x31_1 + 1)), (y688), (.slice Ao31 y688.length co31), (by first | rfl | (simp; done) | (simp [*]; done)), H', ⟨by have := HK1.out; omega⟩, ⟨by (with_reducible repeat (first | apply Kd.S_alloc | apply Kd.S_drewN | apply Kd.S_drew)); exact Kd.S_mono (Kd.S_far (p := ⟨gb684, 1, none⟩) (Kd.S_types HO_7.out BK684.out (by decide)) (fun _ hk => hk.2) (.slice Ao31 y688.length co31)) (fun _ hk => trivial)⟩, ⟨by (with_reducible repeat (first | apply Kd.S_alloc | apply Kd.S_drewN | apply Kd.S_drew)); exact Kd.S_mono (Kd.S_far (p := ⟨gb684, 1, none⟩) (Kd.S_types HO_29.out BK684.out (by decide)) (fun _ hk => hk.2) (.slice Ao31 y688.length co31)) (fun _ hk => trivial)⟩, ⟨by (with_reducible repeat (first | apply Kd.R_alloc | apply Kd.R_drewN | apply Kd.R_drew)); exact Kd.R_mono (Kd.R_far (p := ⟨gb684, 1, none⟩) (Kd.R_types HO690.out BK684.out (by decide)) (fun _ hk => hk.2) (.slice Ao31 y688.length co31)) (fun _ hk => trivial)⟩, ⟨by (with_reducible repeat (first | refine blk_drewN ?_ _ | refine blk_drew ?_ | refine blk_alloc ?_ _)); refine blk_far ?_ NB678_684.out _; (with_reducible repeat (first | refine blk_drewN ?_ _ | refine blk_drew ?_ | refine blk_alloc ?_ _)); exact BK678.out⟩, ⟨by (with_reducible repeat (first | refine blk_drewN ?_ _ | refine blk_drew ?_ | refine blk_alloc ?_ _)); refine blk_far ?_ NB679_684.out _; (with_reducible repeat (first | refine blk_drewN ?_ _ | refine blk_drew ?_ | refine blk_alloc ?_ _)); exact BK679.out⟩, ⟨by (with_reducible repeat (first | refine blk_drewN ?_ _ | refine blk_drew ?_ | refine blk_alloc ?_ _)); refine blk_put (cs := #[.int .i64 (l1.length : Int), u685001]) ?_ 1 _ rfl; (with_reducible repeat (first | refine blk_drewN ?_ _ | refine blk_drew ?_ | refine blk_alloc ?_ _)); exact BK684.out⟩, ⟨by repeat (first | (with_reducible first | exact HB.out | apply below_alloc | apply pw_below_drewN | apply below_drew1 | refine below_set ?_ GE678.out | refine below_set ?_ GE679.out | refine below_set ?_ GE684.out) | exact HB.out)⟩⟩
                · rw [if_neg c27] at H
                  exact absurd H (by simp)
              · rw [if_neg c25] at H
                exact absurd H (by simp)
            · rw [if_neg c24] at H
              exact absurd H (by simp)
          · rw [if_neg c23] at H
            have c23b0 : decide (x31_1 < (t680.length : Int)) = false := decide_eq_false c23
            clear c23
            simp only [Option.some.injEq, Prod.mk.injEq] at H
            obtain ⟨rfl, rfl, rfl, rfl⟩ := H
            have hnb33 := NB684_678.out
            have hnc33 := NB678_684.out
            have hnb34 := NB684_679.out
            have hnc34 := NB679_684.out
            have hcz35_0 : wr.cell? ⟨gb684, 0, none⟩ = some (.int .i64 (l1.length : Int)) := (blk_cell BK684.out 0).trans rfl
            have hcz35_1 : wr.cell? ⟨gb684, 1, none⟩ = some (u685001) := (blk_cell BK684.out 1).trans rfl
            have hfz35_0 := blk_frozen BK684.out 0
            have hfz35_1 := blk_frozen BK684.out 1
            have hnb36 := NB679_678.out
            have hnc36 := NB678_679.out
            have hcz37_0 : wr.cell? ⟨gb679, 0, none⟩ = some (.int .i64 0) := (blk_cell BK679.out 0).trans rfl
            have hcz37_1 : wr.cell? ⟨gb679, 1, none⟩ = some (.slice none 0 0) := (blk_cell BK679.out 1).trans rfl
            have hfz37_0 := blk_frozen BK679.out 0
            have hfz37_1 := blk_frozen BK679.out 1
            obtain ⟨Ao38, co38, eo38⟩ := Kd.R_slice HO_685001.out
            subst eo38
            go_wp2
            refine bodyPost_ret (results_ctt rfl _ _ gb679 31 #[.int .i64 (l1.length : Int), .slice Ao38 x685001_1.length co38] (0, 0) _ rfl (by (with_reducible repeat (first | refine blk_drewN ?_ _ | refine blk_drew ?_ | refine blk_alloc ?_ _)); refine blk_put (cs := #[.int .i64 (l1.length : Int), .slice none 0 0]) ?_ 1 _ rfl; (with_reducible repeat (first | refine blk_drewN ?_ _ | refine blk_drew ?_ | refine blk_alloc ?_ _)); refine blk_put (cs := #[.int .i64 0, .slice none 0 0]) ?_ 0 _ rfl; (with_reducible repeat (first | refine blk_drewN ?_ _ | refine blk_drew ?_ | refine blk_alloc ?_ _)); exact BK679.out) Try.underlying31 rfl (by kernel_rfl)) rfl ?_
            exact ⟨_, _, by first | rfl | (simp [errW_none, errW_some] <;> rfl) | (simp [*, errW_none, errW_some] <;> rfl), by (with_reducible repeat (first | apply Kd.R_alloc | apply Kd.R_drewN | apply Kd.R_drew)); exact Kd.R_mono (Kd.R_far (p := ⟨gb679, 1, none⟩) (Kd.R_far (p := ⟨gb679, 0, none⟩) (Kd.R_types HO_685001.out BK679.out (by decide)) (fun _ hk => hk.2) (.int .i64 (l1.length : Int))) (fun _ hk => hk.2) (.slice Ao38 x685001_1.length co38)) (fun _ hk => trivial), by (with_reducible repeat (first | apply Kd.S_alloc | apply Kd.S_drewN | apply Kd.S_drew)); exact Kd.S_mono (Kd.S_far (p := ⟨gb679, 1, none⟩) (Kd.S_far (p := ⟨gb679, 0, none⟩) (Kd.S_types HO_7.out BK679.out (by decide)) (fun _ hk => hk.2) (.int .i64 (l1.length : Int))) (fun _ hk => hk.2) (.slice Ao38 x685001_1.length co38)) (fun _ hk => trivial), by repeat (first | (with_reducible first | exact HB.out | apply below_alloc | apply pw_below_drewN | apply below_drew1 | refine below_set ?_ GE678.out | refine below_set ?_ GE679.out | refine below_set ?_ GE684.out) | exact HB.out)⟩
  · rw [if_neg c4] at H
    have c4b0 : (t683 == 0) = false := beq_eq_false_iff_ne.mpr c4
    have c4b1 : (t683 != 0) = true := bne_iff_ne.mpr c4
    simp only [Option.some.injEq, Prod.mk.injEq] at H
    obtain ⟨rfl, rfl, rfl, rfl⟩ := H
    go_enter Try.func51, Try.ntmps51
    go_wp2_with (first | ((with_reducible refine gate_dst (N := 2) rfl ?_); refine box_event ?hg (N := 2) ?hd (cs := #[.int .i64 a0_0, .int .i64 a0_1, .int .i64 a0_2, .int .u64 a0_3]) (t := 83) ?hr ?_; (case hd => rfl); (case hg => rfl); (case hr => first | (go_simp; done) | (go_simp; rfl)); intro gb678 hg w39 hbox hb; have n0_ := Aside0.mk (below_step (by repeat (first | (with_reducible first | exact HB.out | apply below_alloc | apply pw_below_drewN | apply below_drew1) | exact HB.out)) hb); have n1_ := Aside0.mk (hbox); have n2_ := Aside0.mk ((by rw [hg]; exact (below_size (by repeat (first | (with_reducible first | exact HB.out | apply below_alloc | apply pw_below_drewN | apply below_drew1) | exact HB.out))) : w.heap.size ≤ gb678)); have n3_ := Aside0.mk ((by rw [hg]; exact (below_size (by repeat (first | (with_reducible first | exact HB.out | apply below_alloc | apply pw_below_drewN | apply below_drew1) | exact HB.out))) : w.heap.size ≤ gb678)); clear HB; have HB := n0_; have BK678 := n1_; have GW678 := n2_; have GE678 := n3_; clear n0_ n1_ n2_ n3_; clear hb hbox hg) | ((with_reducible refine gate_dst (N := 4) rfl ?_); refine box_event ?hg (N := 4) ?hd (cs := #[.int .i64 0, .slice none 0 0]) (t := 31) ?hr ?_; (case hd => rfl); (case hg => rfl); (case hr => first | (go_simp; done) | (go_simp; rfl)); intro gb679 hg w40 hbox hb; have n0_ := Aside0.mk (blk_below (g := gb678) (o := .cells #[.int .i64 a0_0, .int .i64 a0_1, .int .i64 a0_2, .int .u64 a0_3] 83 (0, 0)) (by (with_reducible repeat (first | refine blk_drewN ?_ _ | refine blk_drew ?_ | refine blk_alloc ?_ _)); exact BK678.out) hb); have n1_ := Aside0.mk (below_step (by repeat (first | (with_reducible first | exact HB.out | apply below_alloc | apply pw_below_drewN | apply below_drew1 | refine below_set ?_ GE678.out) | exact HB.out)) hb); have n2_ := Aside0.mk (hbox); have n3_ := Aside0.mk ((by rw [hg]; exact (below_size (by repeat (first | (with_reducible first | exact HB.out | apply below_alloc | apply pw_below_drewN | apply below_drew1 | refine below_set ?_ GE678.out) | exact HB.out))) : w.heap.size ≤ gb679)); have n4_ := Aside0.mk ((by rw [hg]; exact (below_size (by repeat (first | (with_reducible first | exact HB.out | apply below_alloc | apply pw_below_drewN | apply below_drew1 | refine below_set ?_ GE678.out) | exact HB.out))) : w.heap.size ≤ gb679)); have n5_ := Aside0.mk ((by rw [hg]; exact Nat.ne_of_lt (blk_lt (g := gb678) (o := .cells #[.int .i64 a0_0, .int .i64 a0_1, .int .i64 a0_2, .int .u64 a0_3] 83 (0, 0)) (by (with_reducible repeat (first | refine blk_drewN ?_ _ | refine blk_drew ?_ | refine blk_alloc ?_ _)); exact BK678.out)) : gb678 ≠ gb679)); have n6_ := Aside0.mk ((by rw [hg]; exact Nat.ne_of_gt (blk_lt (g := gb678) (o := .cells #[.int .i64 a0_0, .int .i64 a0_1, .int .i64 a0_2, .int .u64 a0_3] 83 (0, 0)) (by (with_reducible repeat (first | refine blk_drewN ?_ _ | refine blk_drew ?_ | refine blk_alloc ?_ _)); exact BK678.out)) : gb679 ≠ gb678)); clear BK678; clear HB; have BK678 := n0_; have HB := n1_; have BK679 := n2_; have GW679 := n3_; have GE679 := n4_; have NB678_679 := n5_; have NB679_678 := n6_; clear n0_ n1_ n2_ n3_ n4_ n5_ n6_; clear hb hbox hg; have hnb41 := NB678_679.out; have hnc41 := NB679_678.out; have hcz42_0 : w40.cell? ⟨gb678, 0, none⟩ = some (.int .i64 a0_0) := (blk_cell BK678.out 0).trans rfl; have hcz42_1 : w40.cell? ⟨gb678, 1, none⟩ = some (.int .i64 a0_1) := (blk_cell BK678.out 1).trans rfl; have hcz42_2 : w40.cell? ⟨gb678, 2, none⟩ = some (.int .i64 a0_2) := (blk_cell BK678.out 2).trans rfl; have hcz42_3 : w40.cell? ⟨gb678, 3, none⟩ = some (.int .u64 a0_3) := (blk_cell BK678.out 3).trans rfl; have hfz42_0 := blk_frozen BK678.out 0; have hfz42_1 := blk_frozen BK678.out 1; have hfz42_2 := blk_frozen BK678.out 2; have hfz42_3 := blk_frozen BK678.out 3) | ((with_reducible refine gate_callee (f := 70) rfl ?_); refine goesL_ (some 15) rfl rfl Try.func70 (by kernel_rfl) rfl #[.agg #[.int .i64 a0_0, .int .i64 a0_1, .int .i64 a0_2, .int .u64 a0_3], .slice A1 l1.length c1] rfl (by (try simp only [List.map_toArray, List.map_cons, List.map_nil]); first | done | rfl | (simp only [List.length_drop, List.length_take]; rfl)) ?_; (with_reducible refine (chunker_Split.calls k a0_0 a0_1 a0_2 a0_3 _ _ l1 t680 t683 _ ?side1 ?side2 A3.out).mono ?_); (case side1 => repeat (first | exact (Kd.C_below HR1.out HB.out) | (with_reducible refine Kd.C_alloc ?_ _) | (with_reducible refine Kd.C_drewN ?_ _) | (with_reducible refine Kd.C_drew ?_))); (case side2 => exact HC1.out); rintro e w43 ⟨v681, rfl, ho0, hb⟩; refine ⟨_, rfl, ?_⟩; have n0_ := Aside0.mk (Kd.S_lower ho0 (below_size (by repeat (first | (with_reducible first | exact HB.out | apply below_alloc | apply pw_below_drewN | apply below_drew1 | refine below_set ?_ GE678.out | refine below_set ?_ GE679.out) | exact HB.out)))); have n1_ := Aside0.mk (blk_below (g := gb678) (o := .cells #[.int .i64 a0_0, .int .i64 a0_1, .int .i64 a0_2, .int .u64 a0_3] 83 (0, 0)) (by (with_reducible repeat (first | refine blk_drewN ?_ _ | refine blk_drew ?_ | refine blk_alloc ?_ _)); exact BK678.out) hb); have n2_ := Aside0.mk (blk_below (g := gb679) (o := .cells #[.int .i64 0, .slice none 0 0] 31 (0, 0)) (by (with_reducible repeat (first | refine blk_drewN ?_ _ | refine blk_drew ?_ | refine blk_alloc ?_ _)); exact BK679.out) hb); have n3_ := Aside0.mk (below_step (by repeat (first | (with_reducible first | exact HB.out | apply below_alloc | apply pw_below_drewN | apply below_drew1 | refine below_set ?_ GE678.out | refine below_set ?_ GE679.out) | exact HB.out)) hb); clear BK678; clear BK679; clear HB; have HO682 := n0_; have BK678 := n1_; have BK679 := n2_; have HB := n3_; clear n0_ n1_ n2_ n3_; (try clear hb); (try clear hb2); (try clear hk); (try clear hi); (try clear ho0); have hcz44_0 : w43.cell? ⟨gb679, 0, none⟩ = some (.int .i64 0) := (blk_cell BK679.out 0).trans rfl; have hcz44_1 : w43.cell? ⟨gb679, 1, none⟩ = some (.slice none 0 0) := (blk_cell BK679.out 1).trans rfl; have hfz44_0 := blk_frozen BK679.out 0; have hfz44_1 := blk_frozen BK679.out 1))
    refine bodyPost_ret (results_ctt rfl _ _ gb679 31 #[.int .i64 0, .slice none 0 0] (0, 0) _ rfl (by (with_reducible repeat (first | refine blk_drewN ?_ _ | refine blk_drew ?_ | refine blk_alloc ?_ _)); refine blk_put (cs := #[.int .i64 0, .slice none 0 0]) ?_ 1 _ rfl; (with_reducible repeat (first | refine blk_drewN ?_ _ | refine blk_drew ?_ | refine blk_alloc ?_ _)); refine blk_put (cs := #[.int .i64 0, .slice none 0 0]) ?_ 0 _ rfl; (with_reducible repeat (first | refine blk_drewN ?_ _ | refine blk_drew ?_ | refine blk_alloc ?_ _)); exact BK679.out) Try.underlying31 rfl (by kernel_rfl)) rfl ?_
    exact ⟨_, _, by first | rfl | (simp [errW_none, errW_some] <;> rfl) | (simp [*, errW_none, errW_some] <;> rfl), by first | exact Kd.R_nil _ _ _ _ _ | exact Kd.N_nil _ _ _ _ _ | exact Kd.V_nil _ _ _ _ _ | exact Kd.Q_nil _ _ _ _ _ | exact Kd.S_nil _ _ _ _ _, by first | exact Kd.S_nil _ _ _ _ _ | exact Kd.N_nil _ _ _ _ _ | exact Kd.V_nil _ _ _ _ _ | exact Kd.Q_nil _ _ _ _ _ | exact Kd.R_nil _ _ _ _ _, by repeat (first | (with_reducible first | exact HB.out | apply below_alloc | apply pw_below_drewN | apply below_drew1 | refine below_set ?_ GE678.out | refine below_set ?_ GE679.out) | exact HB.out)⟩

end Go.Proofs.Ytleapbbdpediiaa.P
