-- Printed by a program (pr.py over the kit's print) out of the translation.
import Derived.Test.YtgfodmpdnhebjaaPx0
import Derived.Test.YtgfodmpdnhebjaaPxf16
import Derived.Test.YtgfodmpdnhebjaaPxf18
import Derived.Test.YtgfodmpdnhebjaaPxf35
namespace Go.Proofs.Ytgfodmpdnhebjaa.P
open Go.RowKit Go.Proofs.YtgfodmpdnhebjaaW.PrintWords Go.Proofs.YtgfodmpdnhebjaaW.PrintLast Go.Proofs.YtgfodmpdnhebjaaW.PrintMore
attribute [local go_sem] max2_int min2_int max_two min_two max_three min_three max_four min_four   -- for this text's walks alone
set_option linter.unusedVariables false
set_option linter.unusedSimpArgs false

/-! ### stockyardlaw24_ChunkerEven: function 10 -/
mutual
def stockyardlaw24_ChunkerEven.l0 : Nat → Int → List Int → List Int → Int → Int → Int → Int → Int → Option (Bool)
  | 0, _, _, _, _, _, _, _, _ => none
  | k + 1, x1, x7, x8, x9, x452000, x452001, x452002, x452003 => if x9 < (x8.length : Int) then (if 0 ≤ x9 then (stockyardlaw24_ChunkerEven.l0 k x1 x7 (x8.set (x9 : Int).toNat x1) (wrap64 (x9 + 1)) x452000 x452001 x452002 x452003) else (none)) else ((chunker_Split.f k x452000 x452001 x452002 0 x7).bind fun bt460 => ((chunker_Split.f k x452000 x452001 x452002 x452003 x8).bind fun bt464 => ((stockyardlaw24_known.f k).bind fun t468 => (if t468 = true then (if bt460.2 = 0 then (stockyardlaw24_ChunkerEven.j1 k bt460.1 bt464.1 (bt464.2 != 0) x452000 x452001 x452002 x452003) else (stockyardlaw24_ChunkerEven.j1 k bt460.1 bt464.1 true x452000 x452001 x452002 x452003)) else (stockyardlaw24_ChunkerEven.j1 k bt460.1 bt464.1 true x452000 x452001 x452002 x452003)))))
def stockyardlaw24_ChunkerEven.j1 : Nat → List (List Int) → List (List Int) → Bool → Int → Int → Int → Int → Option (Bool)
  | 0, _, _, _, _, _, _, _ => none
  | k + 1, x10, x12, x63, x452000, x452001, x452002, x452003 => if x63 = true then (some false) else (stockyardlaw24_ChunkerEven.l1 k x10 x12 0 x452000 x452001 x452002 x452003)
def stockyardlaw24_ChunkerEven.l1 : Nat → List (List Int) → List (List Int) → Int → Int → Int → Int → Int → Option (Bool)
  | 0, _, _, _, _, _, _, _ => none
  | k + 1, x10, x12, x14, x452000, x452001, x452002, x452003 => if (wrap64 (x14 + 1)) < (x10.length : Int) then (if 0 ≤ x14 then (if x14 < (x10.length : Int) then (if ((rd_L4 x10 x14).length : Int) = x452000 then (stockyardlaw24_ChunkerEven.l1 k x10 x12 (wrap64 (x14 + 1)) x452000 x452001 x452002 x452003) else (some false)) else (none)) else (none)) else (stockyardlaw24_ChunkerEven.l2 k x12 0 x452000 x452001 x452002 x452003)
def stockyardlaw24_ChunkerEven.l2 : Nat → List (List Int) → Int → Int → Int → Int → Int → Option (Bool)
  | 0, _, _, _, _, _, _ => none
  | k + 1, x12, x15, x452000, x452001, x452002, x452003 => if (wrap64 (x15 + 1)) < (x12.length : Int) then (if 0 ≤ x15 then (if x15 < (x12.length : Int) then (if 0 < (x12.length : Int) then (if ((rd_L4 x12 x15).length : Int) = ((rd_L4 x12 0).length : Int) then (if ((rd_L4 x12 x15).length : Int) = x452000 then (stockyardlaw24_ChunkerEven.l2 k x12 (wrap64 (x15 + 1)) x452000 x452001 x452002 x452003) else (if ((rd_L4 x12 x15).length : Int) = x452001 then (stockyardlaw24_ChunkerEven.l2 k x12 (wrap64 (x15 + 1)) x452000 x452001 x452002 x452003) else (some false))) else (some false)) else (none)) else (none)) else (none)) else (some true)
end
def stockyardlaw24_ChunkerEven.f (k : Nat) (l0 : List Int) (a1 : Int) : Option (Bool) := (stockyardlaw24_made.f l0 0).bind fun bt446 => ((stockyardlaw24_text.f k l0 bt446.2.2.2.2 120).bind fun bt452 => (if 0 ≤ (bt452.1.length : Int) then (if ((bt452.1.length : Int) : Int).toNat ≤ 281474976710656 then (stockyardlaw24_ChunkerEven.l0 k a1 bt452.1 (List.replicate ((bt452.1.length : Int) : Int).toNat 0) 0 bt446.1 bt446.2.1 bt446.2.2.1 bt446.2.2.2.1) else (none)) else (none)))
theorem stockyardlaw24_ChunkerEven.mono_l : ∀ k, (∀ y0 y1 y2 y3 y4 y5 y6 y7, LeO (stockyardlaw24_ChunkerEven.l0 k y0 y1 y2 y3 y4 y5 y6 y7) (stockyardlaw24_ChunkerEven.l0 (k + 1) y0 y1 y2 y3 y4 y5 y6 y7)) ∧ (∀ y0 y1 y2 y3 y4 y5 y6, LeO (stockyardlaw24_ChunkerEven.j1 k y0 y1 y2 y3 y4 y5 y6) (stockyardlaw24_ChunkerEven.j1 (k + 1) y0 y1 y2 y3 y4 y5 y6)) ∧ (∀ y0 y1 y2 y3 y4 y5 y6, LeO (stockyardlaw24_ChunkerEven.l1 k y0 y1 y2 y3 y4 y5 y6) (stockyardlaw24_ChunkerEven.l1 (k + 1) y0 y1 y2 y3 y4 y5 y6)) ∧ (∀ y0 y1 y2 y3 y4 y5, LeO (stockyardlaw24_ChunkerEven.l2 k y0 y1 y2 y3 y4 y5) (stockyardlaw24_ChunkerEven.l2 (k + 1) y0 y1 y2 y3 y4 y5))
  | 0 => ⟨fun _ _ _ _ _ _ _ _ r h => by simp [stockyardlaw24_ChunkerEven.l0] at h, fun _ _ _ _ _ _ _ r h => by simp [stockyardlaw24_ChunkerEven.j1] at h, fun _ _ _ _ _ _ _ r h => by simp [stockyardlaw24_ChunkerEven.l1] at h, fun _ _ _ _ _ _ r h => by simp [stockyardlaw24_ChunkerEven.l2] at h⟩
  | k + 1 => by
    obtain ⟨ih0, ih1, ih2, ih3⟩ := stockyardlaw24_ChunkerEven.mono_l k
    refine ⟨?_, ?_, ?_, ?_⟩
    · intro y0 y1 y2 y3 y4 y5 y6 y7
      unfold stockyardlaw24_ChunkerEven.l0
      repeat' first
      | (with_reducible exact ih0 _ _ _ _ _ _ _ _)
      | (with_reducible exact ih1 _ _ _ _ _ _ _)
      | (with_reducible exact ih2 _ _ _ _ _ _ _)
      | (with_reducible exact ih3 _ _ _ _ _ _)
      | (with_reducible exact chunker_Split.mono _ _ _ _ _ _)
      | (with_reducible exact stockyardlaw24_known.mono _)
      | (with_reducible exact stockyardlaw24_text.mono _ _ _ _)
      | (with_reducible exact LeO.refl _)
      | (with_reducible exact LeO.none _)
      | (with_reducible refine LeO.ite ?_ ?_)
      | (with_reducible refine LeO.bind ?_ (fun _ => ?_))
      | exact ih0 _ _ _ _ _ _ _ _
      | exact ih1 _ _ _ _ _ _ _
      | exact ih2 _ _ _ _ _ _ _
      | exact ih3 _ _ _ _ _ _
      | exact chunker_Split.mono _ _ _ _ _ _
      | exact stockyardlaw24_known.mono _
      | exact stockyardlaw24_text.mono _ _ _ _
      | exact LeO.none _
      | refine LeO.ite ?_ ?_
      | refine LeO.bind ?_ (fun _ => ?_)
    · intro y0 y1 y2 y3 y4 y5 y6
      unfold stockyardlaw24_ChunkerEven.j1
      repeat' first
      | (with_reducible exact ih0 _ _ _ _ _ _ _ _)
      | (with_reducible exact ih1 _ _ _ _ _ _ _)
      | (with_reducible exact ih2 _ _ _ _ _ _ _)
      | (with_reducible exact ih3 _ _ _ _ _ _)
      | (with_reducible exact chunker_Split.mono _ _ _ _ _ _)
      | (with_reducible exact stockyardlaw24_known.mono _)
      | (with_reducible exact stockyardlaw24_text.mono _ _ _ _)
      | (with_reducible exact LeO.refl _)
      | (with_reducible exact LeO.none _)
      | (with_reducible refine LeO.ite ?_ ?_)
      | (with_reducible refine LeO.bind ?_ (fun _ => ?_))
      | exact ih0 _ _ _ _ _ _ _ _
      | exact ih1 _ _ _ _ _ _ _
      | exact ih2 _ _ _ _ _ _ _
      | exact ih3 _ _ _ _ _ _
      | exact chunker_Split.mono _ _ _ _ _ _
      | exact stockyardlaw24_known.mono _
      | exact stockyardlaw24_text.mono _ _ _ _
      | exact LeO.none _
      | refine LeO.ite ?_ ?_
      | refine LeO.bind ?_ (fun _ => ?_)
    · intro y0 y1 y2 y3 y4 y5 y6
      unfold stockyardlaw24_ChunkerEven.l1
      repeat' first
      | (with_reducible exact ih0 _ _ _ _ _ _ _ _)
      | (with_reducible exact ih1 _ _ _ _ _ _ _)
      | (with_reducible exact ih2 _ _ _ _ _ _ _)
      | (with_reducible exact ih3 _ _ _ _ _ _)
      | (with_reducible exact chunker_Split.mono _ _ _ _ _ _)
      | (with_reducible exact stockyardlaw24_known.mono _)
      | (with_reducible exact stockyardlaw24_text.mono _ _ _ _)
      | (with_reducible exact LeO.refl _)
      | (with_reducible exact LeO.none _)
      | (with_reducible refine LeO.ite ?_ ?_)
      | (with_reducible refine LeO.bind ?_ (fun _ => ?_))
      | exact ih0 _ _ _ _ _ _ _ _
      | exact ih1 _ _ _ _ _ _ _
      | exact ih2 _ _ _ _ _ _ _
      | exact ih3 _ _ _ _ _ _
      | exact chunker_Split.mono _ _ _ _ _ _
      | exact stockyardlaw24_known.mono _
      | exact stockyardlaw24_text.mono _ _ _ _
      | exact LeO.none _
      | refine LeO.ite ?_ ?_
      | refine LeO.bind ?_ (fun _ => ?_)
    · intro y0 y1 y2 y3 y4 y5
      unfold stockyardlaw24_ChunkerEven.l2
      repeat' first
      | (with_reducible exact ih0 _ _ _ _ _ _ _ _)
      | (with_reducible exact ih1 _ _ _ _ _ _ _)
      | (with_reducible exact ih2 _ _ _ _ _ _ _)
      | (with_reducible exact ih3 _ _ _ _ _ _)
      | (with_reducible exact chunker_Split.mono _ _ _ _ _ _)
      | (with_reducible exact stockyardlaw24_known.mono _)
      | (with_reducible exact stockyardlaw24_text.mono _ _ _ _)
      | (with_reducible exact LeO.refl _)
      | (with_reducible exact LeO.none _)
      | (with_reducible refine LeO.ite ?_ ?_)
      | (with_reducible refine LeO.bind ?_ (fun _ => ?_))
      | exact ih0 _ _ _ _ _ _ _ _
      | exact ih1 _ _ _ _ _ _ _
      | exact ih2 _ _ _ _ _ _ _
      | exact ih3 _ _ _ _ _ _
      | exact chunker_Split.mono _ _ _ _ _ _
      | exact stockyardlaw24_known.mono _
      | exact stockyardlaw24_text.mono _ _ _ _
      | exact LeO.none _
      | refine LeO.ite ?_ ?_
      | refine LeO.bind ?_ (fun _ => ?_)
theorem stockyardlaw24_ChunkerEven.mono : ∀ a0 a1 k, LeO (stockyardlaw24_ChunkerEven.f k a0 a1) (stockyardlaw24_ChunkerEven.f (k + 1) a0 a1) := by
  intro a0 a1 k
  obtain ⟨ih0, ih1, ih2, ih3⟩ := stockyardlaw24_ChunkerEven.mono_l k
  unfold stockyardlaw24_ChunkerEven.f
  repeat' first
      | (with_reducible exact ih0 _ _ _ _ _ _ _ _)
      | (with_reducible exact ih1 _ _ _ _ _ _ _)
      | (with_reducible exact ih2 _ _ _ _ _ _ _)
      | (with_reducible exact ih3 _ _ _ _ _ _)
      | (with_reducible exact chunker_Split.mono _ _ _ _ _ _)
      | (with_reducible exact stockyardlaw24_known.mono _)
      | (with_reducible exact stockyardlaw24_text.mono _ _ _ _)
      | (with_reducible exact LeO.refl _)
      | (with_reducible exact LeO.none _)
      | (with_reducible refine LeO.ite ?_ ?_)
      | (with_reducible refine LeO.bind ?_ (fun _ => ?_))
      | exact ih0 _ _ _ _ _ _ _ _
      | exact ih1 _ _ _ _ _ _ _
      | exact ih2 _ _ _ _ _ _ _
      | exact ih3 _ _ _ _ _ _
      | exact chunker_Split.mono _ _ _ _ _ _
      | exact stockyardlaw24_known.mono _
      | exact stockyardlaw24_text.mono _ _ _ _
      | exact LeO.none _
      | refine LeO.ite ?_ ?_
      | refine LeO.bind ?_ (fun _ => ?_)
set_option maxHeartbeats 8000000 in
set_option maxRecDepth 100000 in
theorem stockyardlaw24_ChunkerEven.calls (k : Nat) (A0 : Option Addr) (c0 : Nat) (l0 : List Int) (a1 : Int) (r : Bool) (w : World) (hr0 : Kd.C (Kd.int .i64) w A0 l0.length l0) (hc0 : l0.length ≤ c0) (h : stockyardlaw24_ChunkerEven.f k l0 a1 = some r) (hrt : r = true) :
    Calls Try.prog 10 #[.slice A0 l0.length c0, .int .u8 a1] w fun e w' => e = .returned (.bool r) ∧ Below w.heap.size w w' := by
  have HRT := Aside0.mk hrt
  clear hrt
  have hu25 := Try.underlying25
  have hu28 := Try.underlying28
  have HR0 := Aside0.mk hr0
  have HC0 := Aside0.mk hc0
  clear hr0 hc0
  have HB := Aside0.mk (Below.refl w.heap.size w)
  have H : ((stockyardlaw24_made.f l0 0).bind fun bt446 => ((stockyardlaw24_text.f k l0 bt446.2.2.2.2 120).bind fun bt452 => (if 0 ≤ (bt452.1.length : Int) then (if ((bt452.1.length : Int) : Int).toNat ≤ 281474976710656 then (stockyardlaw24_ChunkerEven.l0 k a1 bt452.1 (List.replicate ((bt452.1.length : Int) : Int).toNat 0) 0 bt446.1 bt446.2.1 bt446.2.2.1 bt446.2.2.2.1) else (none)) else (none)))) = some r := h
  clear h
  replace H := Option.bind_eq_some_iff.mp H
  obtain ⟨⟨t446, t447, t448, t449, t450⟩, A30, H⟩ := H
  replace H : ((stockyardlaw24_text.f k l0 t450 120).bind fun bt452 => (if 0 ≤ (bt452.1.length : Int) then (if ((bt452.1.length : Int) : Int).toNat ≤ 281474976710656 then (stockyardlaw24_ChunkerEven.l0 k a1 bt452.1 (List.replicate ((bt452.1.length : Int) : Int).toNat 0) 0 t446 t447 t448 t449) else (none)) else (none))) = some r := H
  have A3 := Aside0.mk A30
  clear A30
  replace H := Option.bind_eq_some_iff.mp H
  obtain ⟨⟨t452, t455⟩, A40, H⟩ := H
  replace H : (if 0 ≤ (t452.length : Int) then (if ((t452.length : Int) : Int).toNat ≤ 281474976710656 then (stockyardlaw24_ChunkerEven.l0 k a1 t452 (List.replicate ((t452.length : Int) : Int).toNat 0) 0 t446 t447 t448 t449) else (none)) else (none)) = some r := H
  have A4 := Aside0.mk A40
  clear A40
  by_cases c5 : 0 ≤ (t452.length : Int)
  · rw [if_pos c5] at H
    have c5b0 := eq_true c5
    have c5b1 : decide (0 ≤ (t452.length : Int)) = true := decide_eq_true c5
    clear c5
    by_cases c6 : ((t452.length : Int) : Int).toNat ≤ 281474976710656
    · rw [if_pos c6] at H
      have c6b0 := eq_true c6
      have c6b1 : decide (((t452.length : Int) : Int).toNat ≤ 281474976710656) = true := decide_eq_true c6
      clear c6
      obtain ⟨y456, hy456⟩ : ∃ y_ : List Int, y_ = (List.replicate ((t452.length : Int) : Int).toNat 0) := ⟨_, rfl⟩
      replace H : (stockyardlaw24_ChunkerEven.l0 k a1 t452 y456 0 t446 t447 t448 t449) = some r := by first | (rw [hy456]; with_reducible exact H) | (have H2_ := (Option.bind_some _ _).symm.trans H; rw [hy456]; with_reducible exact H2_) | (have H2_ := (Option.bind_some _ _).symm.trans H; with_reducible exact H2_) | with_reducible exact H | (rw [hy456]; exact H) | exact H
      have Ny456 := Aside0.mk hy456
      clear hy456
      have H' := Aside0.mk H
      clear H
      go_enter Try.func10, Try.ntmps10
      go_wp2_with (first | ((with_reducible refine gate_dst (N := 18) rfl ?_); (try (refine gate_guard (by rfl) ?_; dsimp only)); refine box_event ?hg (N := 18) ?hd (cs := #[.slice A0 l0.length c0, .int .i64 0]) (t := 25) ?hr ?_; (case hd => rfl); (case hg => rfl); (case hr => first | (go_simp; done) | (go_simp; rfl)); intro gb445 hg w7 hbox hb; have n0_ := Aside0.mk (below_step (by repeat (first | (with_reducible first | exact HB.out | apply below_alloc | apply pw_below_drewN | apply below_drew1) | exact HB.out)) hb); have n1_ := Aside0.mk ((by rw [hg]; exact (below_size (by repeat (first | (with_reducible first | exact HB.out | apply below_alloc | apply pw_below_drewN | apply below_drew1) | exact HB.out))) : w.heap.size ≤ gb445)); have n2_ := Aside0.mk ((by rw [hg]; exact (below_size (by repeat (first | (with_reducible first | exact HB.out | apply below_alloc | apply pw_below_drewN | apply below_drew1) | exact HB.out))) : w.heap.size ≤ gb445)); have n3_ := Aside0.mk ((show IsS25 w w7 gb445 l0 0 from ⟨_, _, hbox, (by rw [hg]; exact (below_size (by repeat (first | (with_reducible first | exact HB.out | apply below_alloc | apply pw_below_drewN | apply below_drew1) | exact HB.out))) : w.heap.size ≤ gb445), HR0.out⟩)); clear HB; have HB := n0_; have GW445 := n1_; have GE445 := n2_; have HI445 := n3_; clear n0_ n1_ n2_ n3_; clear hb hbox hg) | (go_at_call 14; (with_reducible refine (stockyardlaw24_made.calls gb445 l0 0 t446 t447 t448 t449 t450 w _ ?side1 ?side2 A3.out).mono ?_); (case side1 => repeat (first | (with_reducible first | exact HI445.out | apply IsS25.alloc | apply IsS25.drewN | apply IsS25.drew | apply IsS25.set_1) | exact HI445.out)); (case side2 => repeat (first | (with_reducible first | exact HB.out | apply below_alloc | apply pw_below_drewN | apply below_drew1 | refine below_set ?_ (IsS25.ge HI445.out)) | exact HB.out)); rintro e w8 ⟨rfl, hi, hb, hk⟩; have n0_ := Aside0.mk (hb); have n1_ := Aside0.mk (hi); clear HB; clear HI445; have HB := n0_; have HI445 := n1_; clear n0_ n1_; (try clear hb); (try clear hb2); (try clear hk); (try clear hi)) | ((with_reducible refine gate_dst (N := 6) rfl ?_); (try (refine gate_guard (by rfl) ?_; dsimp only)); refine box_event ?hg (N := 6) ?hd (cs := #[.int .i64 0, .int .i64 0, .int .i64 0, .int .u64 0]) (t := 28) ?hr ?_; (case hd => rfl); (case hg => rfl); (case hr => first | (go_simp; done) | (go_simp; rfl)); intro gb451 hg w9 hbox hb; have n0_ := Aside0.mk (IsS25.below (by repeat (first | (with_reducible first | exact HI445.out | apply IsS25.alloc | apply IsS25.drewN | apply IsS25.drew | apply IsS25.set_1) | exact HI445.out)) hb); have n1_ := Aside0.mk (below_step (by repeat (first | (with_reducible first | exact HB.out | apply below_alloc | apply pw_below_drewN | apply below_drew1 | refine below_set ?_ (IsS25.ge HI445.out)) | exact HB.out)) hb); have n2_ := Aside0.mk (hbox); have n3_ := Aside0.mk ((by rw [hg]; exact (below_size (by repeat (first | (with_reducible first | exact HB.out | apply below_alloc | apply pw_below_drewN | apply below_drew1 | refine below_set ?_ (IsS25.ge HI445.out)) | exact HB.out))) : w.heap.size ≤ gb451)); have n4_ := Aside0.mk ((by rw [hg]; exact (below_size (by repeat (first | (with_reducible first | exact HB.out | apply below_alloc | apply pw_below_drewN | apply below_drew1 | refine below_set ?_ (IsS25.ge HI445.out)) | exact HB.out))) : w.heap.size ≤ gb451)); have n5_ := Aside0.mk ((by rw [hg]; exact Nat.ne_of_lt (IsS25.lt (show IsS25 w _ gb445 l0 t450 from by repeat (first | (with_reducible first | exact HI445.out | apply IsS25.alloc | apply IsS25.drewN | apply IsS25.drew | apply IsS25.set_1) | exact HI445.out))) : gb445 ≠ gb451)); have n6_ := Aside0.mk ((by rw [hg]; exact Nat.ne_of_gt (IsS25.lt (show IsS25 w _ gb445 l0 t450 from by repeat (first | (with_reducible first | exact HI445.out | apply IsS25.alloc | apply IsS25.drewN | apply IsS25.drew | apply IsS25.set_1) | exact HI445.out))) : gb451 ≠ gb445)); clear HI445; clear HB; have HI445 := n0_; have HB := n1_; have BK451 := n2_; have GW451 := n3_; have GE451 := n4_; have NB445_451 := n5_; have NB451_445 := n6_; clear n0_ n1_ n2_ n3_ n4_ n5_ n6_; clear hb hbox hg; have hnb10 := NB451_445.out; have hnc10 := NB445_451.out; have hcz11_0 : w9.cell? ⟨gb451, 0, none⟩ = some (.int .i64 0) := (blk_cell BK451.out 0).trans rfl; have hcz11_1 : w9.cell? ⟨gb451, 1, none⟩ = some (.int .i64 0) := (blk_cell BK451.out 1).trans rfl; have hcz11_2 : w9.cell? ⟨gb451, 2, none⟩ = some (.int .i64 0) := (blk_cell BK451.out 2).trans rfl; have hcz11_3 : w9.cell? ⟨gb451, 3, none⟩ = some (.int .u64 0) := (blk_cell BK451.out 3).trans rfl; have hfz11_0 := blk_frozen BK451.out 0; have hfz11_1 := blk_frozen BK451.out 1; have hfz11_2 := blk_frozen BK451.out 2; have hfz11_3 := blk_frozen BK451.out 3) | (go_at_call 15; (with_reducible refine (stockyardlaw24_text.calls k gb445 l0 t450 120 t452 t455 w _ ?side1 ?side2 A4.out).mono ?_); (case side1 => repeat (first | (with_reducible first | exact HI445.out | apply IsS25.alloc | apply IsS25.drewN | apply IsS25.drew | apply IsS25.set_1 | refine IsS25.far ?_ NB445_451.out _) | exact HI445.out)); (case side2 => repeat (first | (with_reducible first | exact HB.out | apply below_alloc | apply pw_below_drewN | apply below_drew1 | refine below_set ?_ (IsS25.ge HI445.out) | refine below_set ?_ GE451.out) | exact HB.out)); rintro e w12 ⟨v453, rfl, ho0, hi, hb, hk⟩; have n0_ := Aside0.mk (KeepBut.blk hk (g' := gb451) (o := .cells #[.int .i64 t446, .int .i64 t447, .int .i64 t448, .int .u64 t449] 28 (0, 0)) (by (with_reducible repeat (first | refine blk_drewN ?_ _ | refine blk_drew ?_ | refine blk_alloc ?_ _)); refine blk_put (cs := #[.int .i64 t446, .int .i64 t447, .int .i64 t448, .int .u64 0]) ?_ 3 _ rfl; (with_reducible repeat (first | refine blk_drewN ?_ _ | refine blk_drew ?_ | refine blk_alloc ?_ _)); refine blk_put (cs := #[.int .i64 t446, .int .i64 t447, .int .i64 0, .int .u64 0]) ?_ 2 _ rfl; (with_reducible repeat (first | refine blk_drewN ?_ _ | refine blk_drew ?_ | refine blk_alloc ?_ _)); refine blk_put (cs := #[.int .i64 t446, .int .i64 0, .int .i64 0, .int .u64 0]) ?_ 1 _ rfl; (with_reducible repeat (first | refine blk_drewN ?_ _ | refine blk_drew ?_ | refine blk_alloc ?_ _)); refine blk_put (cs := #[.int .i64 0, .int .i64 0, .int .i64 0, .int .u64 0]) ?_ 0 _ rfl; (with_reducible repeat (first | refine blk_drewN ?_ _ | refine blk_drew ?_ | refine blk_alloc ?_ _)); exact BK451.out) NB451_445.out (by simp)); have n1_ := Aside0.mk (Kd.R_lower ho0 (below_size (by repeat (first | (with_reducible first | exact HB.out | apply below_alloc | apply pw_below_drewN | apply below_drew1 | refine below_set ?_ (IsS25.ge HI445.out) | refine below_set ?_ GE451.out) | exact HB.out)))); have n2_ := Aside0.mk (hb); have n3_ := Aside0.mk (hi); clear BK451; clear HB; clear HI445; have BK451 := n0_; have HO454 := n1_; have HB := n2_; have HI445 := n3_; clear n0_ n1_ n2_ n3_; (try clear hb); (try clear hb2); (try clear hk); (try clear hi); (try clear ho0); obtain ⟨Ao13, co13, eo13⟩ := Kd.R_slice HO454.out; subst eo13) | ((with_reducible refine gate_dst (N := 25) rfl ?_); (try (refine gate_guard (by rfl) ?_; dsimp only)); refine Kd.R_make (Kd.int .u8) _ 5 rfl (N := 25) rfl 30 _ _ rfl (t452.length : Int) rfl rfl Try.underlying30 (.int .u8 0) 1 info5 rfl (by decide) (by omega) 0 (ok := fun _ => True) (okp := fun _ => True) rfl (fun _ hk => hk) trivial (of_decide_eq_true (by first | (with_reducible assumption) | assumption)) (Nat.le_trans (Nat.mul_le_mul_right _ (of_decide_eq_true (by first | (with_reducible assumption) | assumption) : (t452.length : Int).toNat ≤ 281474976710656)) (by omega)) (Below.refl _ _) (Nat.le_refl _) ?_; intro v457 w14 ho15 hb hg_ hnew_; clear hg_ hnew_; (first | rw [← Ny456.out] at ho15 | (simp only [Int.reduceToNat] at ho15; rw [← Ny456.out] at ho15)); have n0_ := Aside0.mk (Kd.R_elder' (by (with_reducible repeat (first | apply Kd.R_alloc | apply Kd.R_drewN | apply Kd.R_drew)); exact HO454.out) (Kd.R_base ho15) hb); have n1_ := Aside0.mk (Kd.R_lower (Kd.R_new' ho15 (Kd.R_lt (by (with_reducible repeat (first | apply Kd.R_alloc | apply Kd.R_drewN | apply Kd.R_drew)); exact HO454.out))) (below_size (by repeat (first | (with_reducible first | exact HB.out | apply below_alloc | apply pw_below_drewN | apply below_drew1 | refine below_set ?_ (IsS25.ge HI445.out) | refine below_set ?_ GE451.out) | exact HB.out)))); have n2_ := Aside0.mk (IsS25.below (by repeat (first | (with_reducible first | exact HI445.out | apply IsS25.alloc | apply IsS25.drewN | apply IsS25.drew | apply IsS25.set_1 | refine IsS25.far ?_ NB445_451.out _) | exact HI445.out)) hb); have n3_ := Aside0.mk (blk_below (g := gb451) (o := .cells #[.int .i64 t446, .int .i64 t447, .int .i64 t448, .int .u64 t449] 28 (0, 0)) (by (with_reducible repeat (first | refine blk_drewN ?_ _ | refine blk_drew ?_ | refine blk_alloc ?_ _)); exact BK451.out) hb); have n4_ := Aside0.mk (below_step (by repeat (first | (with_reducible first | exact HB.out | apply below_alloc | apply pw_below_drewN | apply below_drew1 | refine below_set ?_ (IsS25.ge HI445.out) | refine below_set ?_ GE451.out) | exact HB.out)) hb); clear HO454; clear HI445; clear BK451; clear HB; have HO454 := n0_; have HO458 := n1_; have HI445 := n2_; have BK451 := n3_; have HB := n4_; clear n0_ n1_ n2_ n3_ n4_; clear hb ho15))
      repeat (go_quiet (first | ((with_reducible refine gate_dst (N := 18) rfl ?_); (try (refine gate_guard (by rfl) ?_; dsimp only)); refine box_event ?hg (N := 18) ?hd (cs := #[.slice A0 l0.length c0, .int .i64 0]) (t := 25) ?hr ?_; (case hd => rfl); (case hg => rfl); (case hr => first | (go_simp; done) | (go_simp; rfl)); intro gb445 hg w7 hbox hb; have n0_ := Aside0.mk (below_step (by repeat (first | (with_reducible first | exact HB.out | apply below_alloc | apply pw_below_drewN | apply below_drew1) | exact HB.out)) hb); have n1_ := Aside0.mk ((by rw [hg]; exact (below_size (by repeat (first | (with_reducible first | exact HB.out | apply below_alloc | apply pw_below_drewN | apply below_drew1) | exact HB.out))) : w.heap.size ≤ gb445)); have n2_ := Aside0.mk ((by rw [hg]; exact (below_size (by repeat (first | (with_reducible first | exact HB.out | apply below_alloc | apply pw_below_drewN | apply below_drew1) | exact HB.out))) : w.heap.size ≤ gb445)); have n3_ := Aside0.mk ((show IsS25 w w7 gb445 l0 0 from ⟨_, _, hbox, (by rw [hg]; exact (below_size (by repeat (first | (with_reducible first | exact HB.out | apply below_alloc | apply pw_below_drewN | apply below_drew1) | exact HB.out))) : w.heap.size ≤ gb445), HR0.out⟩)); clear HB; have HB := n0_; have GW445 := n1_; have GE445 := n2_; have HI445 := n3_; clear n0_ n1_ n2_ n3_; clear hb hbox hg) | (go_at_call 14; (with_reducible refine (stockyardlaw24_made.calls gb445 l0 0 t446 t447 t448 t449 t450 w _ ?side1 ?side2 A3.out).mono ?_); (case side1 => repeat (first | (with_reducible first | exact HI445.out | apply IsS25.alloc | apply IsS25.drewN | apply IsS25.drew | apply IsS25.set_1) | exact HI445.out)); (case side2 => repeat (first | (with_reducible first | exact HB.out | apply below_alloc | apply pw_below_drewN | apply below_drew1 | refine below_set ?_ (IsS25.ge HI445.out)) | exact HB.out)); rintro e w8 ⟨rfl, hi, hb, hk⟩; have n0_ := Aside0.mk (hb); have n1_ := Aside0.mk (hi); clear HB; clear HI445; have HB := n0_; have HI445 := n1_; clear n0_ n1_; (try clear hb); (try clear hb2); (try clear hk); (try clear hi)) | ((with_reducible refine gate_dst (N := 6) rfl ?_); (try (refine gate_guard (by rfl) ?_; dsimp only)); refine box_event ?hg (N := 6) ?hd (cs := #[.int .i64 0, .int .i64 0, .int .i64 0, .int .u64 0]) (t := 28) ?hr ?_; (case hd => rfl); (case hg => rfl); (case hr => first | (go_simp; done) | (go_simp; rfl)); intro gb451 hg w9 hbox hb; have n0_ := Aside0.mk (IsS25.below (by repeat (first | (with_reducible first | exact HI445.out | apply IsS25.alloc | apply IsS25.drewN | apply IsS25.drew | apply IsS25.set_1) | exact HI445.out)) hb); have n1_ := Aside0.mk (below_step (by repeat (first | (with_reducible first | exact HB.out | apply below_alloc | apply pw_below_drewN | apply below_drew1 | refine below_set ?_ (IsS25.ge HI445.out)) | exact HB.out)) hb); have n2_ := Aside0.mk (hbox); have n3_ := Aside0.mk ((by rw [hg]; exact (below_size (by repeat (first | (with_reducible first | exact HB.out | apply below_alloc | apply pw_below_drewN | apply below_drew1 | refine below_set ?_ (IsS25.ge HI445.out)) | exact HB.out))) : w.heap.size ≤ gb451)); have n4_ := Aside0.mk ((by rw [hg]; exact (below_size (by repeat (first | (with_reducible first | exact HB.out | apply below_alloc | apply pw_below_drewN | apply below_drew1 | refine below_set ?_ (IsS25.ge HI445.out)) | exact HB.out))) : w.heap.size ≤ gb451)); have n5_ := Aside0.mk ((by rw [hg]; exact Nat.ne_of_lt (IsS25.lt (show IsS25 w _ gb445 l0 t450 from by repeat (first | (with_reducible first | exact HI445.out | apply IsS25.alloc | apply IsS25.drewN | apply IsS25.drew | apply IsS25.set_1) | exact HI445.out))) : gb445 ≠ gb451)); have n6_ := Aside0.mk ((by rw [hg]; exact Nat.ne_of_gt (IsS25.lt (show IsS25 w _ gb445 l0 t450 from by repeat (first | (with_reducible first | exact HI445.out | apply IsS25.alloc | apply IsS25.drewN | apply IsS25.drew | apply IsS25.set_1) | exact HI445.out))) : gb451 ≠ gb445)); clear HI445; clear HB; have HI445 := n0_; have HB := n1_; have BK451 := n2_; have GW451 := n3_; have GE451 := n4_; have NB445_451 := n5_; have NB451_445 := n6_; clear n0_ n1_ n2_ n3_ n4_ n5_ n6_; clear hb hbox hg; have hnb10 := NB451_445.out; have hnc10 := NB445_451.out; have hcz11_0 : w9.cell? ⟨gb451, 0, none⟩ = some (.int .i64 0) := (blk_cell BK451.out 0).trans rfl; have hcz11_1 : w9.cell? ⟨gb451, 1, none⟩ = some (.int .i64 0) := (blk_cell BK451.out 1).trans rfl; have hcz11_2 : w9.cell? ⟨gb451, 2, none⟩ = some (.int .i64 0) := (blk_cell BK451.out 2).trans rfl; have hcz11_3 : w9.cell? ⟨gb451, 3, none⟩ = some (.int .u64 0) := (blk_cell BK451.out 3).trans rfl; have hfz11_0 := blk_frozen BK451.out 0; have hfz11_1 := blk_frozen BK451.out 1; have hfz11_2 := blk_frozen BK451.out 2; have hfz11_3 := blk_frozen BK451.out 3) | (go_at_call 15; (with_reducible refine (stockyardlaw24_text.calls k gb445 l0 t450 120 t452 t455 w _ ?side1 ?side2 A4.out).mono ?_); (case side1 => repeat (first | (with_reducible first | exact HI445.out | apply IsS25.alloc | apply IsS25.drewN | apply IsS25.drew | apply IsS25.set_1 | refine IsS25.far ?_ NB445_451.out _) | exact HI445.out)); (case side2 => repeat (first | (with_reducible first | exact HB.out | apply below_alloc | apply pw_below_drewN | apply below_drew1 | refine below_set ?_ (IsS25.ge HI445.out) | refine below_set ?_ GE451.out) | exact HB.out)); rintro e w12 ⟨v453, rfl, ho0, hi, hb, hk⟩; have n0_ := Aside0.mk (KeepBut.blk hk (g' := gb451) (o := .cells #[.int .i64 t446, .int .i64 t447, .int .i64 t448, .int .u64 t449] 28 (0, 0)) (by (with_reducible repeat (first | refine blk_drewN ?_ _ | refine blk_drew ?_ | refine blk_alloc ?_ _)); refine blk_put (cs := #[.int .i64 t446, .int .i64 t447, .int .i64 t448, .int .u64 0]) ?_ 3 _ rfl; (with_reducible repeat (first | refine blk_drewN ?_ _ | refine blk_drew ?_ | refine blk_alloc ?_ _)); refine blk_put (cs := #[.int .i64 t446, .int .i64 t447, .int .i64 0, .int .u64 0]) ?_ 2 _ rfl; (with_reducible repeat (first | refine blk_drewN ?_ _ | refine blk_drew ?_ | refine blk_alloc ?_ _)); refine blk_put (cs := #[.int .i64 t446, .int .i64 0, .int .i64 0, .int .u64 0]) ?_ 1 _ rfl; (with_reducible repeat (first | refine blk_drewN ?_ _ | refine blk_drew ?_ | refine blk_alloc ?_ _)); refine blk_put (cs := #[.int .i64 0, .int .i64 0, .int .i64 0, .int .u64 0]) ?_ 0 _ rfl; (with_reducible repeat (first | refine blk_drewN ?_ _ | refine blk_drew ?_ | refine blk_alloc ?_ _)); exact BK451.out) NB451_445.out (by simp)); have n1_ := Aside0.mk (Kd.R_lower ho0 (below_size (by repeat (first | (with_reducible first | exact HB.out | apply below_alloc | apply pw_below_drewN | apply below_drew1 | refine below_set ?_ (IsS25.ge HI445.out) | refine below_set ?_ GE451.out) | exact HB.out)))); have n2_ := Aside0.mk (hb); have n3_ := Aside0.mk (hi); clear BK451; clear HB; clear HI445; have BK451 := n0_; have HO454 := n1_; have HB := n2_; have HI445 := n3_; clear n0_ n1_ n2_ n3_; (try clear hb); (try clear hb2); (try clear hk); (try clear hi); (try clear ho0); obtain ⟨Ao13, co13, eo13⟩ := Kd.R_slice HO454.out; subst eo13) | ((with_reducible refine gate_dst (N := 25) rfl ?_); (try (refine gate_guard (by rfl) ?_; dsimp only)); refine Kd.R_make (Kd.int .u8) _ 5 rfl (N := 25) rfl 30 _ _ rfl (t452.length : Int) rfl rfl Try.underlying30 (.int .u8 0) 1 info5 rfl (by decide) (by omega) 0 (ok := fun _ => True) (okp := fun _ => True) rfl (fun _ hk => hk) trivial (of_decide_eq_true (by first | (with_reducible assumption) | assumption)) (Nat.le_trans (Nat.mul_le_mul_right _ (of_decide_eq_true (by first | (with_reducible assumption) | assumption) : (t452.length : Int).toNat ≤ 281474976710656)) (by omega)) (Below.refl _ _) (Nat.le_refl _) ?_; intro v457 w14 ho15 hb hg_ hnew_; clear hg_ hnew_; (first | rw [← Ny456.out] at ho15 | (simp only [Int.reduceToNat] at ho15; rw [← Ny456.out] at ho15)); have n0_ := Aside0.mk (Kd.R_elder' (by (with_reducible repeat (first | apply Kd.R_alloc | apply Kd.R_drewN | apply Kd.R_drew)); exact HO454.out) (Kd.R_base ho15) hb); have n1_ := Aside0.mk (Kd.R_lower (Kd.R_new' ho15 (Kd.R_lt (by (with_reducible repeat (first | apply Kd.R_alloc | apply Kd.R_drewN | apply Kd.R_drew)); exact HO454.out))) (below_size (by repeat (first | (with_reducible first | exact HB.out | apply below_alloc | apply pw_below_drewN | apply below_drew1 | refine below_set ?_ (IsS25.ge HI445.out) | refine below_set ?_ GE451.out) | exact HB.out)))); have n2_ := Aside0.mk (IsS25.below (by repeat (first | (with_reducible first | exact HI445.out | apply IsS25.alloc | apply IsS25.drewN | apply IsS25.drew | apply IsS25.set_1 | refine IsS25.far ?_ NB445_451.out _) | exact HI445.out)) hb); have n3_ := Aside0.mk (blk_below (g := gb451) (o := .cells #[.int .i64 t446, .int .i64 t447, .int .i64 t448, .int .u64 t449] 28 (0, 0)) (by (with_reducible repeat (first | refine blk_drewN ?_ _ | refine blk_drew ?_ | refine blk_alloc ?_ _)); exact BK451.out) hb); have n4_ := Aside0.mk (below_step (by repeat (first | (with_reducible first | exact HB.out | apply below_alloc | apply pw_below_drewN | apply below_drew1 | refine below_set ?_ (IsS25.ge HI445.out) | refine below_set ?_ GE451.out) | exact HB.out)) hb); clear HO454; clear HI445; clear BK451; clear HB; have HO454 := n0_; have HO458 := n1_; have HI445 := n2_; have BK451 := n3_; have HB := n4_; clear n0_ n1_ n2_ n3_ n4_; clear hb ho15)); try go_wp2_with (first | ((with_reducible refine gate_dst (N := 18) rfl ?_); (try (refine gate_guard (by rfl) ?_; dsimp only)); refine box_event ?hg (N := 18) ?hd (cs := #[.slice A0 l0.length c0, .int .i64 0]) (t := 25) ?hr ?_; (case hd => rfl); (case hg => rfl); (case hr => first | (go_simp; done) | (go_simp; rfl)); intro gb445 hg w7 hbox hb; have n0_ := Aside0.mk (below_step (by repeat (first | (with_reducible first | exact HB.out | apply below_alloc | apply pw_below_drewN | apply below_drew1) | exact HB.out)) hb); have n1_ := Aside0.mk ((by rw [hg]; exact (below_size (by repeat (first | (with_reducible first | exact HB.out | apply below_alloc | apply pw_below_drewN | apply below_drew1) | exact HB.out))) : w.heap.size ≤ gb445)); have n2_ := Aside0.mk ((by rw [hg]; exact (below_size (by repeat (first | (with_reducible first | exact HB.out | apply below_alloc | apply pw_below_drewN | apply below_drew1) | exact HB.out))) : w.heap.size ≤ gb445)); have n3_ := Aside0.mk ((show IsS25 w w7 gb445 l0 0 from ⟨_, _, hbox, (by rw [hg]; exact (below_size (by repeat (first | (with_reducible first | exact HB.out | apply below_alloc | apply pw_below_drewN | apply below_drew1) | exact HB.out))) : w.heap.size ≤ gb445), HR0.out⟩)); clear HB; have HB := n0_; have GW445 := n1_; have GE445 := n2_; have HI445 := n3_; clear n0_ n1_ n2_ n3_; clear hb hbox hg) | (go_at_call 14; (with_reducible refine (stockyardlaw24_made.calls gb445 l0 0 t446 t447 t448 t449 t450 w _ ?side1 ?side2 A3.out).mono ?_); (case side1 => repeat (first | (with_reducible first | exact HI445.out | apply IsS25.alloc | apply IsS25.drewN | apply IsS25.drew | apply IsS25.set_1) | exact HI445.out)); (case side2 => repeat (first | (with_reducible first | exact HB.out | apply below_alloc | apply pw_below_drewN | apply below_drew1 | refine below_set ?_ (IsS25.ge HI445.out)) | exact HB.out)); rintro e w8 ⟨rfl, hi, hb, hk⟩; have n0_ := Aside0.mk (hb); have n1_ := Aside0.mk (hi); clear HB; clear HI445; have HB := n0_; have HI445 := n1_; clear n0_ n1_; (try clear hb); (try clear hb2); (try clear hk); (try clear hi)) | ((with_reducible refine gate_dst (N := 6) rfl ?_); (try (refine gate_guard (by rfl) ?_; dsimp only)); refine box_event ?hg (N := 6) ?hd (cs := #[.int .i64 0, .int .i64 0, .int .i64 0, .int .u64 0]) (t := 28) ?hr ?_; (case hd => rfl); (case hg => rfl); (case hr => first | (go_simp; done) | (go_simp; rfl)); intro gb451 hg w9 hbox hb; have n0_ := Aside0.mk (IsS25.below (by repeat (first | (with_reducible first | exact HI445.out | apply IsS25.alloc | apply IsS25.drewN | apply IsS25.drew | apply IsS25.set_1) | exact HI445.out)) hb); have n1_ := Aside0.mk (below_step (by repeat (first | (with_reducible first | exact HB.out | apply below_alloc | apply pw_below_drewN | apply below_drew1 | refine below_set ?_ (IsS25.ge HI445.out)) | exact HB.out)) hb); have n2_ := Aside0.mk (hbox); have n3_ := Aside0.mk ((by rw [hg]; exact (below_size (by repeat (first | (with_reducible first | exact HB.out | apply below_alloc | apply pw_below_drewN | apply below_drew1 | refine below_set ?_ (IsS25.ge HI445.out)) | exact HB.out))) : w.heap.size ≤ gb451)); have n4_ := Aside0.mk ((by rw [hg]; exact (below_size (by repeat (first | (with_reducible first | exact HB.out | apply below_alloc | apply pw_below_drewN | apply below_drew1 | refine below_set ?_ (IsS25.ge HI445.out)) | exact HB.out))) : w.heap.size ≤ gb451)); have n5_ := Aside0.mk ((by rw [hg]; exact Nat.ne_of_lt (IsS25.lt (show IsS25 w _ gb445 l0 t450 from by repeat (first | (with_reducible first | exact HI445.out | apply IsS25.alloc | apply IsS25.drewN | apply IsS25.drew | apply IsS25.set_1) | exact HI445.out))) : gb445 ≠ gb451)); have n6_ := Aside0.mk ((by rw [hg]; exact Nat.ne_of_gt (IsS25.lt (show IsS25 w _ gb445 l0 t450 from by repeat (first | (with_reducible first | exact HI445.out | apply IsS25.alloc | apply IsS25.drewN | apply IsS25.drew | apply IsS25.set_1) | exact HI445.out))) : gb451 ≠ gb445)); clear HI445; clear HB; have HI445 := n0_; have HB := n1_; have BK451 := n2_; have GW451 := n3_; have GE451 := n4_; have NB445_451 := n5_; have NB451_445 := n6_; clear n0_ n1_ n2_ n3_ n4_ n5_ n6_; clear hb hbox hg; have hnb10 := NB451_445.out; have hnc10 := NB445_451.out; have hcz11_0 : w9.cell? ⟨gb451, 0, none⟩ = some (.int .i64 0) := (blk_cell BK451.out 0).trans rfl; have hcz11_1 : w9.cell? ⟨gb451, 1, none⟩ = some (.int .i64 0) := (blk_cell BK451.out 1).trans rfl; have hcz11_2 : w9.cell? ⟨gb451, 2, none⟩ = some (.int .i64 0) := (blk_cell BK451.out 2).trans rfl; have hcz11_3 : w9.cell? ⟨gb451, 3, none⟩ = some (.int .u64 0) := (blk_cell BK451.out 3).trans rfl; have hfz11_0 := blk_frozen BK451.out 0; have hfz11_1 := blk_frozen BK451.out 1; have hfz11_2 := blk_frozen BK451.out 2; have hfz11_3 := blk_frozen BK451.out 3) | (go_at_call 15; (with_reducible refine (stockyardlaw24_text.calls k gb445 l0 t450 120 t452 t455 w _ ?side1 ?side2 A4.out).mono ?_); (case side1 => repeat (first | (with_reducible first | exact HI445.out | apply IsS25.alloc | apply IsS25.drewN | apply IsS25.drew | apply IsS25.set_1 | refine IsS25.far ?_ NB445_451.out _) | exact HI445.out)); (case side2 => repeat (first | (with_reducible first | exact HB.out | apply below_alloc | apply pw_below_drewN | apply below_drew1 | refine below_set ?_ (IsS25.ge HI445.out) | refine below_set ?_ GE451.out) | exact HB.out)); rintro e w12 ⟨v453, rfl, ho0, hi, hb, hk⟩; have n0_ := Aside0.mk (KeepBut.blk hk (g' := gb451) (o := .cells #[.int .i64 t446, .int .i64 t447, .int .i64 t448, .int .u64 t449] 28 (0, 0)) (by (with_reducible repeat (first | refine blk_drewN ?_ _ | refine blk_drew ?_ | refine blk_alloc ?_ _)); refine blk_put (cs := #[.int .i64 t446, .int .i64 t447, .int .i64 t448, .int .u64 0]) ?_ 3 _ rfl; (with_reducible repeat (first | refine blk_drewN ?_ _ | refine blk_drew ?_ | refine blk_alloc ?_ _)); refine blk_put (cs := #[.int .i64 t446, .int .i64 t447, .int .i64 0, .int .u64 0]) ?_ 2 _ rfl; (with_reducible repeat (first | refine blk_drewN ?_ _ | refine blk_drew ?_ | refine blk_alloc ?_ _)); refine blk_put (cs := #[.int .i64 t446, .int .i64 0, .int .i64 0, .int .u64 0]) ?_ 1 _ rfl; (with_reducible repeat (first | refine blk_drewN ?_ _ | refine blk_drew ?_ | refine blk_alloc ?_ _)); refine blk_put (cs := #[.int .i64 0, .int .i64 0, .int .i64 0, .int .u64 0]) ?_ 0 _ rfl; (with_reducible repeat (first | refine blk_drewN ?_ _ | refine blk_drew ?_ | refine blk_alloc ?_ _)); exact BK451.out) NB451_445.out (by simp)); have n1_ := Aside0.mk (Kd.R_lower ho0 (below_size (by repeat (first | (with_reducible first | exact HB.out | apply below_alloc | apply pw_below_drewN | apply below_drew1 | refine below_set ?_ (IsS25.ge HI445.out) | refine below_set ?_ GE451.out) | exact HB.out)))); have n2_ := Aside0.mk (hb); have n3_ := Aside0.mk (hi); clear BK451; clear HB; clear HI445; have BK451 := n0_; have HO454 := n1_; have HB := n2_; have HI445 := n3_; clear n0_ n1_ n2_ n3_; (try clear hb); (try clear hb2); (try clear hk); (try clear hi); (try clear ho0); obtain ⟨Ao13, co13, eo13⟩ := Kd.R_slice HO454.out; subst eo13) | ((with_reducible refine gate_dst (N := 25) rfl ?_); (try (refine gate_guard (by rfl) ?_; dsimp only)); refine Kd.R_make (Kd.int .u8) _ 5 rfl (N := 25) rfl 30 _ _ rfl (t452.length : Int) rfl rfl Try.underlying30 (.int .u8 0) 1 info5 rfl (by decide) (by omega) 0 (ok := fun _ => True) (okp := fun _ => True) rfl (fun _ hk => hk) trivial (of_decide_eq_true (by first | (with_reducible assumption) | assumption)) (Nat.le_trans (Nat.mul_le_mul_right _ (of_decide_eq_true (by first | (with_reducible assumption) | assumption) : (t452.length : Int).toNat ≤ 281474976710656)) (by omega)) (Below.refl _ _) (Nat.le_refl _) ?_; intro v457 w14 ho15 hb hg_ hnew_; clear hg_ hnew_; (first | rw [← Ny456.out] at ho15 | (simp only [Int.reduceToNat] at ho15; rw [← Ny456.out] at ho15)); have n0_ := Aside0.mk (Kd.R_elder' (by (with_reducible repeat (first | apply Kd.R_alloc | apply Kd.R_drewN | apply Kd.R_drew)); exact HO454.out) (Kd.R_base ho15) hb); have n1_ := Aside0.mk (Kd.R_lower (Kd.R_new' ho15 (Kd.R_lt (by (with_reducible repeat (first | apply Kd.R_alloc | apply Kd.R_drewN | apply Kd.R_drew)); exact HO454.out))) (below_size (by repeat (first | (with_reducible first | exact HB.out | apply below_alloc | apply pw_below_drewN | apply below_drew1 | refine below_set ?_ (IsS25.ge HI445.out) | refine below_set ?_ GE451.out) | exact HB.out)))); have n2_ := Aside0.mk (IsS25.below (by repeat (first | (with_reducible first | exact HI445.out | apply IsS25.alloc | apply IsS25.drewN | apply IsS25.drew | apply IsS25.set_1 | refine IsS25.far ?_ NB445_451.out _) | exact HI445.out)) hb); have n3_ := Aside0.mk (blk_below (g := gb451) (o := .cells #[.int .i64 t446, .int .i64 t447, .int .i64 t448, .int .u64 t449] 28 (0, 0)) (by (with_reducible repeat (first | refine blk_drewN ?_ _ | refine blk_drew ?_ | refine blk_alloc ?_ _)); exact BK451.out) hb); have n4_ := Aside0.mk (below_step (by repeat (first | (with_reducible first | exact HB.out | apply below_alloc | apply pw_below_drewN | apply below_drew1 | refine below_set ?_ (IsS25.ge HI445.out) | refine below_set ?_ GE451.out) | exact HB.out)) hb); clear HO454; clear HI445; clear BK451; clear HB; have HO454 := n0_; have HO458 := n1_; have HI445 := n2_; have BK451 := n3_; have HB := n4_; clear n0_ n1_ n2_ n3_ n4_; clear hb ho15)))
      go_loopg [9] k (fun kq v9 w' => ∃ (x8_1 : List Int) (x9_1 : Int), v9 = .int .i64 x9_1 ∧ Aside0 (stockyardlaw24_ChunkerEven.l0 kq a1 t452 x8_1 x9_1 t446 t447 t448 t449 = some r) ∧ Aside0 (kq ≤ k) ∧ Aside0 (Kd.R (Kd.int .u8) 5 w' w.heap.size (fun k_ => some k_ ≠ (v457 : Value).ownBlock) (.slice Ao13 t452.length co13) t452) ∧ Aside0 (Kd.R (Kd.int .u8) 5 w' w.heap.size (fun k_ => some k_ ≠ ((.slice Ao13 t452.length co13) : Value).ownBlock) v457 x8_1) ∧ Aside0 (w'.heap[gb451]? = some (.cells #[.int .i64 t446, .int .i64 t447, .int .i64 t448, .int .u64 t449] 28 (0, 0))) ∧ Aside0 (Below w.heap.size w w'))
      case atStart => exact ⟨(y456), (0), (by first | rfl | (simp; done) | (simp [*]; done)), H', ⟨Nat.le_refl _⟩, ⟨by (with_reducible repeat (first | apply Kd.R_alloc | apply Kd.R_drewN | apply Kd.R_drew)); exact Kd.R_mono HO454.out (fun _ hk => hk.2)⟩, ⟨by (with_reducible repeat (first | apply Kd.R_alloc | apply Kd.R_drewN | apply Kd.R_drew)); exact Kd.R_mono HO458.out (fun _ hk => hk.2)⟩, ⟨by (with_reducible repeat (first | refine blk_drewN ?_ _ | refine blk_drew ?_ | refine blk_alloc ?_ _)); exact BK451.out⟩, ⟨by repeat (first | (with_reducible first | exact HB.out | apply below_alloc | apply pw_below_drewN | apply below_drew1 | refine below_set ?_ (IsS25.ge HI445.out) | refine below_set ?_ GE451.out) | exact HB.out)⟩⟩
      case round =>
        clear H'
        try clear c1
        try clear p2
        try clear c5
        try clear c5b0
        try clear c5b1
        try clear c6
        try clear c6b0
        try clear c6b1
        try clear c10
        try clear hcz11_0
        try clear hcz11_1
        try clear hcz11_2
        try clear hcz11_3
        try clear hfz11_0
        try clear hfz11_1
        try clear hfz11_2
        try clear hfz11_3
        obtain ⟨x8_1, x9_1, rfl, HA, HK1, HO_7, HO_8, BK451, HB⟩ := hrel
        cases gk with
        | zero => exact absurd HA.out (by simp [stockyardlaw24_ChunkerEven.l0])
        | succ k1 =>
          have H := HA.out
          clear HA
          simp only [stockyardlaw24_ChunkerEven.l0] at H
          by_cases c16 : x9_1 < (x8_1.length : Int)
          · rw [if_pos c16] at H
            have c16b0 : decide (x9_1 < (x8_1.length : Int)) = true := decide_eq_true c16
            clear c16
            by_cases c17 : 0 ≤ x9_1
            · rw [if_pos c17] at H
              have c17b0 : decide (0 ≤ x9_1) = true := decide_eq_true c17
              clear c17
              obtain ⟨y459, hy459⟩ : ∃ y_ : List Int, y_ = (x8_1.set (x9_1 : Int).toNat a1) := ⟨_, rfl⟩
              replace H : (stockyardlaw24_ChunkerEven.l0 k1 a1 t452 y459 (wrap64 (x9_1 + 1)) t446 t447 t448 t449) = some r := by first | (rw [hy459]; with_reducible exact H) | (have H2_ := (Option.bind_some _ _).symm.trans H; rw [hy459]; with_reducible exact H2_) | (have H2_ := (Option.bind_some _ _).symm.trans H; with_reducible exact H2_) | with_reducible exact H | (rw [hy459]; exact H) | exact H
              have Ny459 := Aside0.mk hy459
              clear hy459
              have H' := Aside0.mk H
              clear H
              obtain ⟨Ao19, co19, eo19⟩ := Kd.R_slice HO_8.out
              subst eo19
              have p18 : 0 ≤ (x9_1 : Int) := of_decide_eq_true (by first | (with_reducible assumption) | assumption)
              have q18 : (x9_1 : Int) < ((x8_1.length : Int) : Int) := of_decide_eq_true (by first | (with_reducible assumption) | assumption)
              obtain ⟨go18, co18, eo18, gb18, gl18, cl18, HG18⟩ := Kd.R_form HO_8.out (by omega)
              (first | cases eo18 | (injection eo18 with ea_ en_ ec_; (first | subst ea_ | (injection ea_ with ea_; subst ea_)); subst ec_; clear en_))
              have GB18 := Aside0.mk gb18
              have GG18 := Aside0.mk HG18
              clear gb18 gl18 HG18
              obtain ⟨hx18_0, hf18_0⟩ := Kd.R_celln 0 HO_8.out (x9_1 : Int) p18 q18
              replace p18 := eq_true p18
              replace q18 := eq_true q18
              have HP20 := Kd.R_putg HO_8.out (x9_1 : Int) a1
              go_wp2_with (first | ((with_reducible refine gate_store (t := 5) (p := 35) rfl ?_); (try (rw [drewN_self wr]; generalize hq_ : World.drewN wr _ = wr; have n0_ := Aside0.mk (Kd.R_at hq_ HO_7.out); have n1_ := Aside0.mk (Kd.R_at hq_ HO_8.out); have n2_ := Aside0.mk (blk_at hq_ BK451.out); have n3_ := Aside0.mk (below_at hq_ HB.out); clear hq_ HO_7 HO_8 BK451 HB; have HO_7 := n0_; have HO_8 := n1_; have BK451 := n2_; have HB := n3_; clear n0_ n1_ n2_ n3_; (try (have HP20 := Kd.R_putg HO_8.out (x9_1 : Int) a1)))); refine store_event (t := 5) (p := 35) (v := ?vo_w21) (w1 := (wr.setCell ⟨go18, (x9_1 : Int).toNat, none⟩ (.int .u8 a1))) ?hg ?ho ?hn ?hr ?_; (case ho => rfl); (case hg => rfl); (case hn => rfl); (case hr => first | (go_simp; done) | (go_simp; rfl)); intro w21 hw; have hg : wr.grownBy w21 (some go18) := (by rw [hw]; exact HP20.2); have hp_ : Kd.R (Kd.int .u8) 5 w21 w.heap.size (fun k_ => some k_ ≠ (.slice Ao13 t452.length co13 : Value).ownBlock) (.slice (some ⟨go18, 0, none⟩) x8_1.length co19) y459 := (by rw [hw, Ny459.out]; exact HP20.1); clear HP20; have n0_ := Aside0.mk (Kd.R_after (v := (.slice (some ⟨go18, 0, none⟩) x8_1.length co19)) (v1 := (.slice (some ⟨go18, 0, none⟩) x8_1.length co19)) (ok := (fun _ => True)) (by (with_reducible repeat (first | apply Kd.R_alloc | apply Kd.R_drewN | apply Kd.R_drew)); exact Kd.R_mono HO_7.out (fun _ hk => ⟨trivial, hk⟩)) hg (.inl rfl)); have n1_ := Aside0.mk (hp_); have n2_ := Aside0.mk (blk_grown (g := gb451) (o := .cells #[.int .i64 t446, .int .i64 t447, .int .i64 t448, .int .u64 t449] 28 (0, 0)) (by (with_reducible repeat (first | refine blk_drewN ?_ _ | refine blk_drew ?_ | refine blk_alloc ?_ _)); exact BK451.out) hg (Kd.R_ne HO_8.out BK451.out (by decide))); have n3_ := Aside0.mk ((by rw [hw]; exact below_set (HB.out) GB18.out : Below w.heap.size w w21)); clear HO_7; clear HO_8; clear BK451; clear HB; have HO_7 := n0_; have HO_8 := n1_; have BK451 := n2_; have HB := n3_; clear n0_ n1_ n2_ n3_; clear hg hw hp_))
              repeat (go_quiet (first | ((with_reducible refine gate_store (t := 5) (p := 35) rfl ?_); (try (rw [drewN_self wr]; generalize hq_ : World.drewN wr _ = wr; have n0_ := Aside0.mk (Kd.R_at hq_ HO_7.out); have n1_ := Aside0.mk (Kd.R_at hq_ HO_8.out); have n2_ := Aside0.mk (blk_at hq_ BK451.out); have n3_ := Aside0.mk (below_at hq_ HB.out); clear hq_ HO_7 HO_8 BK451 HB; have HO_7 := n0_; have HO_8 := n1_; have BK451 := n2_; have HB := n3_; clear n0_ n1_ n2_ n3_; (try (have HP20 := Kd.R_putg HO_8.out (x9_1 : Int) a1)))); refine store_event (t := 5) (p := 35) (v := ?vo_w21) (w1 := (wr.setCell ⟨go18, (x9_1 : Int).toNat, none⟩ (.int .u8 a1))) ?hg ?ho ?hn ?hr ?_; (case ho => rfl); (case hg => rfl); (case hn => rfl); (case hr => first | (go_simp; done) | (go_simp; rfl)); intro w21 hw; have hg : wr.grownBy w21 (some go18) := (by rw [hw]; exact HP20.2); have hp_ : Kd.R (Kd.int .u8) 5 w21 w.heap.size (fun k_ => some k_ ≠ (.slice Ao13 t452.length co13 : Value).ownBlock) (.slice (some ⟨go18, 0, none⟩) x8_1.length co19) y459 := (by rw [hw, Ny459.out]; exact HP20.1); clear HP20; have n0_ := Aside0.mk (Kd.R_after (v := (.slice (some ⟨go18, 0, none⟩) x8_1.length co19)) (v1 := (.slice (some ⟨go18, 0, none⟩) x8_1.length co19)) (ok := (fun _ => True)) (by (with_reducible repeat (first | apply Kd.R_alloc | apply Kd.R_drewN | apply Kd.R_drew)); exact Kd.R_mono HO_7.out (fun _ hk => ⟨trivial, hk⟩)) hg (.inl rfl)); have n1_ := Aside0.mk (hp_); have n2_ := Aside0.mk (blk_grown (g := gb451) (o := .cells #[.int .i64 t446, .int .i64 t447, .int .i64 t448, .int .u64 t449] 28 (0, 0)) (by (with_reducible repeat (first | refine blk_drewN ?_ _ | refine blk_drew ?_ | refine blk_alloc ?_ _)); exact BK451.out) hg (Kd.R_ne HO_8.out BK451.out (by decide))); have n3_ := Aside0.mk ((by rw [hw]; exact below_set (HB.out) GB18.out : Below w.heap.size w w21)); clear HO_7; clear HO_8; clear BK451; clear HB; have HO_7 := n0_; have HO_8 := n1_; have BK451 := n2_; have HB := n3_; clear n0_ n1_ n2_ n3_; clear hg hw hp_)); try go_wp2_with (first | ((with_reducible refine gate_store (t := 5) (p := 35) rfl ?_); (try (rw [drewN_self wr]; generalize hq_ : World.drewN wr _ = wr; have n0_ := Aside0.mk (Kd.R_at hq_ HO_7.out); have n1_ := Aside0.mk (Kd.R_at hq_ HO_8.out); have n2_ := Aside0.mk (blk_at hq_ BK451.out); have n3_ := Aside0.mk (below_at hq_ HB.out); clear hq_ HO_7 HO_8 BK451 HB; have HO_7 := n0_; have HO_8 := n1_; have BK451 := n2_; have HB := n3_; clear n0_ n1_ n2_ n3_; (try (have HP20 := Kd.R_putg HO_8.out (x9_1 : Int) a1)))); refine store_event (t := 5) (p := 35) (v := ?vo_w21) (w1 := (wr.setCell ⟨go18, (x9_1 : Int).toNat, none⟩ (.int .u8 a1))) ?hg ?ho ?hn ?hr ?_; (case ho => rfl); (case hg => rfl); (case hn => rfl); (case hr => first | (go_simp; done) | (go_simp; rfl)); intro w21 hw; have hg : wr.grownBy w21 (some go18) := (by rw [hw]; exact HP20.2); have hp_ : Kd.R (Kd.int .u8) 5 w21 w.heap.size (fun k_ => some k_ ≠ (.slice Ao13 t452.length co13 : Value).ownBlock) (.slice (some ⟨go18, 0, none⟩) x8_1.length co19) y459 := (by rw [hw, Ny459.out]; exact HP20.1); clear HP20; have n0_ := Aside0.mk (Kd.R_after (v := (.slice (some ⟨go18, 0, none⟩) x8_1.length co19)) (v1 := (.slice (some ⟨go18, 0, none⟩) x8_1.length co19)) (ok := (fun _ => True)) (by (with_reducible repeat (first | apply Kd.R_alloc | apply Kd.R_drewN | apply Kd.R_drew)); exact Kd.R_mono HO_7.out (fun _ hk => ⟨trivial, hk⟩)) hg (.inl rfl)); have n1_ := Aside0.mk (hp_); have n2_ := Aside0.mk (blk_grown (g := gb451) (o := .cells #[.int .i64 t446, .int .i64 t447, .int .i64 t448, .int .u64 t449] 28 (0, 0)) (by (with_reducible repeat (first | refine blk_drewN ?_ _ | refine blk_drew ?_ | refine blk_alloc ?_ _)); exact BK451.out) hg (Kd.R_ne HO_8.out BK451.out (by decide))); have n3_ := Aside0.mk ((by rw [hw]; exact below_set (HB.out) GB18.out : Below w.heap.size w w21)); clear HO_7; clear HO_8; clear BK451; clear HB; have HO_7 := n0_; have HO_8 := n1_; have BK451 := n2_; have HB := n3_; clear n0_ n1_ n2_ n3_; clear hg hw hp_)))
              go_roundg k1
              case measure => have := HK1.out; omega
              case rel => exact ⟨(y459), (wrap64 (x9_1 + 1)), (by first | rfl | (simp; done) | (simp [*]; done)), H', ⟨by have := HK1.out; omega⟩, ⟨by (with_reducible repeat (first | apply Kd.R_alloc | apply Kd.R_drewN | apply Kd.R_drew)); exact Kd.R_mono HO_7.out (fun _ hk => hk.2)⟩, ⟨by (with_reducible repeat (first | apply Kd.R_alloc | apply Kd.R_drewN | apply Kd.R_drew)); exact HO_8.out⟩, ⟨by (with_reducible repeat (first | refine blk_drewN ?_ _ | refine blk_drew ?_ | refine blk_alloc ?_ _)); exact BK451.out⟩, ⟨by repeat (first | (with_reducible first | exact HB.out | apply below_alloc | apply pw_below_drewN | apply below_drew1 | refine below_set ?_ GE451.out) | exact HB.out)⟩⟩
            · rw [if_neg c17] at H
              exact absurd H (by simp)
          · rw [if_neg c16] at H
            have c16b0 : decide (x9_1 < (x8_1.length : Int)) = false := decide_eq_false c16
            clear c16
            replace H := Option.bind_eq_some_iff.mp H
            obtain ⟨⟨t460, t463⟩, A220, H⟩ := H
            replace H : ((chunker_Split.f k1 t446 t447 t448 t449 x8_1).bind fun bt464 => ((stockyardlaw24_known.f k1).bind fun t468 => (if t468 = true then (if t463 = 0 then (stockyardlaw24_ChunkerEven.j1 k1 t460 bt464.1 (bt464.2 != 0) t446 t447 t448 t449) else (stockyardlaw24_ChunkerEven.j1 k1 t460 bt464.1 true t446 t447 t448 t449)) else (stockyardlaw24_ChunkerEven.j1 k1 t460 bt464.1 true t446 t447 t448 t449)))) = some r := H
            have A22 := Aside0.mk A220
            clear A220
            replace H := Option.bind_eq_some_iff.mp H
            obtain ⟨⟨t464, t467⟩, A230, H⟩ := H
            replace H : ((stockyardlaw24_known.f k1).bind fun t468 => (if t468 = true then (if t463 = 0 then (stockyardlaw24_ChunkerEven.j1 k1 t460 t464 (t467 != 0) t446 t447 t448 t449) else (stockyardlaw24_ChunkerEven.j1 k1 t460 t464 true t446 t447 t448 t449)) else (stockyardlaw24_ChunkerEven.j1 k1 t460 t464 true t446 t447 t448 t449))) = some r := H
            have A23 := Aside0.mk A230
            clear A230
            have HC24 := Aside0.mk H
            clear H
            obtain ⟨Ao25, co25, eo25⟩ := Kd.R_slice HO_8.out
            subst eo25
            have hcz26_0 : wr.cell? ⟨gb451, 0, none⟩ = some (.int .i64 t446) := (blk_cell BK451.out 0).trans rfl
            have hcz26_1 : wr.cell? ⟨gb451, 1, none⟩ = some (.int .i64 t447) := (blk_cell BK451.out 1).trans rfl
            have hcz26_2 : wr.cell? ⟨gb451, 2, none⟩ = some (.int .i64 t448) := (blk_cell BK451.out 2).trans rfl
            have hcz26_3 : wr.cell? ⟨gb451, 3, none⟩ = some (.int .u64 t449) := (blk_cell BK451.out 3).trans rfl
            have hfz26_0 := blk_frozen BK451.out 0
            have hfz26_1 := blk_frozen BK451.out 1
            have hfz26_2 := blk_frozen BK451.out 2
            have hfz26_3 := blk_frozen BK451.out 3
            go_upto_region 11 with (first | (go_at_call 22; (with_reducible refine (chunker_Split.calls k1 t446 t447 t448 0 _ _ t452 t460 t463 _ ?side1 ?side2 A22.out).mono ?_); (case side1 => repeat (first | exact (Kd.R_reads' HO_7.out).2.2 | (with_reducible refine Kd.C_alloc ?_ _) | (with_reducible refine Kd.C_drewN ?_ _) | (with_reducible refine Kd.C_drew ?_))); (case side2 => exact (Kd.R_reads' HO_7.out).2.1); rintro e w27 ⟨v461, rfl, ho0, hb⟩; have n0_ := Aside0.mk (Kd.R_below (by (with_reducible repeat (first | apply Kd.R_alloc | apply Kd.R_drewN | apply Kd.R_drew)); exact HO_7.out) hb); have n1_ := Aside0.mk (Kd.R_below (by (with_reducible repeat (first | apply Kd.R_alloc | apply Kd.R_drewN | apply Kd.R_drew)); exact HO_8.out) hb); have n2_ := Aside0.mk (Kd.S_lower (Kd.S_new' (Kd.S_new' ho0 (Kd.R_lt (by (with_reducible repeat (first | apply Kd.R_alloc | apply Kd.R_drewN | apply Kd.R_drew)); exact HO_7.out))) (Kd.R_lt (by (with_reducible repeat (first | apply Kd.R_alloc | apply Kd.R_drewN | apply Kd.R_drew)); exact HO_8.out))) (below_size (by repeat (first | (with_reducible first | exact HB.out | apply below_alloc | apply pw_below_drewN | apply below_drew1 | refine below_set ?_ GE451.out) | exact HB.out)))); have n3_ := Aside0.mk (blk_below (g := gb451) (o := .cells #[.int .i64 t446, .int .i64 t447, .int .i64 t448, .int .u64 t449] 28 (0, 0)) (by (with_reducible repeat (first | refine blk_drewN ?_ _ | refine blk_drew ?_ | refine blk_alloc ?_ _)); exact BK451.out) hb); have n4_ := Aside0.mk (below_step (by repeat (first | (with_reducible first | exact HB.out | apply below_alloc | apply pw_below_drewN | apply below_drew1 | refine below_set ?_ GE451.out) | exact HB.out)) hb); clear HO_7; clear HO_8; clear BK451; clear HB; have HO_7 := n0_; have HO_8 := n1_; have HO462 := n2_; have BK451 := n3_; have HB := n4_; clear n0_ n1_ n2_ n3_ n4_; (try clear hb); (try clear hb2); (try clear hk); (try clear hi); (try clear ho0); have hcz28_0 : w27.cell? ⟨gb451, 0, none⟩ = some (.int .i64 t446) := (blk_cell BK451.out 0).trans rfl; have hcz28_1 : w27.cell? ⟨gb451, 1, none⟩ = some (.int .i64 t447) := (blk_cell BK451.out 1).trans rfl; have hcz28_2 : w27.cell? ⟨gb451, 2, none⟩ = some (.int .i64 t448) := (blk_cell BK451.out 2).trans rfl; have hcz28_3 : w27.cell? ⟨gb451, 3, none⟩ = some (.int .u64 t449) := (blk_cell BK451.out 3).trans rfl; have hfz28_0 := blk_frozen BK451.out 0; have hfz28_1 := blk_frozen BK451.out 1; have hfz28_2 := blk_frozen BK451.out 2; have hfz28_3 := blk_frozen BK451.out 3) | (go_at_call 22; (with_reducible refine (chunker_Split.calls k1 t446 t447 t448 t449 _ _ x8_1 t464 t467 _ ?side1 ?side2 A23.out).mono ?_); (case side1 => repeat (first | exact (Kd.R_reads' HO_8.out).2.2 | (with_reducible refine Kd.C_alloc ?_ _) | (with_reducible refine Kd.C_drewN ?_ _) | (with_reducible refine Kd.C_drew ?_))); (case side2 => exact (Kd.R_reads' HO_8.out).2.1); rintro e w29 ⟨v465, rfl, ho0, hb⟩; have n0_ := Aside0.mk (Kd.R_below (by (with_reducible repeat (first | apply Kd.R_alloc | apply Kd.R_drewN | apply Kd.R_drew)); exact HO_7.out) hb); have n1_ := Aside0.mk (Kd.R_below (by (with_reducible repeat (first | apply Kd.R_alloc | apply Kd.R_drewN | apply Kd.R_drew)); exact HO_8.out) hb); have n2_ := Aside0.mk (Kd.S_elder' (by (with_reducible repeat (first | apply Kd.S_alloc | apply Kd.S_drewN | apply Kd.S_drew)); exact HO462.out) (Kd.S_base ho0) hb); have n3_ := Aside0.mk (Kd.S_lower (Kd.S_new' (Kd.S_new' (Kd.S_new' ho0 (Kd.R_lt (by (with_reducible repeat (first | apply Kd.R_alloc | apply Kd.R_drewN | apply Kd.R_drew)); exact HO_7.out))) (Kd.R_lt (by (with_reducible repeat (first | apply Kd.R_alloc | apply Kd.R_drewN | apply Kd.R_drew)); exact HO_8.out))) (Kd.S_lt (by (with_reducible repeat (first | apply Kd.S_alloc | apply Kd.S_drewN | apply Kd.S_drew)); exact HO462.out))) (below_size (by repeat (first | (with_reducible first | exact HB.out | apply below_alloc | apply pw_below_drewN | apply below_drew1 | refine below_set ?_ GE451.out) | exact HB.out)))); have n4_ := Aside0.mk (blk_below (g := gb451) (o := .cells #[.int .i64 t446, .int .i64 t447, .int .i64 t448, .int .u64 t449] 28 (0, 0)) (by (with_reducible repeat (first | refine blk_drewN ?_ _ | refine blk_drew ?_ | refine blk_alloc ?_ _)); exact BK451.out) hb); have n5_ := Aside0.mk (below_step (by repeat (first | (with_reducible first | exact HB.out | apply below_alloc | apply pw_below_drewN | apply below_drew1 | refine below_set ?_ GE451.out) | exact HB.out)) hb); clear HO_7; clear HO_8; clear HO462; clear BK451; clear HB; have HO_7 := n0_; have HO_8 := n1_; have HO462 := n2_; have HO466 := n3_; have BK451 := n4_; have HB := n5_; clear n0_ n1_ n2_ n3_ n4_ n5_; (try clear hb); (try clear hb2); (try clear hk); (try clear hi); (try clear ho0)))
            repeat (go_quiet (first | (go_at_call 22; (with_reducible refine (chunker_Split.calls k1 t446 t447 t448 0 _ _ t452 t460 t463 _ ?side1 ?side2 A22.out).mono ?_); (case side1 => repeat (first | exact (Kd.R_reads' HO_7.out).2.2 | (with_reducible refine Kd.C_alloc ?_ _) | (with_reducible refine Kd.C_drewN ?_ _) | (with_reducible refine Kd.C_drew ?_))); (case side2 => exact (Kd.R_reads' HO_7.out).2.1); rintro e w27 ⟨v461, rfl, ho0, hb⟩; have n0_ := Aside0.mk (Kd.R_below (by (with_reducible repeat (first | apply Kd.R_alloc | apply Kd.R_drewN | apply Kd.R_drew)); exact HO_7.out) hb); have n1_ := Aside0.mk (Kd.R_below (by (with_reducible repeat (first | apply Kd.R_alloc | apply Kd.R_drewN | apply Kd.R_drew)); exact HO_8.out) hb); have n2_ := Aside0.mk (Kd.S_lower (Kd.S_new' (Kd.S_new' ho0 (Kd.R_lt (by (with_reducible repeat (first | apply Kd.R_alloc | apply Kd.R_drewN | apply Kd.R_drew)); exact HO_7.out))) (Kd.R_lt (by (with_reducible repeat (first | apply Kd.R_alloc | apply Kd.R_drewN | apply Kd.R_drew)); exact HO_8.out))) (below_size (by repeat (first | (with_reducible first | exact HB.out | apply below_alloc | apply pw_below_drewN | apply below_drew1 | refine below_set ?_ GE451.out) | exact HB.out)))); have n3_ := Aside0.mk (blk_below (g := gb451) (o := .cells #[.int .i64 t446, .int .i64 t447, .int .i64 t448, .int .u64 t449] 28 (0, 0)) (by (with_reducible repeat (first | refine blk_drewN ?_ _ | refine blk_drew ?_ | refine blk_alloc ?_ _)); exact BK451.out) hb); have n4_ := Aside0.mk (below_step (by repeat (first | (with_reducible first | exact HB.out | apply below_alloc | apply pw_below_drewN | apply below_drew1 | refine below_set ?_ GE451.out) | exact HB.out)) hb); clear HO_7; clear HO_8; clear BK451; clear HB; have HO_7 := n0_; have HO_8 := n1_; have HO462 := n2_; have BK451 := n3_; have HB := n4_; clear n0_ n1_ n2_ n3_ n4_; (try clear hb); (try clear hb2); (try clear hk); (try clear hi); (try clear ho0); have hcz28_0 : w27.cell? ⟨gb451, 0, none⟩ = some (.int .i64 t446) := (blk_cell BK451.out 0).trans rfl; have hcz28_1 : w27.cell? ⟨gb451, 1, none⟩ = some (.int .i64 t447) := (blk_cell BK451.out 1).trans rfl; have hcz28_2 : w27.cell? ⟨gb451, 2, none⟩ = some (.int .i64 t448) := (blk_cell BK451.out 2).trans rfl; have hcz28_3 : w27.cell? ⟨gb451, 3, none⟩ = some (.int .u64 t449) := (blk_cell BK451.out 3).trans rfl; have hfz28_0 := blk_frozen BK451.out 0; have hfz28_1 := blk_frozen BK451.out 1; have hfz28_2 := blk_frozen BK451.out 2; have hfz28_3 := blk_frozen BK451.out 3) | (go_at_call 22; (with_reducible refine (chunker_Split.calls k1 t446 t447 t448 t449 _ _ x8_1 t464 t467 _ ?side1 ?side2 A23.out).mono ?_); (case side1 => repeat (first | exact (Kd.R_reads' HO_8.out).2.2 | (with_reducible refine Kd.C_alloc ?_ _) | (with_reducible refine Kd.C_drewN ?_ _) | (with_reducible refine Kd.C_drew ?_))); (case side2 => exact (Kd.R_reads' HO_8.out).2.1); rintro e w29 ⟨v465, rfl, ho0, hb⟩; have n0_ := Aside0.mk (Kd.R_below (by (with_reducible repeat (first | apply Kd.R_alloc | apply Kd.R_drewN | apply Kd.R_drew)); exact HO_7.out) hb); have n1_ := Aside0.mk (Kd.R_below (by (with_reducible repeat (first | apply Kd.R_alloc | apply Kd.R_drewN | apply Kd.R_drew)); exact HO_8.out) hb); have n2_ := Aside0.mk (Kd.S_elder' (by (with_reducible repeat (first | apply Kd.S_alloc | apply Kd.S_drewN | apply Kd.S_drew)); exact HO462.out) (Kd.S_base ho0) hb); have n3_ := Aside0.mk (Kd.S_lower (Kd.S_new' (Kd.S_new' (Kd.S_new' ho0 (Kd.R_lt (by (with_reducible repeat (first | apply Kd.R_alloc | apply Kd.R_drewN | apply Kd.R_drew)); exact HO_7.out))) (Kd.R_lt (by (with_reducible repeat (first | apply Kd.R_alloc | apply Kd.R_drewN | apply Kd.R_drew)); exact HO_8.out))) (Kd.S_lt (by (with_reducible repeat (first | apply Kd.S_alloc | apply Kd.S_drewN | apply Kd.S_drew)); exact HO462.out))) (below_size (by repeat (first | (with_reducible first | exact HB.out | apply below_alloc | apply pw_below_drewN | apply below_drew1 | refine below_set ?_ GE451.out) | exact HB.out)))); have n4_ := Aside0.mk (blk_below (g := gb451) (o := .cells #[.int .i64 t446, .int .i64 t447, .int .i64 t448, .int .u64 t449] 28 (0, 0)) (by (with_reducible repeat (first | refine blk_drewN ?_ _ | refine blk_drew ?_ | refine blk_alloc ?_ _)); exact BK451.out) hb); have n5_ := Aside0.mk (below_step (by repeat (first | (with_reducible first | exact HB.out | apply below_alloc | apply pw_below_drewN | apply below_drew1 | refine below_set ?_ GE451.out) | exact HB.out)) hb); clear HO_7; clear HO_8; clear HO462; clear BK451; clear HB; have HO_7 := n0_; have HO_8 := n1_; have HO462 := n2_; have HO466 := n3_; have BK451 := n4_; have HB := n5_; clear n0_ n1_ n2_ n3_ n4_ n5_; (try clear hb); (try clear hb2); (try clear hk); (try clear hi); (try clear ho0))); go_upto_region 11 with (first | (go_at_call 22; (with_reducible refine (chunker_Split.calls k1 t446 t447 t448 0 _ _ t452 t460 t463 _ ?side1 ?side2 A22.out).mono ?_); (case side1 => repeat (first | exact (Kd.R_reads' HO_7.out).2.2 | (with_reducible refine Kd.C_alloc ?_ _) | (with_reducible refine Kd.C_drewN ?_ _) | (with_reducible refine Kd.C_drew ?_))); (case side2 => exact (Kd.R_reads' HO_7.out).2.1); rintro e w27 ⟨v461, rfl, ho0, hb⟩; have n0_ := Aside0.mk (Kd.R_below (by (with_reducible repeat (first | apply Kd.R_alloc | apply Kd.R_drewN | apply Kd.R_drew)); exact HO_7.out) hb); have n1_ := Aside0.mk (Kd.R_below (by (with_reducible repeat (first | apply Kd.R_alloc | apply Kd.R_drewN | apply Kd.R_drew)); exact HO_8.out) hb); have n2_ := Aside0.mk (Kd.S_lower (Kd.S_new' (Kd.S_new' ho0 (Kd.R_lt (by (with_reducible repeat (first | apply Kd.R_alloc | apply Kd.R_drewN | apply Kd.R_drew)); exact HO_7.out))) (Kd.R_lt (by (with_reducible repeat (first | apply Kd.R_alloc | apply Kd.R_drewN | apply Kd.R_drew)); exact HO_8.out))) (below_size (by repeat (first | (with_reducible first | exact HB.out | apply below_alloc | apply pw_below_drewN | apply below_drew1 | refine below_set ?_ GE451.out) | exact HB.out)))); have n3_ := Aside0.mk (blk_below (g := gb451) (o := .cells #[.int .i64 t446, .int .i64 t447, .int .i64 t448, .int .u64 t449] 28 (0, 0)) (by (with_reducible repeat (first | refine blk_drewN ?_ _ | refine blk_drew ?_ | refine blk_alloc ?_ _)); exact BK451.out) hb); have n4_ := Aside0.mk (below_step (by repeat (first | (with_reducible first | exact HB.out | apply below_alloc | apply pw_below_drewN | apply below_drew1 | refine below_set ?_ GE451.out) | exact HB.out)) hb); clear HO_7; clear HO_8; clear BK451; clear HB; have HO_7 := n0_; have HO_8 := n1_; have HO462 := n2_; have BK451 := n3_; have HB := n4_; clear n0_ n1_ n2_ n3_ n4_; (try clear hb); (try clear hb2); (try clear hk); (try clear hi); (try clear ho0); have hcz28_0 : w27.cell? ⟨gb451, 0, none⟩ = some (.int .i64 t446) := (blk_cell BK451.out 0).trans rfl; have hcz28_1 : w27.cell? ⟨gb451, 1, none⟩ = some (.int .i64 t447) := (blk_cell BK451.out 1).trans rfl; have hcz28_2 : w27.cell? ⟨gb451, 2, none⟩ = some (.int .i64 t448) := (blk_cell BK451.out 2).trans rfl; have hcz28_3 : w27.cell? ⟨gb451, 3, none⟩ = some (.int .u64 t449) := (blk_cell BK451.out 3).trans rfl; have hfz28_0 := blk_frozen BK451.out 0; have hfz28_1 := blk_frozen BK451.out 1; have hfz28_2 := blk_frozen BK451.out 2; have hfz28_3 := blk_frozen BK451.out 3) | (go_at_call 22; (with_reducible refine (chunker_Split.calls k1 t446 t447 t448 t449 _ _ x8_1 t464 t467 _ ?side1 ?side2 A23.out).mono ?_); (case side1 => repeat (first | exact (Kd.R_reads' HO_8.out).2.2 | (with_reducible refine Kd.C_alloc ?_ _) | (with_reducible refine Kd.C_drewN ?_ _) | (with_reducible refine Kd.C_drew ?_))); (case side2 => exact (Kd.R_reads' HO_8.out).2.1); rintro e w29 ⟨v465, rfl, ho0, hb⟩; have n0_ := Aside0.mk (Kd.R_below (by (with_reducible repeat (first | apply Kd.R_alloc | apply Kd.R_drewN | apply Kd.R_drew)); exact HO_7.out) hb); have n1_ := Aside0.mk (Kd.R_below (by (with_reducible repeat (first | apply Kd.R_alloc | apply Kd.R_drewN | apply Kd.R_drew)); exact HO_8.out) hb); have n2_ := Aside0.mk (Kd.S_elder' (by (with_reducible repeat (first | apply Kd.S_alloc | apply Kd.S_drewN | apply Kd.S_drew)); exact HO462.out) (Kd.S_base ho0) hb); have n3_ := Aside0.mk (Kd.S_lower (Kd.S_new' (Kd.S_new' (Kd.S_new' ho0 (Kd.R_lt (by (with_reducible repeat (first | apply Kd.R_alloc | apply Kd.R_drewN | apply Kd.R_drew)); exact HO_7.out))) (Kd.R_lt (by (with_reducible repeat (first | apply Kd.R_alloc | apply Kd.R_drewN | apply Kd.R_drew)); exact HO_8.out))) (Kd.S_lt (by (with_reducible repeat (first | apply Kd.S_alloc | apply Kd.S_drewN | apply Kd.S_drew)); exact HO462.out))) (below_size (by repeat (first | (with_reducible first | exact HB.out | apply below_alloc | apply pw_below_drewN | apply below_drew1 | refine below_set ?_ GE451.out) | exact HB.out)))); have n4_ := Aside0.mk (blk_below (g := gb451) (o := .cells #[.int .i64 t446, .int .i64 t447, .int .i64 t448, .int .u64 t449] 28 (0, 0)) (by (with_reducible repeat (first | refine blk_drewN ?_ _ | refine blk_drew ?_ | refine blk_alloc ?_ _)); exact BK451.out) hb); have n5_ := Aside0.mk (below_step (by repeat (first | (with_reducible first | exact HB.out | apply below_alloc | apply pw_below_drewN | apply below_drew1 | refine below_set ?_ GE451.out) | exact HB.out)) hb); clear HO_7; clear HO_8; clear HO462; clear BK451; clear HB; have HO_7 := n0_; have HO_8 := n1_; have HO462 := n2_; have HO466 := n3_; have BK451 := n4_; have HB := n5_; clear n0_ n1_ n2_ n3_ n4_ n5_; (try clear hb); (try clear hb2); (try clear hk); (try clear hi); (try clear ho0))))
            (try simp only [Act.put, List.setIfInBounds_toArray, List.set_cons_zero, List.set_cons_succ])
            go_cut [63] (fun v63 wc => ∃ (kq : Nat) (x63_23 : Bool), v63 = .bool x63_23 ∧ Aside0 (stockyardlaw24_ChunkerEven.j1 kq t460 t464 x63_23 t446 t447 t448 t449 = some r) ∧ Aside0 (kq ≤ k1) ∧ Aside0 (Kd.S (Kd.slice 5 (Kd.int .u8)) 30 wc w.heap.size (fun k_ => some k_ ≠ (v465 : Value).ownBlock) v461 t460) ∧ Aside0 (Kd.S (Kd.slice 5 (Kd.int .u8)) 30 wc w.heap.size (fun k_ => some k_ ≠ (v461 : Value).ownBlock) v465 t464) ∧ Aside0 (wc.heap[gb451]? = some (.cells #[.int .i64 t446, .int .i64 t447, .int .i64 t448, .int .u64 t449] 28 (0, 0))) ∧ Aside0 (Below w.heap.size w wc))
            case first =>
              have H := HC24.out
              clear HC24
              replace H := Option.bind_eq_some_iff.mp H
              obtain ⟨t468, A300, H⟩ := H
              replace H : (if t468 = true then (if t463 = 0 then (stockyardlaw24_ChunkerEven.j1 k1 t460 t464 (t467 != 0) t446 t447 t448 t449) else (stockyardlaw24_ChunkerEven.j1 k1 t460 t464 true t446 t447 t448 t449)) else (stockyardlaw24_ChunkerEven.j1 k1 t460 t464 true t446 t447 t448 t449)) = some r := H
              have A30 := Aside0.mk A300
              clear A300
              by_cases c31 : t468 = true
              · subst c31
                have H1 : (if t463 = 0 then (stockyardlaw24_ChunkerEven.j1 k1 t460 t464 (t467 != 0) t446 t447 t448 t449) else (stockyardlaw24_ChunkerEven.j1 k1 t460 t464 true t446 t447 t448 t449)) = some r := by rw [if_pos rfl] at H; exact H
                clear H
                have H := H1
                clear H1
                by_cases c32 : t463 = 0
                · rw [if_pos c32] at H
                  have c32b0 : (t463 == 0) = true := beq_iff_eq.mpr c32
                  have c32b1 : (t463 != 0) = false := bne_eq_false_iff_eq.mpr c32
                  clear c32
                  (first | rw [c32b0] | (simp only [i64_w, i32_w]; rw [c32b0]) | skip)
                  have H' := Aside0.mk H
                  clear H
                  go_wp2_with (first | (go_at_call 17; (with_reducible refine (stockyardlaw24_known.calls k1  true _ A30.out).mono ?_); rintro e w33 ⟨rfl, hb⟩; have n0_ := Aside0.mk (Kd.R_below (by (with_reducible repeat (first | apply Kd.R_alloc | apply Kd.R_drewN | apply Kd.R_drew)); exact HO_7.out) hb); have n1_ := Aside0.mk (Kd.R_below (by (with_reducible repeat (first | apply Kd.R_alloc | apply Kd.R_drewN | apply Kd.R_drew)); exact HO_8.out) hb); have n2_ := Aside0.mk (Kd.S_below (by (with_reducible repeat (first | apply Kd.S_alloc | apply Kd.S_drewN | apply Kd.S_drew)); exact HO462.out) hb); have n3_ := Aside0.mk (Kd.S_below (by (with_reducible repeat (first | apply Kd.S_alloc | apply Kd.S_drewN | apply Kd.S_drew)); exact HO466.out) hb); have n4_ := Aside0.mk (blk_below (g := gb451) (o := .cells #[.int .i64 t446, .int .i64 t447, .int .i64 t448, .int .u64 t449] 28 (0, 0)) (by (with_reducible repeat (first | refine blk_drewN ?_ _ | refine blk_drew ?_ | refine blk_alloc ?_ _)); exact BK451.out) hb); have n5_ := Aside0.mk (below_step (by repeat (first | (with_reducible first | exact HB.out | apply below_alloc | apply pw_below_drewN | apply below_drew1 | refine below_set ?_ GE451.out) | exact HB.out)) hb); clear HO_7; clear HO_8; clear HO462; clear HO466; clear BK451; clear HB; have HO_7 := n0_; have HO_8 := n1_; have HO462 := n2_; have HO466 := n3_; have BK451 := n4_; have HB := n5_; clear n0_ n1_ n2_ n3_ n4_ n5_; (try clear hb); (try clear hb2); (try clear hk); (try clear hi)))
                  repeat (go_quiet (first | (go_at_call 17; (with_reducible refine (stockyardlaw24_known.calls k1  true _ A30.out).mono ?_); rintro e w33 ⟨rfl, hb⟩; have n0_ := Aside0.mk (Kd.R_below (by (with_reducible repeat (first | apply Kd.R_alloc | apply Kd.R_drewN | apply Kd.R_drew)); exact HO_7.out) hb); have n1_ := Aside0.mk (Kd.R_below (by (with_reducible repeat (first | apply Kd.R_alloc | apply Kd.R_drewN | apply Kd.R_drew)); exact HO_8.out) hb); have n2_ := Aside0.mk (Kd.S_below (by (with_reducible repeat (first | apply Kd.S_alloc | apply Kd.S_drewN | apply Kd.S_drew)); exact HO462.out) hb); have n3_ := Aside0.mk (Kd.S_below (by (with_reducible repeat (first | apply Kd.S_alloc | apply Kd.S_drewN | apply Kd.S_drew)); exact HO466.out) hb); have n4_ := Aside0.mk (blk_below (g := gb451) (o := .cells #[.int .i64 t446, .int .i64 t447, .int .i64 t448, .int .u64 t449] 28 (0, 0)) (by (with_reducible repeat (first | refine blk_drewN ?_ _ | refine blk_drew ?_ | refine blk_alloc ?_ _)); exact BK451.out) hb); have n5_ := Aside0.mk (below_step (by repeat (first | (with_reducible first | exact HB.out | apply below_alloc | apply pw_below_drewN | apply below_drew1 | refine below_set ?_ GE451.out) | exact HB.out)) hb); clear HO_7; clear HO_8; clear HO462; clear HO466; clear BK451; clear HB; have HO_7 := n0_; have HO_8 := n1_; have HO462 := n2_; have HO466 := n3_; have BK451 := n4_; have HB := n5_; clear n0_ n1_ n2_ n3_ n4_ n5_; (try clear hb); (try clear hb2); (try clear hk); (try clear hi))); try go_wp2_with (first | (go_at_call 17; (with_reducible refine (stockyardlaw24_known.calls k1  true _ A30.out).mono ?_); rintro e w33 ⟨rfl, hb⟩; have n0_ := Aside0.mk (Kd.R_below (by (with_reducible repeat (first | apply Kd.R_alloc | apply Kd.R_drewN | apply Kd.R_drew)); exact HO_7.out) hb); have n1_ := Aside0.mk (Kd.R_below (by (with_reducible repeat (first | apply Kd.R_alloc | apply Kd.R_drewN | apply Kd.R_drew)); exact HO_8.out) hb); have n2_ := Aside0.mk (Kd.S_below (by (with_reducible repeat (first | apply Kd.S_alloc | apply Kd.S_drewN | apply Kd.S_drew)); exact HO462.out) hb); have n3_ := Aside0.mk (Kd.S_below (by (with_reducible repeat (first | apply Kd.S_alloc | apply Kd.S_drewN | apply Kd.S_drew)); exact HO466.out) hb); have n4_ := Aside0.mk (blk_below (g := gb451) (o := .cells #[.int .i64 t446, .int .i64 t447, .int .i64 t448, .int .u64 t449] 28 (0, 0)) (by (with_reducible repeat (first | refine blk_drewN ?_ _ | refine blk_drew ?_ | refine blk_alloc ?_ _)); exact BK451.out) hb); have n5_ := Aside0.mk (below_step (by repeat (first | (with_reducible first | exact HB.out | apply below_alloc | apply pw_below_drewN | apply below_drew1 | refine below_set ?_ GE451.out) | exact HB.out)) hb); clear HO_7; clear HO_8; clear HO462; clear HO466; clear BK451; clear HB; have HO_7 := n0_; have HO_8 := n1_; have HO462 := n2_; have HO466 := n3_; have BK451 := n4_; have HB := n5_; clear n0_ n1_ n2_ n3_ n4_ n5_; (try clear hb); (try clear hb2); (try clear hk); (try clear hi))))
                  go_meet
                  case rel => exact ⟨_, ((t467 != 0)), (by first | rfl | (simp; done) | (simp [*]; done)), H', ⟨by have := HK1.out; first | omega | exact Nat.le_refl _⟩, ⟨by (with_reducible repeat (first | apply Kd.S_alloc | apply Kd.S_drewN | apply Kd.S_drew)); exact Kd.S_mono HO462.out (fun _ hk => hk.2)⟩, ⟨by (with_reducible repeat (first | apply Kd.S_alloc | apply Kd.S_drewN | apply Kd.S_drew)); exact Kd.S_mono HO466.out (fun _ hk => hk.2)⟩, ⟨by (with_reducible repeat (first | refine blk_drewN ?_ _ | refine blk_drew ?_ | refine blk_alloc ?_ _)); exact BK451.out⟩, ⟨by repeat (first | (with_reducible first | exact HB.out | apply below_alloc | apply pw_below_drewN | apply below_drew1 | refine below_set ?_ GE451.out) | exact HB.out)⟩⟩
                · rw [if_neg c32] at H
                  have c32b0 : (t463 == 0) = false := beq_eq_false_iff_ne.mpr c32
                  have c32b1 : (t463 != 0) = true := bne_iff_ne.mpr c32
                  (first | rw [c32b0] | (simp only [i64_w, i32_w]; rw [c32b0]) | skip)
                  have H' := Aside0.mk H
                  clear H
                  go_wp2_with (first | (go_at_call 17; (with_reducible refine (stockyardlaw24_known.calls k1  true _ A30.out).mono ?_); rintro e w34 ⟨rfl, hb⟩; have n0_ := Aside0.mk (Kd.R_below (by (with_reducible repeat (first | apply Kd.R_alloc | apply Kd.R_drewN | apply Kd.R_drew)); exact HO_7.out) hb); have n1_ := Aside0.mk (Kd.R_below (by (with_reducible repeat (first | apply Kd.R_alloc | apply Kd.R_drewN | apply Kd.R_drew)); exact HO_8.out) hb); have n2_ := Aside0.mk (Kd.S_below (by (with_reducible repeat (first | apply Kd.S_alloc | apply Kd.S_drewN | apply Kd.S_drew)); exact HO462.out) hb); have n3_ := Aside0.mk (Kd.S_below (by (with_reducible repeat (first | apply Kd.S_alloc | apply Kd.S_drewN | apply Kd.S_drew)); exact HO466.out) hb); have n4_ := Aside0.mk (blk_below (g := gb451) (o := .cells #[.int .i64 t446, .int .i64 t447, .int .i64 t448, .int .u64 t449] 28 (0, 0)) (by (with_reducible repeat (first | refine blk_drewN ?_ _ | refine blk_drew ?_ | refine blk_alloc ?_ _)); exact BK451.out) hb); have n5_ := Aside0.mk (below_step (by repeat (first | (with_reducible first | exact HB.out | apply below_alloc | apply pw_below_drewN | apply below_drew1 | refine below_set ?_ GE451.out) | exact HB.out)) hb); clear HO_7; clear HO_8; clear HO462; clear HO466; clear BK451; clear HB; have HO_7 := n0_; have HO_8 := n1_; have HO462 := n2_; have HO466 := n3_; have BK451 := n4_; have HB := n5_; clear n0_ n1_ n2_ n3_ n4_ n5_; (try clear hb); (try clear hb2); (try clear hk); (try clear hi)))
                  repeat (go_quiet (first | (go_at_call 17; (with_reducible refine (stockyardlaw24_known.calls k1  true _ A30.out).mono ?_); rintro e w34 ⟨rfl, hb⟩; have n0_ := Aside0.mk (Kd.R_below (by (with_reducible repeat (first | apply Kd.R_alloc | apply Kd.R_drewN | apply Kd.R_drew)); exact HO_7.out) hb); have n1_ := Aside0.mk (Kd.R_below (by (with_reducible repeat (first | apply Kd.R_alloc | apply Kd.R_drewN | apply Kd.R_drew)); exact HO_8.out) hb); have n2_ := Aside0.mk (Kd.S_below (by (with_reducible repeat (first | apply Kd.S_alloc | apply Kd.S_drewN | apply Kd.S_drew)); exact HO462.out) hb); have n3_ := Aside0.mk (Kd.S_below (by (with_reducible repeat (first | apply Kd.S_alloc | apply Kd.S_drewN | apply Kd.S_drew)); exact HO466.out) hb); have n4_ := Aside0.mk (blk_below (g := gb451) (o := .cells #[.int .i64 t446, .int .i64 t447, .int .i64 t448, .int .u64 t449] 28 (0, 0)) (by (with_reducible repeat (first | refine blk_drewN ?_ _ | refine blk_drew ?_ | refine blk_alloc ?_ _)); exact BK451.out) hb); have n5_ := Aside0.mk (below_step (by repeat (first | (with_reducible first | exact HB.out | apply below_alloc | apply pw_below_drewN | apply below_drew1 | refine below_set ?_ GE451.out) | exact HB.out)) hb); clear HO_7; clear HO_8; clear HO462; clear HO466; clear BK451; clear HB; have HO_7 := n0_; have HO_8 := n1_; have HO462 := n2_; have HO466 := n3_; have BK451 := n4_; have HB := n5_; clear n0_ n1_ n2_ n3_ n4_ n5_; (try clear hb); (try clear hb2); (try clear hk); (try clear hi))); try go_wp2_with (first | (go_at_call 17; (with_reducible refine (stockyardlaw24_known.calls k1  true _ A30.out).mono ?_); rintro e w34 ⟨rfl, hb⟩; have n0_ := Aside0.mk (Kd.R_below (by (with_reducible repeat (first | apply Kd.R_alloc | apply Kd.R_drewN | apply Kd.R_drew)); exact HO_7.out) hb); have n1_ := Aside0.mk (Kd.R_below (by (with_reducible repeat (first | apply Kd.R_alloc | apply Kd.R_drewN | apply Kd.R_drew)); exact HO_8.out) hb); have n2_ := Aside0.mk (Kd.S_below (by (with_reducible repeat (first | apply Kd.S_alloc | apply Kd.S_drewN | apply Kd.S_drew)); exact HO462.out) hb); have n3_ := Aside0.mk (Kd.S_below (by (with_reducible repeat (first | apply Kd.S_alloc | apply Kd.S_drewN | apply Kd.S_drew)); exact HO466.out) hb); have n4_ := Aside0.mk (blk_below (g := gb451) (o := .cells #[.int .i64 t446, .int .i64 t447, .int .i64 t448, .int .u64 t449] 28 (0, 0)) (by (with_reducible repeat (first | refine blk_drewN ?_ _ | refine blk_drew ?_ | refine blk_alloc ?_ _)); exact BK451.out) hb); have n5_ := Aside0.mk (below_step (by repeat (first | (with_reducible first | exact HB.out | apply below_alloc | apply pw_below_drewN | apply below_drew1 | refine below_set ?_ GE451.out) | exact HB.out)) hb); clear HO_7; clear HO_8; clear HO462; clear HO466; clear BK451; clear HB; have HO_7 := n0_; have HO_8 := n1_; have HO462 := n2_; have HO466 := n3_; have BK451 := n4_; have HB := n5_; clear n0_ n1_ n2_ n3_ n4_ n5_; (try clear hb); (try clear hb2); (try clear hk); (try clear hi))))
                  go_meet
                  case rel => exact ⟨_, (true), (by first | rfl | (simp; done) | (simp [*]; done)), H', ⟨by have := HK1.out; first | omega | exact Nat.le_refl _⟩, ⟨by (with_reducible repeat (first | apply Kd.S_alloc | apply Kd.S_drewN | apply Kd.S_drew)); exact Kd.S_mono HO462.out (fun _ hk => hk.2)⟩, ⟨by (with_reducible repeat (first | apply Kd.S_alloc | apply Kd.S_drewN | apply Kd.S_drew)); exact Kd.S_mono HO466.out (fun _ hk => hk.2)⟩, ⟨by (with_reducible repeat (first | refine blk_drewN ?_ _ | refine blk_drew ?_ | refine blk_alloc ?_ _)); exact BK451.out⟩, ⟨by repeat (first | (with_reducible first | exact HB.out | apply below_alloc | apply pw_below_drewN | apply below_drew1 | refine below_set ?_ GE451.out) | exact HB.out)⟩⟩
              · replace c31 := Bool.eq_false_iff.mpr c31
                subst c31
                have H1 : (stockyardlaw24_ChunkerEven.j1 k1 t460 t464 true t446 t447 t448 t449) = some r := by rw [if_neg (show ¬ (false = true) by decide)] at H; exact H
                clear H
                have H := H1
                clear H1
                have H' := Aside0.mk H
                clear H
                go_wp2_with (first | (go_at_call 17; (with_reducible refine (stockyardlaw24_known.calls k1  false _ A30.out).mono ?_); rintro e w35 ⟨rfl, hb⟩; have n0_ := Aside0.mk (Kd.R_below (by (with_reducible repeat (first | apply Kd.R_alloc | apply Kd.R_drewN | apply Kd.R_drew)); exact HO_7.out) hb); have n1_ := Aside0.mk (Kd.R_below (by (with_reducible repeat (first | apply Kd.R_alloc | apply Kd.R_drewN | apply Kd.R_drew)); exact HO_8.out) hb); have n2_ := Aside0.mk (Kd.S_below (by (with_reducible repeat (first | apply Kd.S_alloc | apply Kd.S_drewN | apply Kd.S_drew)); exact HO462.out) hb); have n3_ := Aside0.mk (Kd.S_below (by (with_reducible repeat (first | apply Kd.S_alloc | apply Kd.S_drewN | apply Kd.S_drew)); exact HO466.out) hb); have n4_ := Aside0.mk (blk_below (g := gb451) (o := .cells #[.int .i64 t446, .int .i64 t447, .int .i64 t448, .int .u64 t449] 28 (0, 0)) (by (with_reducible repeat (first | refine blk_drewN ?_ _ | refine blk_drew ?_ | refine blk_alloc ?_ _)); exact BK451.out) hb); have n5_ := Aside0.mk (below_step (by repeat (first | (with_reducible first | exact HB.out | apply below_alloc | apply pw_below_drewN | apply below_drew1 | refine below_set ?_ GE451.out) | exact HB.out)) hb); clear HO_7; clear HO_8; clear HO462; clear HO466; clear BK451; clear HB; have HO_7 := n0_; have HO_8 := n1_; have HO462 := n2_; have HO466 := n3_; have BK451 := n4_; have HB := n5_; clear n0_ n1_ n2_ n3_ n4_ n5_; (try clear hb); (try clear hb2); (try clear hk); (try clear hi)))
                repeat (go_quiet (first | (go_at_call 17; (with_reducible refine (stockyardlaw24_known.calls k1  false _ A30.out).mono ?_); rintro e w35 ⟨rfl, hb⟩; have n0_ := Aside0.mk (Kd.R_below (by (with_reducible repeat (first | apply Kd.R_alloc | apply Kd.R_drewN | apply Kd.R_drew)); exact HO_7.out) hb); have n1_ := Aside0.mk (Kd.R_below (by (with_reducible repeat (first | apply Kd.R_alloc | apply Kd.R_drewN | apply Kd.R_drew)); exact HO_8.out) hb); have n2_ := Aside0.mk (Kd.S_below (by (with_reducible repeat (first | apply Kd.S_alloc | apply Kd.S_drewN | apply Kd.S_drew)); exact HO462.out) hb); have n3_ := Aside0.mk (Kd.S_below (by (with_reducible repeat (first | apply Kd.S_alloc | apply Kd.S_drewN | apply Kd.S_drew)); exact HO466.out) hb); have n4_ := Aside0.mk (blk_below (g := gb451) (o := .cells #[.int .i64 t446, .int .i64 t447, .int .i64 t448, .int .u64 t449] 28 (0, 0)) (by (with_reducible repeat (first | refine blk_drewN ?_ _ | refine blk_drew ?_ | refine blk_alloc ?_ _)); exact BK451.out) hb); have n5_ := Aside0.mk (below_step (by repeat (first | (with_reducible first | exact HB.out | apply below_alloc | apply pw_below_drewN | apply below_drew1 | refine below_set ?_ GE451.out) | exact HB.out)) hb); clear HO_7; clear HO_8; clear HO462; clear HO466; clear BK451; clear HB; have HO_7 := n0_; have HO_8 := n1_; have HO462 := n2_; have HO466 := n3_; have BK451 := n4_; have HB := n5_; clear n0_ n1_ n2_ n3_ n4_ n5_; (try clear hb); (try clear hb2); (try clear hk); (try clear hi))); try go_wp2_with (first | (go_at_call 17; (with_reducible refine (stockyardlaw24_known.calls k1  false _ A30.out).mono ?_); rintro e w35 ⟨rfl, hb⟩; have n0_ := Aside0.mk (Kd.R_below (by (with_reducible repeat (first | apply Kd.R_alloc | apply Kd.R_drewN | apply Kd.R_drew)); exact HO_7.out) hb); have n1_ := Aside0.mk (Kd.R_below (by (with_reducible repeat (first | apply Kd.R_alloc | apply Kd.R_drewN | apply Kd.R_drew)); exact HO_8.out) hb); have n2_ := Aside0.mk (Kd.S_below (by (with_reducible repeat (first | apply Kd.S_alloc | apply Kd.S_drewN | apply Kd.S_drew)); exact HO462.out) hb); have n3_ := Aside0.mk (Kd.S_below (by (with_reducible repeat (first | apply Kd.S_alloc | apply Kd.S_drewN | apply Kd.S_drew)); exact HO466.out) hb); have n4_ := Aside0.mk (blk_below (g := gb451) (o := .cells #[.int .i64 t446, .int .i64 t447, .int .i64 t448, .int .u64 t449] 28 (0, 0)) (by (with_reducible repeat (first | refine blk_drewN ?_ _ | refine blk_drew ?_ | refine blk_alloc ?_ _)); exact BK451.out) hb); have n5_ := Aside0.mk (below_step (by repeat (first | (with_reducible first | exact HB.out | apply below_alloc | apply pw_below_drewN | apply below_drew1 | refine below_set ?_ GE451.out) | exact HB.out)) hb); clear HO_7; clear HO_8; clear HO462; clear HO466; clear BK451; clear HB; have HO_7 := n0_; have HO_8 := n1_; have HO462 := n2_; have HO466 := n3_; have BK451 := n4_; have HB := n5_; clear n0_ n1_ n2_ n3_ n4_ n5_; (try clear hb); (try clear hb2); (try clear hk); (try clear hi))))
                go_meet
                case rel => exact ⟨_, (true), (by first | rfl | (simp; done) | (simp [*]; done)), H', ⟨by have := HK1.out; first | omega | exact Nat.le_refl _⟩, ⟨by (with_reducible repeat (first | apply Kd.S_alloc | apply Kd.S_drewN | apply Kd.S_drew)); exact Kd.S_mono HO462.out (fun _ hk => hk.2)⟩, ⟨by (with_reducible repeat (first | apply Kd.S_alloc | apply Kd.S_drewN | apply Kd.S_drew)); exact Kd.S_mono HO466.out (fun _ hk => hk.2)⟩, ⟨by (with_reducible repeat (first | refine blk_drewN ?_ _ | refine blk_drew ?_ | refine blk_alloc ?_ _)); exact BK451.out⟩, ⟨by repeat (first | (with_reducible first | exact HB.out | apply below_alloc | apply pw_below_drewN | apply below_drew1 | refine below_set ?_ GE451.out) | exact HB.out)⟩⟩
            case rest =>
              clear HC24
              try clear c1
              try clear p1
              try clear q1
              try clear hx1
              try clear p2
              try clear c3
              try clear c5
              try clear c5b0
              try clear c5b1
              try clear c6
              try clear c6b0
              try clear c6b1
              try clear p6
              try clear c10
              try clear c16
              try clear c16b0
              try clear c17
              try clear c17b0
              try clear p18
              try clear q18
              try clear hx18
              try clear hf18
              try clear c31
              try clear c32
              try clear c32b0
              try clear c32b1
              try clear hcz11_0
              try clear hcz11_1
              try clear hcz11_2
              try clear hcz11_3
              try clear hcz26_0
              try clear hcz26_1
              try clear hcz26_2
              try clear hcz26_3
              try clear hcz28_0
              try clear hcz28_1
              try clear hcz28_2
              try clear hcz28_3
              try clear hfz11_0
              try clear hfz11_1
              try clear hfz11_2
              try clear hfz11_3
              try clear hfz26_0
              try clear hfz26_1
              try clear hfz26_2
              try clear hfz26_3
              try clear hfz28_0
              try clear hfz28_1
              try clear hfz28_2
              try clear hfz28_3
              try clear hx18_0
              try clear p18
              try clear p2
              try clear q18
              obtain ⟨kq, x63_23, rfl, HA, HJ23, HO_10, HO_12, BK451, HB⟩ := hcut
              cases kq with
              | zero => exact absurd HA.out (by simp [stockyardlaw24_ChunkerEven.j1])
              | succ kj23 =>
                have H := HA.out
                clear HA
                simp only [stockyardlaw24_ChunkerEven.j1] at H
                by_cases c36 : x63_23 = true
                · subst c36
                  have H1 : (some false) = some r := by rw [if_pos rfl] at H; exact H
                  clear H
                  have H := H1
                  clear H1
                  exact absurd ((Option.some.inj H).trans HRT.out) (by decide)
                · replace c36 := Bool.eq_false_iff.mpr c36
                  subst c36
                  have H1 : (stockyardlaw24_ChunkerEven.l1 kj23 t460 t464 0 t446 t447 t448 t449) = some r := by rw [if_neg (show ¬ (false = true) by decide)] at H; exact H
                  clear H
                  have H := H1
                  clear H1
                  have H' := Aside0.mk H
                  clear H
                  go_wp2
                  repeat (go_quiet (fail); try go_wp2)
                  go_loopg [14] kj23 (fun kq v14 w' => ∃ (x14_3 : Int), v14 = .int .i64 x14_3 ∧ Aside0 (stockyardlaw24_ChunkerEven.l1 kq t460 t464 x14_3 t446 t447 t448 t449 = some r) ∧ Aside0 (kq ≤ kj23) ∧ Aside0 (Kd.S (Kd.slice 5 (Kd.int .u8)) 30 w' w.heap.size (fun k_ => some k_ ≠ (v465 : Value).ownBlock) v461 t460) ∧ Aside0 (Kd.S (Kd.slice 5 (Kd.int .u8)) 30 w' w.heap.size (fun k_ => some k_ ≠ (v461 : Value).ownBlock) v465 t464) ∧ Aside0 (w'.heap[gb451]? = some (.cells #[.int .i64 t446, .int .i64 t447, .int .i64 t448, .int .u64 t449] 28 (0, 0))) ∧ Aside0 (Below w.heap.size w w'))
                  case atStart => exact ⟨(0), (by first | rfl | (simp; done) | (simp [*]; done)), H', ⟨Nat.le_refl _⟩, ⟨by (with_reducible repeat (first | apply Kd.S_alloc | apply Kd.S_drewN | apply Kd.S_drew)); exact HO_10.out⟩, ⟨by (with_reducible repeat (first | apply Kd.S_alloc | apply Kd.S_drewN | apply Kd.S_drew)); exact HO_12.out⟩, ⟨by (with_reducible repeat (first | refine blk_drewN ?_ _ | refine blk_drew ?_ | refine blk_alloc ?_ _)); exact BK451.out⟩, ⟨by repeat (first | (with_reducible first | exact HB.out | apply below_alloc | apply pw_below_drewN | apply below_drew1 | refine below_set ?_ GE451.out) | exact HB.out)⟩⟩
                  case round =>
                    clear H'
                    try clear c1
                    try clear p1
                    try clear q1
                    try clear hx1
                    try clear p2
                    try clear c3
                    try clear c5
                    try clear c5b0
                    try clear c5b1
                    try clear c6
                    try clear c6b0
                    try clear c6b1
                    try clear p6
                    try clear c10
                    try clear c16
                    try clear c16b0
                    try clear c17
                    try clear c17b0
                    try clear p18
                    try clear q18
                    try clear hx18
                    try clear hf18
                    try clear c31
                    try clear c32
                    try clear c32b0
                    try clear c32b1
                    try clear c36
                    try clear hcz11_0
                    try clear hcz11_1
                    try clear hcz11_2
                    try clear hcz11_3
                    try clear hcz26_0
                    try clear hcz26_1
                    try clear hcz26_2
                    try clear hcz26_3
                    try clear hcz28_0
                    try clear hcz28_1
                    try clear hcz28_2
                    try clear hcz28_3
                    try clear hfz11_0
                    try clear hfz11_1
                    try clear hfz11_2
                    try clear hfz11_3
                    try clear hfz26_0
                    try clear hfz26_1
                    try clear hfz26_2
                    try clear hfz26_3
                    try clear hfz28_0
                    try clear hfz28_1
                    try clear hfz28_2
                    try clear hfz28_3
                    try clear hx18_0
                    try clear p1
                    try clear p18
                    try clear p2
                    try clear p6
                    try clear q1
                    try clear q18
                    obtain ⟨x14_3, rfl, HA, HK3, HO_10, HO_12, BK451, HB⟩ := hrel
                    cases gk with
                    | zero => exact absurd HA.out (by simp [stockyardlaw24_ChunkerEven.l1])
                    | succ k3 =>
                      have H := HA.out
                      clear HA
                      simp only [stockyardlaw24_ChunkerEven.l1] at H
                      by_cases c37 : (wrap64 (x14_3 + 1)) < (t460.length : Int)
                      · rw [if_pos c37] at H
                        have c37b0 : decide ((wrap64 (x14_3 + 1)) < (t460.length : Int)) = true := decide_eq_true c37
                        clear c37
                        by_cases c38 : 0 ≤ x14_3
                        · rw [if_pos c38] at H
                          have c38b0 : decide (0 ≤ x14_3) = true := decide_eq_true c38
                          clear c38
                          by_cases c39 : x14_3 < (t460.length : Int)
                          · rw [if_pos c39] at H
                            have c39b0 : decide (x14_3 < (t460.length : Int)) = true := decide_eq_true c39
                            clear c39
                            by_cases c40 : ((rd_L4 t460 x14_3).length : Int) = t446
                            · rw [if_pos c40] at H
                              have c40b0 : (((rd_L4 t460 x14_3).length : Int) == t446) = true := beq_iff_eq.mpr c40
                              have c40b1 : (((rd_L4 t460 x14_3).length : Int) != t446) = false := bne_eq_false_iff_eq.mpr c40
                              clear c40
                              have H' := Aside0.mk H
                              clear H
                              obtain ⟨Ao41, co41, eo41⟩ := Kd.S_slice HO_10.out
                              subst eo41
                              have p469 : 0 ≤ (x14_3 : Int) := of_decide_eq_true (by first | (with_reducible assumption) | assumption)
                              have q469 : x14_3 < (t460.length : Int) := of_decide_eq_true (by first | (with_reducible assumption) | assumption)
                              obtain ⟨ad469, A469_0, c469_0, e469, hx469_0, hl469_0, hi469_0⟩ := at_L4 (Kd.S_reads' HO_10.out).2.2 x14_3 p469 q469
                              cases e469
                              obtain ⟨ce469, hce469, hMe469, hcc469⟩ := Kd.S_get HO_10.out [] x14_3 p469 (by first | exact q469 | exact of_decide_eq_true (by first | (with_reducible assumption) | assumption) | (have e_ := (Kd.S_reads' HO_10.out).1; omega))
                              obtain ⟨ve469_0, rfl, ge469_0⟩ := hMe469
                              have hv469_0 := hcc469 0 _ rfl
                              rw [Nat.add_zero, show ((Kd.slice 5 (Kd.int .u8))).sz = 1 from rfl, Nat.mul_one] at hv469_0
                              replace hv469_0 := Option.some.inj (hv469_0.symm.trans hx469_0)
                              rw [hv469_0] at ge469_0
                              have HL469_0 := Aside0.mk (show Kd.R (Kd.int .u8) 5 _ _ _ _ (rd_L4 t460 x14_3) from ge469_0)
                              clear hv469_0 ge469_0
                              clear hcc469 hce469
                              have HR469_0 := Aside0.mk hi469_0
                              have HC469_0 := Aside0.mk hl469_0
                              clear hi469_0 hl469_0
                              replace p469 := eq_true p469
                              replace q469 := eq_true q469
                              have hcz42_0 : wr.cell? ⟨gb451, 0, none⟩ = some (.int .i64 t446) := (blk_cell BK451.out 0).trans rfl
                              have hcz42_1 : wr.cell? ⟨gb451, 1, none⟩ = some (.int .i64 t447) := (blk_cell BK451.out 1).trans rfl
                              have hcz42_2 : wr.cell? ⟨gb451, 2, none⟩ = some (.int .i64 t448) := (blk_cell BK451.out 2).trans rfl
                              have hcz42_3 : wr.cell? ⟨gb451, 3, none⟩ = some (.int .u64 t449) := (blk_cell BK451.out 3).trans rfl
                              have hfz42_0 := blk_frozen BK451.out 0
                              have hfz42_1 := blk_frozen BK451.out 1
                              have hfz42_2 := blk_frozen BK451.out 2
                              have hfz42_3 := blk_frozen BK451.out 3
                              go_wp2
                              repeat (go_quiet (fail); try go_wp2)
                              go_roundg k3
                              case measure => have := HK1.out; have := HJ23.out; have := HK3.out; omega
                              case rel => exact ⟨(wrap64 (x14_3 + 1)), (by first | rfl | (simp; done) | (simp [*]; done)), H', ⟨by have := HK1.out; have := HJ23.out; have := HK3.out; omega⟩, ⟨by (with_reducible repeat (first | apply Kd.S_alloc | apply Kd.S_drewN | apply Kd.S_drew)); exact HO_10.out⟩, ⟨by (with_reducible repeat (first | apply Kd.S_alloc | apply Kd.S_drewN | apply Kd.S_drew)); exact HO_12.out⟩, ⟨by (with_reducible repeat (first | refine blk_drewN ?_ _ | refine blk_drew ?_ | refine blk_alloc ?_ _)); exact BK451.out⟩, ⟨by repeat (first | (with_reducible first | exact HB.out | apply below_alloc | apply pw_below_drewN | apply below_drew1 | refine below_set ?_ GE451.out) | exact HB.out)⟩⟩
                            · rw [if_neg c40] at H
                              have c40b0 : (((rd_L4 t460 x14_3).length : Int) == t446) = false := beq_eq_false_iff_ne.mpr c40
                              have c40b1 : (((rd_L4 t460 x14_3).length : Int) != t446) = true := bne_iff_ne.mpr c40
                              exact absurd ((Option.some.inj H).trans HRT.out) (by decide)
                          · rw [if_neg c39] at H
                            exact absurd H (by simp)
                        · rw [if_neg c38] at H
                          exact absurd H (by simp)
                      · rw [if_neg c37] at H
                        have c37b0 : decide ((wrap64 (x14_3 + 1)) < (t460.length : Int)) = false := decide_eq_false c37
                        clear c37
                        have H' := Aside0.mk H
                        clear H
                        obtain ⟨Ao43, co43, eo43⟩ := Kd.S_slice HO_10.out
                        subst eo43
                        go_wp2
                        repeat (go_quiet (fail); try go_wp2)
                        go_loopg [15] k3 (fun kq v15 w' => ∃ (x15_4 : Int), v15 = .int .i64 x15_4 ∧ Aside0 (stockyardlaw24_ChunkerEven.l2 kq t464 x15_4 t446 t447 t448 t449 = some r) ∧ Aside0 (kq ≤ k3) ∧ Aside0 (Kd.S (Kd.slice 5 (Kd.int .u8)) 30 w' w.heap.size (fun _ => True) v465 t464) ∧ Aside0 (w'.heap[gb451]? = some (.cells #[.int .i64 t446, .int .i64 t447, .int .i64 t448, .int .u64 t449] 28 (0, 0))) ∧ Aside0 (Below w.heap.size w w'))
                        case atStart => exact ⟨(0), (by first | rfl | (simp; done) | (simp [*]; done)), H', ⟨Nat.le_refl _⟩, ⟨by (with_reducible repeat (first | apply Kd.S_alloc | apply Kd.S_drewN | apply Kd.S_drew)); exact Kd.S_mono HO_12.out (fun _ hk => trivial)⟩, ⟨by (with_reducible repeat (first | refine blk_drewN ?_ _ | refine blk_drew ?_ | refine blk_alloc ?_ _)); exact BK451.out⟩, ⟨by repeat (first | (with_reducible first | exact HB.out | apply below_alloc | apply pw_below_drewN | apply below_drew1 | refine below_set ?_ GE451.out) | exact HB.out)⟩⟩
                        case round =>
                          clear H'
                          try clear c1
                          try clear p1
                          try clear q1
                          try clear hx1
                          try clear p2
                          try clear c3
                          try clear c4
                          try clear p4
                          try clear q4
                          try clear hx4
                          try clear c5
                          try clear c5b0
                          try clear c5b1
                          try clear c6
                          try clear c6b0
                          try clear c6b1
                          try clear p6
                          try clear c10
                          try clear c16
                          try clear c16b0
                          try clear c17
                          try clear c17b0
                          try clear p18
                          try clear q18
                          try clear hx18
                          try clear hf18
                          try clear c31
                          try clear c32
                          try clear c32b0
                          try clear c32b1
                          try clear c36
                          try clear c37
                          try clear c37b0
                          try clear c38
                          try clear c38b0
                          try clear c39
                          try clear c39b0
                          try clear c40
                          try clear c40b0
                          try clear c40b1
                          try clear hcz11_0
                          try clear hcz11_1
                          try clear hcz11_2
                          try clear hcz11_3
                          try clear hcz26_0
                          try clear hcz26_1
                          try clear hcz26_2
                          try clear hcz26_3
                          try clear hcz28_0
                          try clear hcz28_1
                          try clear hcz28_2
                          try clear hcz28_3
                          try clear hcz42_0
                          try clear hcz42_1
                          try clear hcz42_2
                          try clear hcz42_3
                          try clear hfz11_0
                          try clear hfz11_1
                          try clear hfz11_2
                          try clear hfz11_3
                          try clear hfz26_0
                          try clear hfz26_1
                          try clear hfz26_2
                          try clear hfz26_3
                          try clear hfz28_0
                          try clear hfz28_1
                          try clear hfz28_2
                          try clear hfz28_3
                          try clear hfz42_0
                          try clear hfz42_1
                          try clear hfz42_2
                          try clear hfz42_3
                          try clear hx18_0
                          try clear hx469_0
                          try clear p1
                          try clear p18
                          try clear p2
                          try clear p469
                          try clear p6
                          try clear q1
                          try clear q18
                          try clear q469
                          obtain ⟨x15_4, rfl, HA, HK4, HO_12, BK451, HB⟩ := hrel
                          cases gk with
                          | zero => exact absurd HA.out (by simp [stockyardlaw24_ChunkerEven.l2])
                          | succ k4 =>
                            have H := HA.out
                            clear HA
                            simp only [stockyardlaw24_ChunkerEven.l2] at H
                            by_cases c44 : (wrap64 (x15_4 + 1)) < (t464.length : Int)
                            · rw [if_pos c44] at H
                              have c44b0 : decide ((wrap64 (x15_4 + 1)) < (t464.length : Int)) = true := decide_eq_true c44
                              clear c44
                              by_cases c45 : 0 ≤ x15_4
                              · rw [if_pos c45] at H
                                have c45b0 : decide (0 ≤ x15_4) = true := decide_eq_true c45
                                clear c45
                                by_cases c46 : x15_4 < (t464.length : Int)
                                · rw [if_pos c46] at H
                                  have c46b0 : decide (x15_4 < (t464.length : Int)) = true := decide_eq_true c46
                                  clear c46
                                  by_cases c47 : 0 < (t464.length : Int)
                                  · rw [if_pos c47] at H
                                    have c47b0 : decide (0 < (t464.length : Int)) = true := decide_eq_true c47
                                    have c47b1 : decide (0 < t464.length) = true := decide_eq_true (by omega)
                                    clear c47
                                    by_cases c48 : ((rd_L4 t464 x15_4).length : Int) = ((rd_L4 t464 0).length : Int)
                                    · rw [if_pos c48] at H
                                      have c48b0 : (((rd_L4 t464 x15_4).length : Int) == ((rd_L4 t464 0).length : Int)) = true := beq_iff_eq.mpr c48
                                      have c48b1 : (((rd_L4 t464 x15_4).length : Int) != ((rd_L4 t464 0).length : Int)) = false := bne_eq_false_iff_eq.mpr c48
                                      have c48b2 : ((rd_L4 t464 x15_4).length == (rd_L4 t464 0).length) = true := by first | simpa using c48 | (simp at c48 ⊢; omega)
                                      clear c48
                                      by_cases c49 : ((rd_L4 t464 x15_4).length : Int) = t446
                                      · rw [if_pos c49] at H
                                        have c49b0 : (((rd_L4 t464 x15_4).length : Int) == t446) = true := beq_iff_eq.mpr c49
                                        have c49b1 : (((rd_L4 t464 x15_4).length : Int) != t446) = false := bne_eq_false_iff_eq.mpr c49
                                        clear c49
                                        have H' := Aside0.mk H
                                        clear H
                                        obtain ⟨Ao50, co50, eo50⟩ := Kd.S_slice HO_12.out
                                        subst eo50
                                        have p470 : 0 ≤ (x15_4 : Int) := of_decide_eq_true (by first | (with_reducible assumption) | assumption)
                                        have q470 : x15_4 < (t464.length : Int) := of_decide_eq_true (by first | (with_reducible assumption) | assumption)
                                        obtain ⟨ad470, A470_0, c470_0, e470, hx470_0, hl470_0, hi470_0⟩ := at_L4 (Kd.S_reads' HO_12.out).2.2 x15_4 p470 q470
                                        cases e470
                                        obtain ⟨ce470, hce470, hMe470, hcc470⟩ := Kd.S_get HO_12.out [] x15_4 p470 (by first | exact q470 | exact of_decide_eq_true (by first | (with_reducible assumption) | assumption) | (have e_ := (Kd.S_reads' HO_12.out).1; omega))
                                        obtain ⟨ve470_0, rfl, ge470_0⟩ := hMe470
                                        have hv470_0 := hcc470 0 _ rfl
                                        rw [Nat.add_zero, show ((Kd.slice 5 (Kd.int .u8))).sz = 1 from rfl, Nat.mul_one] at hv470_0
                                        replace hv470_0 := Option.some.inj (hv470_0.symm.trans hx470_0)
                                        rw [hv470_0] at ge470_0
                                        have HL470_0 := Aside0.mk (show Kd.R (Kd.int .u8) 5 _ _ _ _ (rd_L4 t464 x15_4) from ge470_0)
                                        clear hv470_0 ge470_0
                                        clear hcc470 hce470
                                        have HR470_0 := Aside0.mk hi470_0
                                        have HC470_0 := Aside0.mk hl470_0
                                        clear hi470_0 hl470_0
                                        replace p470 := eq_true p470
                                        replace q470 := eq_true q470
                                        have p471 : 0 ≤ (0 : Int) := (by omega)
                                        have q471 : 0 < (t464.length : Int) := of_decide_eq_true (by first | (with_reducible assumption) | assumption)
                                        obtain ⟨ad471, A471_0, c471_0, e471, hx471_0, hl471_0, hi471_0⟩ := at_L4 (Kd.S_reads' HO_12.out).2.2 0 p471 q471
                                        obtain rfl : ad470 = ad471 := (by injection e471)
                                        obtain ⟨ce471, hce471, hMe471, hcc471⟩ := Kd.S_get HO_12.out [] 0 p471 (by first | exact q471 | exact of_decide_eq_true (by first | (with_reducible assumption) | assumption) | (have e_ := (Kd.S_reads' HO_12.out).1; omega))
                                        obtain ⟨ve471_0, rfl, ge471_0⟩ := hMe471
                                        have hv471_0 := hcc471 0 _ rfl
                                        rw [Nat.add_zero, show ((Kd.slice 5 (Kd.int .u8))).sz = 1 from rfl, Nat.mul_one] at hv471_0
                                        replace hv471_0 := Option.some.inj (hv471_0.symm.trans hx471_0)
                                        rw [hv471_0] at ge471_0
                                        have HL471_0 := Aside0.mk (show Kd.R (Kd.int .u8) 5 _ _ _ _ (rd_L4 t464 0) from ge471_0)
                                        clear hv471_0 ge471_0
                                        clear hcc471 hce471
                                        have qi471 : (0 < t464.length) = True := eq_true (by omega)
                                        (try rw [show ((0 : Int)).toNat = 0 from rfl] at hx471_0)
                                        (try rw [Addr.add_zero'] at hx471_0)
                                        have HR471_0 := Aside0.mk hi471_0
                                        have HC471_0 := Aside0.mk hl471_0
                                        clear hi471_0 hl471_0
                                        replace p471 := eq_true p471
                                        replace q471 := eq_true q471
                                        have p472 : 0 ≤ (x15_4 : Int) := of_decide_eq_true (by first | (with_reducible assumption) | assumption)
                                        have q472 : x15_4 < (t464.length : Int) := of_decide_eq_true (by first | (with_reducible assumption) | assumption)
                                        obtain ⟨ad472, A472_0, c472_0, e472, hx472_0, hl472_0, hi472_0⟩ := at_L4 (Kd.S_reads' HO_12.out).2.2 x15_4 p472 q472
                                        obtain rfl : ad470 = ad472 := (by injection e472)
                                        obtain ⟨ce472, hce472, hMe472, hcc472⟩ := Kd.S_get HO_12.out [] x15_4 p472 (by first | exact q472 | exact of_decide_eq_true (by first | (with_reducible assumption) | assumption) | (have e_ := (Kd.S_reads' HO_12.out).1; omega))
                                        obtain ⟨ve472_0, rfl, ge472_0⟩ := hMe472
                                        have hv472_0 := hcc472 0 _ rfl
                                        rw [Nat.add_zero, show ((Kd.slice 5 (Kd.int .u8))).sz = 1 from rfl, Nat.mul_one] at hv472_0
                                        replace hv472_0 := Option.some.inj (hv472_0.symm.trans hx472_0)
                                        rw [hv472_0] at ge472_0
                                        have HL472_0 := Aside0.mk (show Kd.R (Kd.int .u8) 5 _ _ _ _ (rd_L4 t464 x15_4) from ge472_0)
                                        clear hv472_0 ge472_0
                                        clear hcc472 hce472
                                        have HR472_0 := Aside0.mk hi472_0
                                        have HC472_0 := Aside0.mk hl472_0
                                        clear hi472_0 hl472_0
                                        replace p472 := eq_true p472
                                        replace q472 := eq_true q472
                                        have ea_ := Option.some.inj (hx470_0.symm.trans hx472_0)
                                        injection ea_ with ea_ en_ ec_
                                        subst ea_
                                        subst ec_
                                        clear en_
                                        have hcz51_0 : wr.cell? ⟨gb451, 0, none⟩ = some (.int .i64 t446) := (blk_cell BK451.out 0).trans rfl
                                        have hcz51_1 : wr.cell? ⟨gb451, 1, none⟩ = some (.int .i64 t447) := (blk_cell BK451.out 1).trans rfl
                                        have hcz51_2 : wr.cell? ⟨gb451, 2, none⟩ = some (.int .i64 t448) := (blk_cell BK451.out 2).trans rfl
                                        have hcz51_3 : wr.cell? ⟨gb451, 3, none⟩ = some (.int .u64 t449) := (blk_cell BK451.out 3).trans rfl
                                        have hfz51_0 := blk_frozen BK451.out 0
                                        have hfz51_1 := blk_frozen BK451.out 1
                                        have hfz51_2 := blk_frozen BK451.out 2
                                        have hfz51_3 := blk_frozen BK451.out 3
                                        go_wp2
                                        repeat (go_quiet (fail); try go_wp2)
                                        go_roundg k4
                                        case measure => have := HK1.out; have := HJ23.out; have := HK3.out; have := HK4.out; omega
                                        case rel => exact ⟨(wrap64 (x15_4 + 1)), (by first | rfl | (simp; done) | (simp [*]; done)), H', ⟨by have := HK1.out; have := HJ23.out; have := HK3.out; have := HK4.out; omega⟩, ⟨by (with_reducible repeat (first | apply Kd.S_alloc | apply Kd.S_drewN | apply Kd.S_drew)); exact HO_12.out⟩, ⟨by (with_reducible repeat (first | refine blk_drewN ?_ _ | refine blk_drew ?_ | refine blk_alloc ?_ _)); exact BK451.out⟩, ⟨by repeat (first | (with_reducible first | exact HB.out | apply below_alloc | apply pw_below_drewN | apply below_drew1 | refine below_set ?_ GE451.out) | exact HB.out)⟩⟩
                                      · rw [if_neg c49] at H
                                        have c49b0 : (((rd_L4 t464 x15_4).length : Int) == t446) = false := beq_eq_false_iff_ne.mpr c49
                                        have c49b1 : (((rd_L4 t464 x15_4).length : Int) != t446) = true := bne_iff_ne.mpr c49
                                        by_cases c52 : ((rd_L4 t464 x15_4).length : Int) = t447
                                        · rw [if_pos c52] at H
                                          have c52b0 : (((rd_L4 t464 x15_4).length : Int) == t447) = true := beq_iff_eq.mpr c52
                                          have c52b1 : (((rd_L4 t464 x15_4).length : Int) != t447) = false := bne_eq_false_iff_eq.mpr c52
                                          clear c52
                                          have H' := Aside0.mk H
                                          clear H
                                          obtain ⟨Ao53, co53, eo53⟩ := Kd.S_slice HO_12.out
                                          subst eo53
                                          have p470 : 0 ≤ (x15_4 : Int) := of_decide_eq_true (by first | (with_reducible assumption) | assumption)
                                          have q470 : x15_4 < (t464.length : Int) := of_decide_eq_true (by first | (with_reducible assumption) | assumption)
                                          obtain ⟨ad470, A470_0, c470_0, e470, hx470_0, hl470_0, hi470_0⟩ := at_L4 (Kd.S_reads' HO_12.out).2.2 x15_4 p470 q470
                                          cases e470
                                          obtain ⟨ce470, hce470, hMe470, hcc470⟩ := Kd.S_get HO_12.out [] x15_4 p470 (by first | exact q470 | exact of_decide_eq_true (by first | (with_reducible assumption) | assumption) | (have e_ := (Kd.S_reads' HO_12.out).1; omega))
                                          obtain ⟨ve470_0, rfl, ge470_0⟩ := hMe470
                                          have hv470_0 := hcc470 0 _ rfl
                                          rw [Nat.add_zero, show ((Kd.slice 5 (Kd.int .u8))).sz = 1 from rfl, Nat.mul_one] at hv470_0
                                          replace hv470_0 := Option.some.inj (hv470_0.symm.trans hx470_0)
                                          rw [hv470_0] at ge470_0
                                          have HL470_0 := Aside0.mk (show Kd.R (Kd.int .u8) 5 _ _ _ _ (rd_L4 t464 x15_4) from ge470_0)
                                          clear hv470_0 ge470_0
                                          clear hcc470 hce470
                                          have HR470_0 := Aside0.mk hi470_0
                                          have HC470_0 := Aside0.mk hl470_0
                                          clear hi470_0 hl470_0
                                          replace p470 := eq_true p470
                                          replace q470 := eq_true q470
                                          have p471 : 0 ≤ (0 : Int) := (by omega)
                                          have q471 : 0 < (t464.length : Int) := of_decide_eq_true (by first | (with_reducible assumption) | assumption)
                                          obtain ⟨ad471, A471_0, c471_0, e471, hx471_0, hl471_0, hi471_0⟩ := at_L4 (Kd.S_reads' HO_12.out).2.2 0 p471 q471
                                          obtain rfl : ad470 = ad471 := (by injection e471)
                                          obtain ⟨ce471, hce471, hMe471, hcc471⟩ := Kd.S_get HO_12.out [] 0 p471 (by first | exact q471 | exact of_decide_eq_true (by first | (with_reducible assumption) | assumption) | (have e_ := (Kd.S_reads' HO_12.out).1; omega))
                                          obtain ⟨ve471_0, rfl, ge471_0⟩ := hMe471
                                          have hv471_0 := hcc471 0 _ rfl
                                          rw [Nat.add_zero, show ((Kd.slice 5 (Kd.int .u8))).sz = 1 from rfl, Nat.mul_one] at hv471_0
                                          replace hv471_0 := Option.some.inj (hv471_0.symm.trans hx471_0)
                                          rw [hv471_0] at ge471_0
                                          have HL471_0 := Aside0.mk (show Kd.R (Kd.int .u8) 5 _ _ _ _ (rd_L4 t464 0) from ge471_0)
                                          clear hv471_0 ge471_0
                                          clear hcc471 hce471
                                          have qi471 : (0 < t464.length) = True := eq_true (by omega)
                                          (try rw [show ((0 : Int)).toNat = 0 from rfl] at hx471_0)
                                          (try rw [Addr.add_zero'] at hx471_0)
                                          have HR471_0 := Aside0.mk hi471_0
                                          have HC471_0 := Aside0.mk hl471_0
                                          clear hi471_0 hl471_0
                                          replace p471 := eq_true p471
                                          replace q471 := eq_true q471
                                          have p472 : 0 ≤ (x15_4 : Int) := of_decide_eq_true (by first | (with_reducible assumption) | assumption)
                                          have q472 : x15_4 < (t464.length : Int) := of_decide_eq_true (by first | (with_reducible assumption) | assumption)
                                          obtain ⟨ad472, A472_0, c472_0, e472, hx472_0, hl472_0, hi472_0⟩ := at_L4 (Kd.S_reads' HO_12.out).2.2 x15_4 p472 q472
                                          obtain rfl : ad470 = ad472 := (by injection e472)
                                          obtain ⟨ce472, hce472, hMe472, hcc472⟩ := Kd.S_get HO_12.out [] x15_4 p472 (by first | exact q472 | exact of_decide_eq_true (by first | (with_reducible assumption) | assumption) | (have e_ := (Kd.S_reads' HO_12.out).1; omega))
                                          obtain ⟨ve472_0, rfl, ge472_0⟩ := hMe472
                                          have hv472_0 := hcc472 0 _ rfl
                                          rw [Nat.add_zero, show ((Kd.slice 5 (Kd.int .u8))).sz = 1 from rfl, Nat.mul_one] at hv472_0
                                          replace hv472_0 := Option.some.inj (hv472_0.symm.trans hx472_0)
                                          rw [hv472_0] at ge472_0
                                          have HL472_0 := Aside0.mk (show Kd.R (Kd.int .u8) 5 _ _ _ _ (rd_L4 t464 x15_4) from ge472_0)
                                          clear hv472_0 ge472_0
                                          clear hcc472 hce472
                                          have HR472_0 := Aside0.mk hi472_0
                                          have HC472_0 := Aside0.mk hl472_0
                                          clear hi472_0 hl472_0
                                          replace p472 := eq_true p472
                                          replace q472 := eq_true q472
                                          have ea_ := Option.some.inj (hx470_0.symm.trans hx472_0)
                                          injection ea_ with ea_ en_ ec_
                                          subst ea_
                                          subst ec_
                                          clear en_
                                          have hcz54_0 : wr.cell? ⟨gb451, 0, none⟩ = some (.int .i64 t446) := (blk_cell BK451.out 0).trans rfl
                                          have hcz54_1 : wr.cell? ⟨gb451, 1, none⟩ = some (.int .i64 t447) := (blk_cell BK451.out 1).trans rfl
                                          have hcz54_2 : wr.cell? ⟨gb451, 2, none⟩ = some (.int .i64 t448) := (blk_cell BK451.out 2).trans rfl
                                          have hcz54_3 : wr.cell? ⟨gb451, 3, none⟩ = some (.int .u64 t449) := (blk_cell BK451.out 3).trans rfl
                                          have hfz54_0 := blk_frozen BK451.out 0
                                          have hfz54_1 := blk_frozen BK451.out 1
                                          have hfz54_2 := blk_frozen BK451.out 2
                                          have hfz54_3 := blk_frozen BK451.out 3
                                          have p473 : 0 ≤ (x15_4 : Int) := of_decide_eq_true (by first | (with_reducible assumption) | assumption)
                                          have q473 : x15_4 < (t464.length : Int) := of_decide_eq_true (by first | (with_reducible assumption) | assumption)
                                          obtain ⟨ad473, A473_0, c473_0, e473, hx473_0, hl473_0, hi473_0⟩ := at_L4 (Kd.S_reads' HO_12.out).2.2 x15_4 p473 q473
                                          obtain rfl : ad470 = ad473 := (by injection e473)
                                          obtain ⟨ce473, hce473, hMe473, hcc473⟩ := Kd.S_get HO_12.out [] x15_4 p473 (by first | exact q473 | exact of_decide_eq_true (by first | (with_reducible assumption) | assumption) | (have e_ := (Kd.S_reads' HO_12.out).1; omega))
                                          obtain ⟨ve473_0, rfl, ge473_0⟩ := hMe473
                                          have hv473_0 := hcc473 0 _ rfl
                                          rw [Nat.add_zero, show ((Kd.slice 5 (Kd.int .u8))).sz = 1 from rfl, Nat.mul_one] at hv473_0
                                          replace hv473_0 := Option.some.inj (hv473_0.symm.trans hx473_0)
                                          rw [hv473_0] at ge473_0
                                          have HL473_0 := Aside0.mk (show Kd.R (Kd.int .u8) 5 _ _ _ _ (rd_L4 t464 x15_4) from ge473_0)
                                          clear hv473_0 ge473_0
                                          clear hcc473 hce473
                                          have HR473_0 := Aside0.mk hi473_0
                                          have HC473_0 := Aside0.mk hl473_0
                                          clear hi473_0 hl473_0
                                          replace p473 := eq_true p473
                                          replace q473 := eq_true q473
                                          have ea_ := Option.some.inj (hx470_0.symm.trans hx473_0)
                                          injection ea_ with ea_ en_ ec_
                                          subst ea_
                                          subst ec_
                                          clear en_
                                          go_wp2
                                          repeat (go_quiet (fail); try go_wp2)
                                          go_roundg k4
                                          case measure => have := HK1.out; have := HJ23.out; have := HK3.out; have := HK4.out; omega
                                          case rel => exact ⟨(wrap64 (x15_4 + 1)), (by first | rfl | (simp; done) | (simp [*]; done)), H', ⟨by have := HK1.out; have := HJ23.out; have := HK3.out; have := HK4.out; omega⟩, ⟨by (with_reducible repeat (first | apply Kd.S_alloc | apply Kd.S_drewN | apply Kd.S_drew)); exact HO_12.out⟩, ⟨by (with_reducible repeat (first | refine blk_drewN ?_ _ | refine blk_drew ?_ | refine blk_alloc ?_ _)); exact BK451.out⟩, ⟨by repeat (first | (with_reducible first | exact HB.out | apply below_alloc | apply pw_below_drewN | apply below_drew1 | refine below_set ?_ GE451.out) | exact HB.out)⟩⟩
                                        · rw [if_neg c52] at H
                                          have c52b0 : (((rd_L4 t464 x15_4).length : Int) == t447) = false := beq_eq_false_iff_ne.mpr c52
                                          have c52b1 : (((rd_L4 t464 x15_4).length : Int) != t447) = true := bne_iff_ne.mpr c52
                                          exact absurd ((Option.some.inj H).trans HRT.out) (by decide)
                                    · rw [if_neg c48] at H
                                      have c48b0 : (((rd_L4 t464 x15_4).length : Int) == ((rd_L4 t464 0).length : Int)) = false := beq_eq_false_iff_ne.mpr c48
                                      have c48b1 : (((rd_L4 t464 x15_4).length : Int) != ((rd_L4 t464 0).length : Int)) = true := bne_iff_ne.mpr c48
                                      have c48b2 : ((rd_L4 t464 x15_4).length == (rd_L4 t464 0).length) = false := by first | simpa using c48 | (simp at c48 ⊢; omega)
                                      exact absurd ((Option.some.inj H).trans HRT.out) (by decide)
                                  · rw [if_neg c47] at H
                                    exact absurd H (by simp)
                                · rw [if_neg c46] at H
                                  exact absurd H (by simp)
                              · rw [if_neg c45] at H
                                exact absurd H (by simp)
                            · rw [if_neg c44] at H
                              have c44b0 : decide ((wrap64 (x15_4 + 1)) < (t464.length : Int)) = false := decide_eq_false c44
                              clear c44
                              obtain rfl := Option.some.inj H
                              obtain ⟨Ao55, co55, eo55⟩ := Kd.S_slice HO_12.out
                              subst eo55
                              go_wp2
                              repeat (go_quiet (fail); try go_wp2)
                              go_ret
                              exact ⟨by first | rfl | (simp [errW_none, errW_some] <;> rfl) | (simp [*, errW_none, errW_some] <;> rfl), by repeat (first | (with_reducible first | exact HB.out | apply below_alloc | apply pw_below_drewN | apply below_drew1 | refine below_set ?_ GE451.out) | exact HB.out)⟩
    · rw [if_neg c6] at H
      exact absurd H (by simp)
  · rw [if_neg c5] at H
    exact absurd H (by simp)

/-- THE ONE PURE STATEMENT of stockyardlaw24_ChunkerEven: yours. -/
def stockyardlaw24_ChunkerEven.Pure : Prop := ∀ (l0 : List Int) (a1 : Int), l0.length ≤ maxLen → l0.length * 8 ≤ 140737488351232 → (∀ x ∈ l0, (Lit.int .i64 x).wf = true) → (Lit.int .u8 a1).wf = true → ∃ k, stockyardlaw24_ChunkerEven.f k l0 a1 = some true
theorem stockyardlaw24_ChunkerEven.walk (P : stockyardlaw24_ChunkerEven.Pure) (a0 : Option Addr) (len0 cap0 : Nat) (z0 : List Int) (a1 : Int) (w : World) (w0 : (a0 = none ∧ len0 = 0 ∧ cap0 = 0 ∧ z0 = []) ∨ ∃ x, a0 = some x ∧ len0 ≤ cap0 ∧ cap0 ≤ maxLen ∧ z0.length = cap0 ∧ (∀ i, i < z0.length → w.cell? (x.add i) = some (.int .i64 (z0.getD i 0))) ∧ ∀ n ∈ z0, (Lit.int .i64 n).wf = true) (y0 : len0 * 8 ≤ 140737488351232) (w1 : (Lit.int .u8 a1).wf = true) :
    Calls Try.prog 10 #[.slice a0 len0 cap0, .int .u8 a1] w fun e w' => e = .returned (.bool true) ∧ Below w.heap.size w w' := by
  obtain ⟨l0, rfl, hr0, hm0, hw0, hc0⟩ := ReadsInt.ofRowC w0
  obtain ⟨k, h⟩ := P l0 a1 hm0 y0 hw0 w1
  refine (stockyardlaw24_ChunkerEven.calls k _ _ l0 a1 true w (Kd.C_of_reads (d := (0 : Int)) (h1 := fun _ => rfl) hr0) hc0 h rfl).mono ?_
  rintro e w' ⟨rfl, hd⟩
  exact ⟨rfl, hd⟩

end Go.Proofs.Ytgfodmpdnhebjaa.P
