-- What this claim does not use is left out (shake.py).
import Derived.Test.YtleapbbdpediiaaPx0
import Derived.Test.YtleapbbdpediiaaPxf18
-- Printed by a program (pr.py over the kit's print) out of the translation.
namespace Go.Proofs.Ytleapbbdpediiaa.P
open Go.RowKit Go.Proofs.YtleapbbdpediiaaW.PrintWords Go.Proofs.YtleapbbdpediiaaW.PrintLast Go.Proofs.YtleapbbdpediiaaW.PrintMore
attribute [local go_sem] max2_int min2_int max_two min_two max_three min_three max_four min_four   -- for this text's walks alone
set_option linter.unusedVariables false
set_option linter.unusedSimpArgs false

/-! ### stockyardlaw25_known: function 23 -/
def stockyardlaw25_known.f (k : Nat)  : Option (Bool) := (some (([(⟨747382712868975714, 2⟩ : S51)] : List (S51)) : List (S51))).bind fun y239 => (if 0 < (y239.length : Int) then ((manifest_Assemble.f 2 y239 (([(⟨(⟨(rd_T51 y239 0).f0, (rd_T51 y239 0).f1⟩ : S51), (([0, 0] : List Int))⟩ : S53)] : List (S53)))).bind fun bt250 => ((manifest_Encode.f k 0 ([] : List (S51))).bind fun bt254 => (if bt250.2 = 0 then (if (bt250.1.length : Int) = 2 then (if bt254.2 = 0 then (some ((strOfNums bt254.1).toList == ([0, 0] : List UInt8))) else (some false)) else (some false)) else (some false)))) else (none))
theorem stockyardlaw25_known.mono : ∀ k, LeO (stockyardlaw25_known.f k ) (stockyardlaw25_known.f (k + 1) ) := by
  intro  k
  unfold stockyardlaw25_known.f
  repeat' first
      | (with_reducible exact manifest_Encode.mono _ _ _)
      | (with_reducible exact LeO.refl _)
      | (with_reducible exact LeO.none _)
      | (with_reducible refine LeO.ite ?_ ?_)
      | (with_reducible refine LeO.bind ?_ (fun _ => ?_))
      | exact manifest_Encode.mono _ _ _
      | exact LeO.none _
      | refine LeO.ite ?_ ?_
      | refine LeO.bind ?_ (fun _ => ?_)
def stockyardlaw25_known.T2 : Bool × List (List Nat × List Nat) := (true, [([], []), ([], []), ([1], [1]), ([2], [2]), ([3], [3]), ([], []), ([4, 5], [4, 5]), ([6], [6]), ([0, 7], [0, 7]), ([8], [8]), ([9], [9]), ([9], [9]), ([10, 8, 0, 1, 2, 3, 4, 5, 6, 7, 8, 9, 10], [10]), ([11, 12, 0, 1, 2, 3, 4, 5, 6, 7, 8, 9, 10, 11, 12], [11])])
def stockyardlaw25_known.B2 : List Nat := [0, 0, 2, 6, 14, 0, 62, 126, 255, 511, 1023, 1023, 2047, 8191]
theorem stockyardlaw25_known.tab2 : rtab .any (opsOf Try.f23 2) = stockyardlaw25_known.T2 := by kernel_rfl
theorem stockyardlaw25_known.bits2 : waitsOk stockyardlaw25_known.T2.2 stockyardlaw25_known.B2 = true := by kernel_rfl
set_option maxHeartbeats 8000000 in
set_option maxRecDepth 100000 in
theorem stockyardlaw25_known.calls (k : Nat)  (r : Bool) (w : World) (h : stockyardlaw25_known.f k  = some r) :
    Calls Try.prog 23 #[] w fun e w' => e = .returned (.bool r) ∧ Below w.heap.size w w' := by
  have hu51 := Try.underlying51
  have hu31 := Try.underlying31
  have hu53 := Try.underlying53
  have HB := Aside0.mk (Below.refl w.heap.size w)
  have H : ((some (([(⟨747382712868975714, 2⟩ : S51)] : List (S51)) : List (S51))).bind fun y239 => (if 0 < (y239.length : Int) then ((manifest_Assemble.f 2 y239 (([(⟨(⟨(rd_T51 y239 0).f0, (rd_T51 y239 0).f1⟩ : S51), (([0, 0] : List Int))⟩ : S53)] : List (S53)))).bind fun bt250 => ((manifest_Encode.f k 0 ([] : List (S51))).bind fun bt254 => (if bt250.2 = 0 then (if (bt250.1.length : Int) = 2 then (if bt254.2 = 0 then (some ((strOfNums bt254.1).toList == ([0, 0] : List UInt8))) else (some false)) else (some false)) else (some false)))) else (none))) = some r := h
  clear h
  obtain ⟨y239, hy239⟩ : ∃ y_ : List (S51), y_ = (([(⟨747382712868975714, 2⟩ : S51)] : List (S51))) := ⟨_, rfl⟩
  replace H : (if 0 < (y239.length : Int) then ((manifest_Assemble.f 2 y239 (([(⟨(⟨(rd_T51 y239 0).f0, (rd_T51 y239 0).f1⟩ : S51), (([0, 0] : List Int))⟩ : S53)] : List (S53)))).bind fun bt250 => ((manifest_Encode.f k 0 ([] : List (S51))).bind fun bt254 => (if bt250.2 = 0 then (if (bt250.1.length : Int) = 2 then (if bt254.2 = 0 then (some ((strOfNums bt254.1).toList == ([0, 0] : List UInt8))) else (some false)) else (some false)) else (some false)))) else (none)) = some r := by first | (rw [hy239]; with_reducible exact H) | (have H2_ := (Option.bind_some _ _).symm.trans H; rw [hy239]; with_reducible exact H2_) | (have H2_ := (Option.bind_some _ _).symm.trans H; with_reducible exact H2_) | with_reducible exact H | (rw [hy239]; exact H) | exact H
  have Ny239 := Aside0.mk hy239
  clear hy239
  by_cases c1 : 0 < (y239.length : Int)
  · rw [if_pos c1] at H
    have c1b0 : decide (0 < (y239.length : Int)) = true := decide_eq_true c1
    have c1b1 : decide (0 < y239.length) = true := decide_eq_true (by omega)
    clear c1
    obtain ⟨y244, hy244⟩ : ∃ y_ : List Int, y_ = (([0, 0] : List Int)) := ⟨_, rfl⟩
    replace H : ((manifest_Assemble.f 2 y239 (([(⟨(⟨(rd_T51 y239 0).f0, (rd_T51 y239 0).f1⟩ : S51), y244⟩ : S53)] : List (S53)))).bind fun bt250 => ((manifest_Encode.f k 0 ([] : List (S51))).bind fun bt254 => (if bt250.2 = 0 then (if (bt250.1.length : Int) = 2 then (if bt254.2 = 0 then (some ((strOfNums bt254.1).toList == ([0, 0] : List UInt8))) else (some false)) else (some false)) else (some false)))) = some r := by first | (rw [hy244]; with_reducible exact H) | (have H2_ := (Option.bind_some _ _).symm.trans H; rw [hy244]; with_reducible exact H2_) | (have H2_ := (Option.bind_some _ _).symm.trans H; with_reducible exact H2_) | with_reducible exact H | (rw [hy244]; exact H) | exact H
    have Ny244 := Aside0.mk hy244
    clear hy244
    obtain ⟨y247, hy247⟩ : ∃ y_ : List (S53), y_ = (([(⟨(⟨(rd_T51 y239 0).f0, (rd_T51 y239 0).f1⟩ : S51), y244⟩ : S53)] : List (S53))) := ⟨_, rfl⟩
    replace H : ((manifest_Assemble.f 2 y239 y247).bind fun bt250 => ((manifest_Encode.f k 0 ([] : List (S51))).bind fun bt254 => (if bt250.2 = 0 then (if (bt250.1.length : Int) = 2 then (if bt254.2 = 0 then (some ((strOfNums bt254.1).toList == ([0, 0] : List UInt8))) else (some false)) else (some false)) else (some false)))) = some r := by first | (rw [hy247]; with_reducible exact H) | (have H2_ := (Option.bind_some _ _).symm.trans H; rw [hy247]; with_reducible exact H2_) | (have H2_ := (Option.bind_some _ _).symm.trans H; with_reducible exact H2_) | with_reducible exact H | (rw [hy247]; exact H) | exact H
    have Ny247 := Aside0.mk hy247
    clear hy247
    replace H := Option.bind_eq_some_iff.mp H
    obtain ⟨⟨t250, t253⟩, A20, H⟩ := H
    replace H : ((manifest_Encode.f k 0 ([] : List (S51))).bind fun bt254 => (if t253 = 0 then (if (t250.length : Int) = 2 then (if bt254.2 = 0 then (some ((strOfNums bt254.1).toList == ([0, 0] : List UInt8))) else (some false)) else (some false)) else (some false))) = some r := H
    have A2 := Aside0.mk A20
    clear A20
    replace H := Option.bind_eq_some_iff.mp H
    obtain ⟨⟨t254, t257⟩, A30, H⟩ := H
    replace H : (if t253 = 0 then (if (t250.length : Int) = 2 then (if t257 = 0 then (some ((strOfNums t254).toList == ([0, 0] : List UInt8))) else (some false)) else (some false)) else (some false)) = some r := H
    have A3 := Aside0.mk A30
    clear A30
    by_cases c4 : t253 = 0
    · rw [if_pos c4] at H
      have c4b0 : (t253 == 0) = true := beq_iff_eq.mpr c4
      have c4b1 : (t253 != 0) = false := bne_eq_false_iff_eq.mpr c4
      clear c4
      by_cases c5 : (t250.length : Int) = 2
      · rw [if_pos c5] at H
        have c5b0 : ((t250.length : Int) == 2) = true := beq_iff_eq.mpr c5
        have c5b1 : ((t250.length : Int) != 2) = false := bne_eq_false_iff_eq.mpr c5
        clear c5
        by_cases c6 : t257 = 0
        · rw [if_pos c6] at H
          have c6b0 : (t257 == 0) = true := beq_iff_eq.mpr c6
          have c6b1 : (t257 != 0) = false := bne_eq_false_iff_eq.mpr c6
          clear c6
          obtain rfl := Option.some.inj H
          go_enter Try.func23, Try.ntmps23
          try go_wp2_with (first | ((with_reducible refine gate_dst (N := 7) rfl ?_); (try (refine gate_guard (by rfl) ?_; dsimp only)); refine Kd.R_lit k51 _ 51 ?hg (N := 7) ?hd (xs := ([(⟨747382712868975714, 2⟩ : S51)] : List (S51))) (inner := [.int .u64 747382712868975714, .int .i64 2]) (ok := fun _ => True) (okp := fun _ => True) ?hr ?hp (fun _ hk => hk) trivial (Below.refl _ _) (Nat.le_refl _) (by simp) ?_; (case hd => rfl); (case hg => rfl); (case hr => first | (go_simp; done) | (go_simp; rfl)); (case hp => exact (Reps.c2 (show Kd.M k51 _ _ _ (⟨747382712868975714, 2⟩ : S51) [.int .u64 747382712868975714, .int .i64 2] from (k51_mkM _ _ _ (⟨747382712868975714, 2⟩ : S51) )) (Reps.none _ _))); intro v240 w7 ho8 hb hg_ hnew_; clear hg_ hnew_; (first | rw [← Ny239.out] at ho8 | (simp only [Int.reduceToNat] at ho8; rw [← Ny239.out] at ho8)); have n0_ := Aside0.mk (Kd.R_lower ho8 (below_size (by repeat (first | (with_reducible first | exact HB.out | apply below_alloc | apply pw_below_drewN | apply below_drew1) | exact HB.out)))); have n1_ := Aside0.mk (below_step (by repeat (first | (with_reducible first | exact HB.out | apply below_alloc | apply pw_below_drewN | apply below_drew1) | exact HB.out)) hb); clear HB; have HO241 := n0_; have HB := n1_; clear n0_ n1_; clear hb ho8; obtain ⟨Ao9, co9, eo9⟩ := Kd.R_slice HO241.out; subst eo9) | ((with_reducible refine gate_dst (N := 1) rfl ?_); (try (refine gate_guard (by rfl) ?_; dsimp only)); refine box_event ?hg (N := 1) ?hd (cs := #[.int .i64 0, .slice none 0 0]) (t := 31) ?hr ?_; (case hd => rfl); (case hg => rfl); (case hr => first | (go_simp; done) | (go_simp; rfl)); intro gb242 hg w10 hbox hb; have n0_ := Aside0.mk (Kd.R_below (by (with_reducible repeat (first | apply Kd.R_alloc | apply Kd.R_drewN | apply Kd.R_drew)); exact HO241.out) hb); have n1_ := Aside0.mk (below_step (by repeat (first | (with_reducible first | exact HB.out | apply below_alloc | apply pw_below_drewN | apply below_drew1) | exact HB.out)) hb); have n2_ := Aside0.mk (hbox); have n3_ := Aside0.mk ((by rw [hg]; exact (below_size (by repeat (first | (with_reducible first | exact HB.out | apply below_alloc | apply pw_below_drewN | apply below_drew1) | exact HB.out))) : w.heap.size ≤ gb242)); have n4_ := Aside0.mk ((by rw [hg]; exact (below_size (by repeat (first | (with_reducible first | exact HB.out | apply below_alloc | apply pw_below_drewN | apply below_drew1) | exact HB.out))) : w.heap.size ≤ gb242)); clear HO241; clear HB; have HO241 := n0_; have HB := n1_; have BK242 := n2_; have GW242 := n3_; have GE242 := n4_; clear n0_ n1_ n2_ n3_ n4_; clear hb hbox hg; have hcz11_0 : w10.cell? ⟨gb242, 0, none⟩ = some (.int .i64 0) := (blk_cell BK242.out 0).trans rfl; have hcz11_1 : w10.cell? ⟨gb242, 1, none⟩ = some (.slice none 0 0) := (blk_cell BK242.out 1).trans rfl; have hfz11_0 := blk_frozen BK242.out 0; have hfz11_1 := blk_frozen BK242.out 1))
          have n0_ : Aside0 (Kd.R k51 51 ((w10.setCell ⟨gb242, 0, none⟩ (.int .i64 2)).setCell ⟨gb242, 1, none⟩ (.slice Ao9 y239.length co9)) w.heap.size (fun _ => True) (.slice Ao9 y239.length co9) y239) := ⟨by (with_reducible repeat (first | apply Kd.R_alloc | apply Kd.R_drewN | apply Kd.R_drew)); exact Kd.R_mono (Kd.R_far (p := ⟨gb242, 1, none⟩) (Kd.R_far (p := ⟨gb242, 0, none⟩) (Kd.R_types HO241.out BK242.out (by decide)) (fun _ hk => hk.2) (.int .i64 2)) (fun _ hk => hk.2) (.slice Ao9 y239.length co9)) (fun _ hk => trivial)⟩
          have n1_ : Aside0 (((w10.setCell ⟨gb242, 0, none⟩ (.int .i64 2)).setCell ⟨gb242, 1, none⟩ (.slice Ao9 y239.length co9)).heap[gb242]? = some (.cells #[.int .i64 2, .slice Ao9 y239.length co9] 31 (0, 0))) := ⟨by (with_reducible repeat (first | refine blk_drewN ?_ _ | refine blk_drew ?_ | refine blk_alloc ?_ _)); refine blk_put (cs := #[.int .i64 2, .slice none 0 0]) ?_ 1 _ rfl; (with_reducible repeat (first | refine blk_drewN ?_ _ | refine blk_drew ?_ | refine blk_alloc ?_ _)); refine blk_put (cs := #[.int .i64 0, .slice none 0 0]) ?_ 0 _ rfl; (with_reducible repeat (first | refine blk_drewN ?_ _ | refine blk_drew ?_ | refine blk_alloc ?_ _)); exact BK242.out⟩
          have n2_ : Aside0 (Below w.heap.size w ((w10.setCell ⟨gb242, 0, none⟩ (.int .i64 2)).setCell ⟨gb242, 1, none⟩ (.slice Ao9 y239.length co9))) := ⟨by repeat (first | (with_reducible first | exact HB.out | apply below_alloc | apply pw_below_drewN | apply below_drew1 | refine below_set ?_ GE242.out) | exact HB.out)⟩
          (try clear HO241)
          (try clear BK242)
          (try clear HB)
          generalize ((w10.setCell ⟨gb242, 0, none⟩ (.int .i64 2)).setCell ⟨gb242, 1, none⟩ (.slice Ao9 y239.length co9)) = w12 at n0_ n1_ n2_ ⊢
          have HO241 := n0_
          have BK242 := n1_
          have HB := n2_
          clear n0_ n1_ n2_
          have n0_ := Aside0.mk (Kd.R_drew HO241.out)
          have n1_ := Aside0.mk (blk_drew BK242.out)
          have n2_ := Aside0.mk (below_drew1 HB.out)
          clear HO241
          clear BK242
          clear HB
          have HO241 := n0_
          have BK242 := n1_
          have HB := n2_
          clear n0_ n1_ n2_
          have p243 : 0 ≤ (0 : Int) := (by omega)
          have q243 : 0 < (y239.length : Int) := of_decide_eq_true (by first | (with_reducible assumption) | assumption)
          obtain ⟨ad243, e243, hx243_0, hx243_1⟩ := at_T51 (Kd.R_reads' HO241.out).2.2 0 p243 q243
          cases e243
          have qi243 : (0 < y239.length) = True := eq_true (by omega)
          (try rw [show ((0 : Int)).toNat = 0 from rfl] at hx243_0)
          (try rw [show 0 * 2 = 0 from rfl] at hx243_0)
          (try rw [Addr.add_zero'] at hx243_0)
          (try rw [show ((0 : Int)).toNat = 0 from rfl] at hx243_1)
          (try rw [show 0 * 2 = 0 from rfl] at hx243_1)
          (try rw [Addr.add_zero'] at hx243_1)
          replace p243 := eq_true p243
          replace q243 := eq_true q243
          refine start_ (n := 14) (S := fun w' => w'.cell? ⟨gb242, 0, none⟩ = some (.int .i64 2) ∧ w'.cell? ⟨gb242, 1, none⟩ = some (.slice (some ad243) y239.length co9) ∧ w'.cell? ad243 = some (.int .u64 ((rd_T51 y239 0).f0)) ∧ w'.cell? ⟨ad243.block, ad243.off + 1, none⟩ = some (.int .i64 ((rd_T51 y239 0).f1))) (ds := []) #[false, false, false, false, false, false, false, false, false, false, false, false, false, false] (by kernel_rfl) rfl rfl ⟨(blk_cell BK242.out 0).trans rfl, (blk_cell BK242.out 1).trans rfl, hx243_0, hx243_1⟩ (fun hHeld => ?_); refine with_tabW stockyardlaw25_known.tab2 stockyardlaw25_known.bits2 (fun HT_ HW_ => ?_)
          generalize w12.drew = w13 at HO241 BK242 HB hx243_0 hx243_1 hHeld ⊢
          refine pure_ (i := 1) (N := some 11) (v := ?_) (a' := ?_) #[false, true, false, false, false, false, false, false, false, false, false, false, false, false] rfl rfl (any_of HT_.out (by kernel_rfl)) (fun _ _ _ h => h) (Or.inl ⟨by rfl, ?_⟩) ?_ ?_
          rotate_left
          · intro w'
            go_simp
            with_reducible rfl
          rotate_left
          · simp only [Act.put, List.setIfInBounds_toArray, List.set_cons_zero, List.set_cons_succ, i64_w, i32_w]
            rfl
          refine take_ (i := 0) (N := some 10) (v := ?_) (a' := ?_) #[true, true, false, false, false, false, false, false, false, false, false, false, false, false] rfl rfl (take_ofW HT_.out HW_.out (by kernel_rfl)) (fun _ _ _ h => h) (Or.inl ⟨by rfl, ?_⟩) hHeld ?_ ?_
          rotate_left
          · rintro w' ⟨s0, s1, s2, s3⟩
            go_simp
            with_reducible rfl
          rotate_left
          · simp only [Act.put, List.setIfInBounds_toArray, List.set_cons_zero, List.set_cons_succ, i64_w, i32_w]
            rfl
          refine take_ (i := 2) (N := some 12) (v := ?_) (a' := ?_) #[true, true, true, false, false, false, false, false, false, false, false, false, false, false] rfl rfl (take_ofW HT_.out HW_.out (by kernel_rfl)) (fun _ _ _ h => h) (Or.inl ⟨by rfl, ?_⟩) hHeld ?_ ?_
          rotate_left
          · rintro w' ⟨s0, s1, s2, s3⟩
            go_simp
            with_reducible rfl
          rotate_left
          · simp only [Act.put, List.setIfInBounds_toArray, List.set_cons_zero, List.set_cons_succ, i64_w, i32_w]
            rfl
          refine pure_ (i := 3) (N := some 13) (v := ?_) (a' := ?_) #[true, true, true, true, false, false, false, false, false, false, false, false, false, false] rfl rfl (any_of HT_.out (by kernel_rfl)) (fun _ _ _ h => h) (Or.inl ⟨by rfl, ?_⟩) ?_ ?_
          rotate_left
          · intro w'
            go_simp
            with_reducible rfl
          rotate_left
          · simp only [Act.put, List.setIfInBounds_toArray, List.set_cons_zero, List.set_cons_succ, i64_w, i32_w]
            rfl
          refine take_ (i := 4) (N := some 14) (v := ?_) (a' := ?_) #[true, true, true, true, true, false, false, false, false, false, false, false, false, false] rfl rfl (take_ofW HT_.out HW_.out (by kernel_rfl)) (fun _ _ _ h => h) (Or.inl ⟨by rfl, ?_⟩) hHeld ?_ ?_
          rotate_left
          · rintro w' ⟨s0, s1, s2, s3⟩
            go_simp
            with_reducible rfl
          rotate_left
          · simp only [Act.put, List.setIfInBounds_toArray, List.set_cons_zero, List.set_cons_succ, i64_w, i32_w]
            rfl
          refine one_ (i := 5) (N := some 15) #[true, true, true, true, true, true, false, false, false, false, false, false, false, false] rfl rfl (one_of HT_.out (by kernel_rfl)) (by decide) (fun K hK => ?_)
          refine Kd.R_lit_step (Kd.int .u8) _ 5 ?hg (N := 15) ?hd (xs := ([0, 0] : List Int)) (inner := [.int .u8 0, .int .u8 0]) (ok := fun _ => True) (okp := fun _ => True) ?hr ?hp (fun _ hk => hk) trivial (Below.refl _ _) (Nat.le_refl _) (by simp) ?_; (case hd => rfl); (case hg => rfl); (case hr => first | (go_simp; done) | (go_simp; rfl)); (case hp => exact (Reps.one (show Kd.M (Kd.int .u8) _ _ _ 0 [.int .u8 0] from rfl) (Reps.one (show Kd.M (Kd.int .u8) _ _ _ 0 [.int .u8 0] from rfl) (Reps.none _ _))))
          intro v245 w14 ho15 hb hg_ hnew_
          have HS2_ := (hb.cell (World.block_lt_of_cell? _ _ (hHeld.2.2.1))).trans (hHeld.2.2.1)
          have HS3_ := (hb.cell (World.block_lt_of_cell? _ _ (hHeld.2.2.2))).trans (hHeld.2.2.2)
          clear hg_ hnew_
          (first | rw [← Ny244.out] at ho15 | (simp only [Int.reduceToNat] at ho15; rw [← Ny244.out] at ho15))
          have n0_ := Aside0.mk (Kd.R_below (by (with_reducible repeat (first | apply Kd.R_alloc | apply Kd.R_drewN | apply Kd.R_drew)); exact HO241.out) hb)
          have n1_ := Aside0.mk (Kd.R_lower ho15 (below_size (by repeat (first | (with_reducible first | exact HB.out | apply below_alloc | apply pw_below_drewN | apply below_drew1 | refine below_set ?_ GE242.out) | exact HB.out))))
          have n2_ := Aside0.mk (blk_below (g := gb242) (o := .cells #[.int .i64 2, .slice (some ad243) y239.length co9] 31 (0, 0)) (by (with_reducible repeat (first | refine blk_drewN ?_ _ | refine blk_drew ?_ | refine blk_alloc ?_ _)); exact BK242.out) hb)
          have n3_ := Aside0.mk (below_step (by repeat (first | (with_reducible first | exact HB.out | apply below_alloc | apply pw_below_drewN | apply below_drew1 | refine below_set ?_ GE242.out) | exact HB.out)) hb)
          clear HO241
          clear BK242
          clear HB
          have HO241 := n0_
          have HO246 := n1_
          have BK242 := n2_
          have HB := n3_
          clear n0_ n1_ n2_ n3_
          clear hb ho15
          obtain ⟨Ao16, co16, eo16⟩ := Kd.R_slice HO246.out
          (first | subst eo16 | (injection eo16 with f1_ f2_ f3_; have f4_ := f1_.symm; have f5_ := f3_.symm; clear f1_ f2_ f3_; subst f4_; subst f5_))
          refine hK.out _ _ ⟨(blk_cell BK242.out 0).trans rfl, (blk_cell BK242.out 1).trans rfl, HS2_, HS3_⟩ (fun hHeld => ?_)
          clear hK K
          refine norm_ (a' := ?_) ?_ ?_
          rotate_left
          · show Act.put _ (some 15) _ = _
            simp only [Act.put, List.setIfInBounds_toArray, List.set_cons_zero, List.set_cons_succ, i64_w, i32_w]
            rfl
          refine pure_ (i := 6) (N := some 16) (v := ?_) (a' := ?_) #[true, true, true, true, true, true, true, false, false, false, false, false, false, false] rfl rfl (any_of HT_.out (by kernel_rfl)) (fun _ _ _ h => h) (Or.inl ⟨by rfl, ?_⟩) ?_ ?_
          rotate_left
          · intro w'
            go_simp
            with_reducible rfl
          rotate_left
          · simp only [Act.put, List.setIfInBounds_toArray, List.set_cons_zero, List.set_cons_succ, i64_w, i32_w]
            rfl
          refine one_ (i := 7) (N := some 17) #[true, true, true, true, true, true, true, true, false, false, false, false, false, false] rfl rfl (one_of HT_.out (by kernel_rfl)) (by decide) (fun K hK => ?_)
          refine Kd.N_lit_step k53 _ 53 ?hg (N' := 17) ?hd (xs := ([(⟨(⟨(rd_T51 y239 0).f0, (rd_T51 y239 0).f1⟩ : S51), y244⟩ : S53)] : List (S53))) (inner := [.int .u64 ((rd_T51 y239 0).f0), .int .i64 ((rd_T51 y239 0).f1), .slice Ao16 y244.length co16]) (ok := (fun k_ => some k_ ≠ (.slice (some ad243) y239.length co9 : Value).ownBlock ∧ k_ ≠ gb242)) (okp := (fun k_ => some k_ ≠ (.slice (some ad243) y239.length co9 : Value).ownBlock ∧ k_ ≠ gb242)) ?hr ?hp (fun _ hk => hk) ((show ∀ k_, w14.heap.size ≤ k_ → (fun k_ => some k_ ≠ (.slice (some ad243) y239.length co9 : Value).ownBlock ∧ k_ ≠ gb242) k_ from fun k_ hk => ⟨Kd.fresh' (Kd.R_lt (by (with_reducible repeat (first | apply Kd.R_alloc | apply Kd.R_drewN | apply Kd.R_drew)); exact HO241.out)) k_ hk, Kd.freshB (g := gb242) (o := .cells #[.int .i64 2, .slice (some ad243) y239.length co9] 31 (0, 0)) (by (with_reducible repeat (first | refine blk_drewN ?_ _ | refine blk_drew ?_ | refine blk_alloc ?_ _)); exact BK242.out) k_ hk⟩) _ (Nat.le_refl _)) (Below.refl _ _) (Nat.le_refl _) (by simp) ?_; (case hd => rfl); (case hg => rfl); (case hr => first | (go_simp; done) | (go_simp; rfl)); (case hp => exact (Reps.c3 (show Kd.FK k53 _ _ (⟨(⟨(rd_T51 y239 0).f0, (rd_T51 y239 0).f1⟩ : S51), y244⟩ : S53) [.int .u64 ((rd_T51 y239 0).f0), .int .i64 ((rd_T51 y239 0).f1), .slice Ao16 y244.length co16] from (k53_mkF _ _ (⟨(⟨(rd_T51 y239 0).f0, (rd_T51 y239 0).f1⟩ : S51), y244⟩ : S53) (Kd.R_reads' (Kd.R_mono (ok' := (fun k_ => some k_ ≠ (.slice (some ad243) y239.length co9 : Value).ownBlock ∧ k_ ≠ gb242)) (Kd.R_types (Kd.R_apart' (HO246.out) (Kd.R_typed HO241.out) (by decide)) BK242.out (by decide)) (fun k_ hk => ⟨hk.1.2, hk.2⟩))).2.1 (Kd.R_F (Kd.R_mono (ok' := (fun k_ => some k_ ≠ (.slice (some ad243) y239.length co9 : Value).ownBlock ∧ k_ ≠ gb242)) (Kd.R_types (Kd.R_apart' (HO246.out) (Kd.R_typed HO241.out) (by decide)) BK242.out (by decide)) (fun k_ hk => ⟨hk.1.2, hk.2⟩))))) (Reps.none _ _)))
          intro v248 w17 ho18 hb hg_ hnew_
          have HS2_ := (hb.cell (World.block_lt_of_cell? _ _ (hHeld.2.2.1))).trans (hHeld.2.2.1)
          have HS3_ := (hb.cell (World.block_lt_of_cell? _ _ (hHeld.2.2.2))).trans (hHeld.2.2.2)
          clear hg_ hnew_
          (first | rw [← Ny247.out] at ho18 | (simp only [Int.reduceToNat] at ho18; rw [← Ny247.out] at ho18))
          have n0_ := Aside0.mk (Kd.R_below (by (with_reducible repeat (first | apply Kd.R_alloc | apply Kd.R_drewN | apply Kd.R_drew)); exact HO241.out) hb)
          have n1_ := Aside0.mk (Kd.N_lower ho18 (below_size (by repeat (first | (with_reducible first | exact HB.out | apply below_alloc | apply pw_below_drewN | apply below_drew1 | refine below_set ?_ GE242.out) | exact HB.out))))
          have n2_ := Aside0.mk (blk_below (g := gb242) (o := .cells #[.int .i64 2, .slice (some ad243) y239.length co9] 31 (0, 0)) (by (with_reducible repeat (first | refine blk_drewN ?_ _ | refine blk_drew ?_ | refine blk_alloc ?_ _)); exact BK242.out) hb)
          have n3_ := Aside0.mk (below_step (by repeat (first | (with_reducible first | exact HB.out | apply below_alloc | apply pw_below_drewN | apply below_drew1 | refine below_set ?_ GE242.out) | exact HB.out)) hb)
          clear HO241
          clear BK242
          clear HB
          clear HO246
          have HO241 := n0_
          have HO249 := n1_
          have BK242 := n2_
          have HB := n3_
          clear n0_ n1_ n2_ n3_
          clear hb ho18
          obtain ⟨Ao19, co19, eo19⟩ := Kd.N_slice HO249.out
          (first | subst eo19 | (injection eo19 with f1_ f2_ f3_; have f4_ := f1_.symm; have f5_ := f3_.symm; clear f1_ f2_ f3_; subst f4_; subst f5_))
          refine hK.out _ _ ⟨(blk_cell BK242.out 0).trans rfl, (blk_cell BK242.out 1).trans rfl, HS2_, HS3_⟩ (fun hHeld => ?_)
          clear hK K
          refine norm_ (a' := ?_) ?_ ?_
          rotate_left
          · show Act.put _ (some 17) _ = _
            simp only [Act.put, List.setIfInBounds_toArray, List.set_cons_zero, List.set_cons_succ, i64_w, i32_w]
            rfl
          refine one_ (i := 8) (N := some 18) #[true, true, true, true, true, true, true, true, true, false, false, false, false, false] rfl rfl (one_of HT_.out (by kernel_rfl)) (by decide) (fun K hK => ?_)
          refine goes_ Try.func18 (by kernel_rfl) rfl #[.agg #[.int .i64 2, .slice (some ad243) y239.length co9], .slice Ao19 y247.length co19] (by rfl) rfl rfl (by (try simp only [List.map_toArray, List.map_cons, List.map_nil]); first | done | rfl | (simp only [List.length_drop, List.length_take]; rfl)) ?_
          with_reducible refine (manifest_Assemble.calls 2 _ _ y239 _ _ y247 t250 t253 _ ?side1 ?side2 ?side3 ?side4 A2.out).mono ?_
          (case side1 => repeat (first | exact (Kd.R_reads' HO241.out).2.2 | (with_reducible refine Kd.C_alloc ?_ _) | (with_reducible refine Kd.C_drewN ?_ _) | (with_reducible refine Kd.C_drew ?_)))
          (case side2 => exact (Kd.R_reads' HO241.out).2.1)
          (case side3 => repeat (first | exact (Kd.N_reads' HO249.out).2.2 | (with_reducible refine Kd.C_alloc ?_ _) | (with_reducible refine Kd.C_drewN ?_ _) | (with_reducible refine Kd.C_drew ?_)))
          (case side4 => exact (Kd.N_reads' HO249.out).2.1)
          rintro e w20 ⟨v251, rfl, ho0, hb⟩
          have HS2_ := (hb.cell (World.block_lt_of_cell? _ _ (hHeld.2.2.1))).trans (hHeld.2.2.1)
          have HS3_ := (hb.cell (World.block_lt_of_cell? _ _ (hHeld.2.2.2))).trans (hHeld.2.2.2)
          refine ⟨_, rfl, ?_⟩
          have n0_ := Aside0.mk (Kd.R_below (by (with_reducible repeat (first | apply Kd.R_alloc | apply Kd.R_drewN | apply Kd.R_drew)); exact HO241.out) hb)
          have n1_ := Aside0.mk (Kd.N_elder' (by (with_reducible repeat (first | apply Kd.N_alloc | apply Kd.N_drewN | apply Kd.N_drew)); exact HO249.out) (Kd.R_base ho0) hb)
          have n2_ := Aside0.mk (Kd.R_lower ho0 (below_size (by repeat (first | (with_reducible first | exact HB.out | apply below_alloc | apply pw_below_drewN | apply below_drew1 | refine below_set ?_ GE242.out) | exact HB.out))))
          have n3_ := Aside0.mk (blk_below (g := gb242) (o := .cells #[.int .i64 2, .slice (some ad243) y239.length co9] 31 (0, 0)) (by (with_reducible repeat (first | refine blk_drewN ?_ _ | refine blk_drew ?_ | refine blk_alloc ?_ _)); exact BK242.out) hb)
          have n4_ := Aside0.mk (below_step (by repeat (first | (with_reducible first | exact HB.out | apply below_alloc | apply pw_below_drewN | apply below_drew1 | refine below_set ?_ GE242.out) | exact HB.out)) hb)
          clear HO241
          clear HO249
          clear BK242
          clear HB
          have HO241 := n0_
          have HO249 := n1_
          have HO252 := n2_
          have BK242 := n3_
          have HB := n4_
          clear n0_ n1_ n2_ n3_ n4_
          (try clear hb)
          (try clear hb2)
          (try clear hk)
          (try clear hi)
          (try clear ho0)
          refine hK.out _ _ ⟨(blk_cell BK242.out 0).trans rfl, (blk_cell BK242.out 1).trans rfl, HS2_, HS3_⟩ (fun hHeld => ?_)
          clear hK K
          refine norm_ (a' := ?_) ?_ ?_
          rotate_left
          · show Act.put _ (some 18) _ = _
            simp only [Act.put, List.setIfInBounds_toArray, List.set_cons_zero, List.set_cons_succ, i64_w, i32_w]
            rfl
          refine pure_ (i := 9) (N := some 9) (v := ?_) (a' := ?_) #[true, true, true, true, true, true, true, true, true, true, false, false, false, false] rfl rfl (any_of HT_.out (by kernel_rfl)) (fun _ _ _ h => h) (Or.inl ⟨by rfl, ?_⟩) ?_ ?_
          rotate_left
          · intro w'
            go_simp
            with_reducible rfl
          rotate_left
          · simp only [Act.put, List.setIfInBounds_toArray, List.set_cons_zero, List.set_cons_succ, i64_w, i32_w]
            rfl
          refine pure_ (i := 10) (N := some 19) (v := ?_) (a' := ?_) #[true, true, true, true, true, true, true, true, true, true, true, false, false, false] rfl rfl (any_of HT_.out (by kernel_rfl)) (fun _ _ _ h => h) (Or.inl ⟨by rfl, ?_⟩) ?_ ?_
          rotate_left
          · intro w'
            go_simp
            with_reducible rfl
          rotate_left
          · simp only [Act.put, List.setIfInBounds_toArray, List.set_cons_zero, List.set_cons_succ, i64_w, i32_w]
            rfl
          refine pure_ (i := 11) (N := some 20) (v := ?_) (a' := ?_) #[true, true, true, true, true, true, true, true, true, true, true, true, false, false] rfl rfl (any_of HT_.out (by kernel_rfl)) (fun _ _ _ h => h) (Or.inl ⟨by rfl, ?_⟩) ?_ ?_
          rotate_left
          · intro w'
            go_simp
            with_reducible rfl
          rotate_left
          · simp only [Act.put, List.setIfInBounds_toArray, List.set_cons_zero, List.set_cons_succ, i64_w, i32_w]
            rfl
          refine pure_ (i := 12) (N := some 2) (v := ?_) (a' := ?_) #[true, true, true, true, true, true, true, true, true, true, true, true, true, false] rfl rfl (any_of HT_.out (by kernel_rfl)) (fun _ _ _ h => h) (Or.inl ⟨by rfl, ?_⟩) ?_ ?_
          rotate_left
          · intro w'
            go_simp
            with_reducible rfl
          rotate_left
          · simp only [Act.put, List.setIfInBounds_toArray, List.set_cons_zero, List.set_cons_succ, i64_w, i32_w]
            rfl
          refine pure_ (i := 13) (N := some 3) (v := ?_) (a' := ?_) #[true, true, true, true, true, true, true, true, true, true, true, true, true, true] rfl rfl (any_of HT_.out (by kernel_rfl)) (fun _ _ _ h => h) (Or.inl ⟨by rfl, ?_⟩) ?_ ?_
          rotate_left
          · intro w'
            go_simp
            with_reducible rfl
          rotate_left
          · simp only [Act.put, List.setIfInBounds_toArray, List.set_cons_zero, List.set_cons_succ, i64_w, i32_w]
            rfl
          refine done_ (done_of HT_.out (by kernel_rfl)) ?_
          try go_wp2_with (first | ((with_reducible refine gate_callee (f := 36) rfl ?_); refine goesL_ (some 23) rfl rfl Try.func36 (by kernel_rfl) rfl #[.agg #[.int .i64 0, .slice none 0 0]] rfl (by (try simp only [List.map_toArray, List.map_cons, List.map_nil]); first | done | rfl | (simp only [List.length_drop, List.length_take]; rfl)) ?_; (refine (manifest_Encode.calls k 0 _ _ ([] : List (S51)) t254 t257 _ ?side1 ?side2 A3.out).mono ?_); (case side1 => exact Kd.C_nil _ _); (case side2 => exact Nat.le_refl _); rintro e w21 ⟨v255, rfl, ho0, hb⟩; refine ⟨_, rfl, ?_⟩; have n0_ := Aside0.mk (Kd.R_below (by (with_reducible repeat (first | apply Kd.R_alloc | apply Kd.R_drewN | apply Kd.R_drew)); exact HO241.out) hb); have n1_ := Aside0.mk (Kd.N_elder' (by (with_reducible repeat (first | apply Kd.N_alloc | apply Kd.N_drewN | apply Kd.N_drew)); exact HO249.out) (Kd.R_base ho0) hb); have n2_ := Aside0.mk (Kd.R_elder' (by (with_reducible repeat (first | apply Kd.R_alloc | apply Kd.R_drewN | apply Kd.R_drew)); exact HO252.out) (Kd.R_base ho0) hb); have n3_ := Aside0.mk (Kd.R_lower (Kd.R_new' ho0 (Kd.R_lt (by (with_reducible repeat (first | apply Kd.R_alloc | apply Kd.R_drewN | apply Kd.R_drew)); exact HO252.out))) (below_size (by repeat (first | (with_reducible first | exact HB.out | apply below_alloc | apply pw_below_drewN | apply below_drew1 | refine below_set ?_ GE242.out) | exact HB.out)))); have n4_ := Aside0.mk (blk_below (g := gb242) (o := .cells #[.int .i64 2, .slice (some ad243) y239.length co9] 31 (0, 0)) (by (with_reducible repeat (first | refine blk_drewN ?_ _ | refine blk_drew ?_ | refine blk_alloc ?_ _)); exact BK242.out) hb); have n5_ := Aside0.mk (below_step (by repeat (first | (with_reducible first | exact HB.out | apply below_alloc | apply pw_below_drewN | apply below_drew1 | refine below_set ?_ GE242.out) | exact HB.out)) hb); clear HO241; clear HO249; clear HO252; clear BK242; clear HB; have HO241 := n0_; have HO249 := n1_; have HO252 := n2_; have HO256 := n3_; have BK242 := n4_; have HB := n5_; clear n0_ n1_ n2_ n3_ n4_ n5_; (try clear hb); (try clear hb2); (try clear hk); (try clear hi); (try clear ho0); obtain ⟨Ao22, co22, eo22⟩ := Kd.R_slice HO252.out; subst eo22; have hcv23 := own_string (P := Try.prog) Try.underlying34 Try.underlying5 Try.underlying9 (Kd.own_of_R HO256.out)))
          go_ret
          exact ⟨by first | rfl | (simp [errW_none, errW_some] <;> rfl) | (simp [*, errW_none, errW_some] <;> rfl), by repeat (first | (with_reducible first | exact HB.out | apply below_alloc | apply pw_below_drewN | apply below_drew1 | refine below_set ?_ GE242.out) | exact HB.out)⟩
        · rw [if_neg c6] at H
          have c6b0 : (t257 == 0) = false := beq_eq_false_iff_ne.mpr c6
          have c6b1 : (t257 != 0) = true := bne_iff_ne.mpr c6
          obtain rfl := Option.some.inj H
          go_enter Try.func23, Try.ntmps23
          try go_wp2_with (first | ((with_reducible refine gate_dst (N := 7) rfl ?_); (try (refine gate_guard (by rfl) ?_; dsimp only)); refine Kd.R_lit k51 _ 51 ?hg (N := 7) ?hd (xs := ([(⟨747382712868975714, 2⟩ : S51)] : List (S51))) (inner := [.int .u64 747382712868975714, .int .i64 2]) (ok := fun _ => True) (okp := fun _ => True) ?hr ?hp (fun _ hk => hk) trivial (Below.refl _ _) (Nat.le_refl _) (by simp) ?_; (case hd => rfl); (case hg => rfl); (case hr => first | (go_simp; done) | (go_simp; rfl)); (case hp => exact (Reps.c2 (show Kd.M k51 _ _ _ (⟨747382712868975714, 2⟩ : S51) [.int .u64 747382712868975714, .int .i64 2] from (k51_mkM _ _ _ (⟨747382712868975714, 2⟩ : S51) )) (Reps.none _ _))); intro v240 w24 ho25 hb hg_ hnew_; clear hg_ hnew_; (first | rw [← Ny239.out] at ho25 | (simp only [Int.reduceToNat] at ho25; rw [← Ny239.out] at ho25)); have n0_ := Aside0.mk (Kd.R_lower ho25 (below_size (by repeat (first | (with_reducible first | exact HB.out | apply below_alloc | apply pw_below_drewN | apply below_drew1) | exact HB.out)))); have n1_ := Aside0.mk (below_step (by repeat (first | (with_reducible first | exact HB.out | apply below_alloc | apply pw_below_drewN | apply below_drew1) | exact HB.out)) hb); clear HB; have HO241 := n0_; have HB := n1_; clear n0_ n1_; clear hb ho25; obtain ⟨Ao26, co26, eo26⟩ := Kd.R_slice HO241.out; subst eo26) | ((with_reducible refine gate_dst (N := 1) rfl ?_); (try (refine gate_guard (by rfl) ?_; dsimp only)); refine box_event ?hg (N := 1) ?hd (cs := #[.int .i64 0, .slice none 0 0]) (t := 31) ?hr ?_; (case hd => rfl); (case hg => rfl); (case hr => first | (go_simp; done) | (go_simp; rfl)); intro gb242 hg w27 hbox hb; have n0_ := Aside0.mk (Kd.R_below (by (with_reducible repeat (first | apply Kd.R_alloc | apply Kd.R_drewN | apply Kd.R_drew)); exact HO241.out) hb); have n1_ := Aside0.mk (below_step (by repeat (first | (with_reducible first | exact HB.out | apply below_alloc | apply pw_below_drewN | apply below_drew1) | exact HB.out)) hb); have n2_ := Aside0.mk (hbox); have n3_ := Aside0.mk ((by rw [hg]; exact (below_size (by repeat (first | (with_reducible first | exact HB.out | apply below_alloc | apply pw_below_drewN | apply below_drew1) | exact HB.out))) : w.heap.size ≤ gb242)); have n4_ := Aside0.mk ((by rw [hg]; exact (below_size (by repeat (first | (with_reducible first | exact HB.out | apply below_alloc | apply pw_below_drewN | apply below_drew1) | exact HB.out))) : w.heap.size ≤ gb242)); clear HO241; clear HB; have HO241 := n0_; have HB := n1_; have BK242 := n2_; have GW242 := n3_; have GE242 := n4_; clear n0_ n1_ n2_ n3_ n4_; clear hb hbox hg; have hcz28_0 : w27.cell? ⟨gb242, 0, none⟩ = some (.int .i64 0) := (blk_cell BK242.out 0).trans rfl; have hcz28_1 : w27.cell? ⟨gb242, 1, none⟩ = some (.slice none 0 0) := (blk_cell BK242.out 1).trans rfl; have hfz28_0 := blk_frozen BK242.out 0; have hfz28_1 := blk_frozen BK242.out 1))
          have n0_ : Aside0 (Kd.R k51 51 ((w27.setCell ⟨gb242, 0, none⟩ (.int .i64 2)).setCell ⟨gb242, 1, none⟩ (.slice Ao26 y239.length co26)) w.heap.size (fun _ => True) (.slice Ao26 y239.length co26) y239) := ⟨by (with_reducible repeat (first | apply Kd.R_alloc | apply Kd.R_drewN | apply Kd.R_drew)); exact Kd.R_mono (Kd.R_far (p := ⟨gb242, 1, none⟩) (Kd.R_far (p := ⟨gb242, 0, none⟩) (Kd.R_types HO241.out BK242.out (by decide)) (fun _ hk => hk.2) (.int .i64 2)) (fun _ hk => hk.2) (.slice Ao26 y239.length co26)) (fun _ hk => trivial)⟩
          have n1_ : Aside0 (((w27.setCell ⟨gb242, 0, none⟩ (.int .i64 2)).setCell ⟨gb242, 1, none⟩ (.slice Ao26 y239.length co26)).heap[gb242]? = some (.cells #[.int .i64 2, .slice Ao26 y239.length co26] 31 (0, 0))) := ⟨by (with_reducible repeat (first | refine blk_drewN ?_ _ | refine blk_drew ?_ | refine blk_alloc ?_ _)); refine blk_put (cs := #[.int .i64 2, .slice none 0 0]) ?_ 1 _ rfl; (with_reducible repeat (first | refine blk_drewN ?_ _ | refine blk_drew ?_ | refine blk_alloc ?_ _)); refine blk_put (cs := #[.int .i64 0, .slice none 0 0]) ?_ 0 _ rfl; (with_reducible repeat (first | refine blk_drewN ?_ _ | refine blk_drew ?_ | refine blk_alloc ?_ _)); exact BK242.out⟩
          have n2_ : Aside0 (Below w.heap.size w ((w27.setCell ⟨gb242, 0, none⟩ (.int .i64 2)).setCell ⟨gb242, 1, none⟩ (.slice Ao26 y239.length co26))) := ⟨by repeat (first | (with_reducible first | exact HB.out | apply below_alloc | apply pw_below_drewN | apply below_drew1 | refine below_set ?_ GE242.out) | exact HB.out)⟩
          (try clear HO241)
          (try clear BK242)
          (try clear HB)
          generalize ((w27.setCell ⟨gb242, 0, none⟩ (.int .i64 2)).setCell ⟨gb242, 1, none⟩ (.slice Ao26 y239.length co26)) = w29 at n0_ n1_ n2_ ⊢
          have HO241 := n0_
          have BK242 := n1_
          have HB := n2_
          clear n0_ n1_ n2_
          have n0_ := Aside0.mk (Kd.R_drew HO241.out)
          have n1_ := Aside0.mk (blk_drew BK242.out)
          have n2_ := Aside0.mk (below_drew1 HB.out)
          clear HO241
          clear BK242
          clear HB
          have HO241 := n0_
          have BK242 := n1_
          have HB := n2_
          clear n0_ n1_ n2_
          have p243 : 0 ≤ (0 : Int) := (by omega)
          have q243 : 0 < (y239.length : Int) := of_decide_eq_true (by first | (with_reducible assumption) | assumption)
          obtain ⟨ad243, e243, hx243_0, hx243_1⟩ := at_T51 (Kd.R_reads' HO241.out).2.2 0 p243 q243
          cases e243
          have qi243 : (0 < y239.length) = True := eq_true (by omega)
          (try rw [show ((0 : Int)).toNat = 0 from rfl] at hx243_0)
          (try rw [show 0 * 2 = 0 from rfl] at hx243_0)
          (try rw [Addr.add_zero'] at hx243_0)
          (try rw [show ((0 : Int)).toNat = 0 from rfl] at hx243_1)
          (try rw [show 0 * 2 = 0 from rfl] at hx243_1)
          (try rw [Addr.add_zero'] at hx243_1)
          replace p243 := eq_true p243
          replace q243 := eq_true q243
          refine start_ (n := 14) (S := fun w' => w'.cell? ⟨gb242, 0, none⟩ = some (.int .i64 2) ∧ w'.cell? ⟨gb242, 1, none⟩ = some (.slice (some ad243) y239.length co26) ∧ w'.cell? ad243 = some (.int .u64 ((rd_T51 y239 0).f0)) ∧ w'.cell? ⟨ad243.block, ad243.off + 1, none⟩ = some (.int .i64 ((rd_T51 y239 0).f1))) (ds := []) #[false, false, false, false, false, false, false, false, false, false, false, false, false, false] (by kernel_rfl) rfl rfl ⟨(blk_cell BK242.out 0).trans rfl, (blk_cell BK242.out 1).trans rfl, hx243_0, hx243_1⟩ (fun hHeld => ?_); refine with_tabW stockyardlaw25_known.tab2 stockyardlaw25_known.bits2 (fun HT_ HW_ => ?_)
          generalize w29.drew = w30 at HO241 BK242 HB hx243_0 hx243_1 hHeld ⊢
          refine pure_ (i := 1) (N := some 11) (v := ?_) (a' := ?_) #[false, true, false, false, false, false, false, false, false, false, false, false, false, false] rfl rfl (any_of HT_.out (by kernel_rfl)) (fun _ _ _ h => h) (Or.inl ⟨by rfl, ?_⟩) ?_ ?_
          rotate_left
          · intro w'
            go_simp
            with_reducible rfl
          rotate_left
          · simp only [Act.put, List.setIfInBounds_toArray, List.set_cons_zero, List.set_cons_succ, i64_w, i32_w]
            rfl
          refine take_ (i := 0) (N := some 10) (v := ?_) (a' := ?_) #[true, true, false, false, false, false, false, false, false, false, false, false, false, false] rfl rfl (take_ofW HT_.out HW_.out (by kernel_rfl)) (fun _ _ _ h => h) (Or.inl ⟨by rfl, ?_⟩) hHeld ?_ ?_
          rotate_left
          · rintro w' ⟨s0, s1, s2, s3⟩
            go_simp
            with_reducible rfl
          rotate_left
          · simp only [Act.put, List.setIfInBounds_toArray, List.set_cons_zero, List.set_cons_succ, i64_w, i32_w]
            rfl
          refine take_ (i := 2) (N := some 12) (v := ?_) (a' := ?_) #[true, true, true, false, false, false, false, false, false, false, false, false, false, false] rfl rfl (take_ofW HT_.out HW_.out (by kernel_rfl)) (fun _ _ _ h => h) (Or.inl ⟨by rfl, ?_⟩) hHeld ?_ ?_
          rotate_left
          · rintro w' ⟨s0, s1, s2, s3⟩
            go_simp
            with_reducible rfl
          rotate_left
          · simp only [Act.put, List.setIfInBounds_toArray, List.set_cons_zero, List.set_cons_succ, i64_w, i32_w]
            rfl
          refine pure_ (i := 3) (N := some 13) (v := ?_) (a' := ?_) #[true, true, true, true, false, false, false, false, false, false, false, false, false, false] rfl rfl (any_of HT_.out (by kernel_rfl)) (fun _ _ _ h => h) (Or.inl ⟨by rfl, ?_⟩) ?_ ?_
          rotate_left
          · intro w'
            go_simp
            with_reducible rfl
          rotate_left
          · simp only [Act.put, List.setIfInBounds_toArray, List.set_cons_zero, List.set_cons_succ, i64_w, i32_w]
            rfl
          refine take_ (i := 4) (N := some 14) (v := ?_) (a' := ?_) #[true, true, true, true, true, false, false, false, false, false, false, false, false, false] rfl rfl (take_ofW HT_.out HW_.out (by kernel_rfl)) (fun _ _ _ h => h) (Or.inl ⟨by rfl, ?_⟩) hHeld ?_ ?_
          rotate_left
          · rintro w' ⟨s0, s1, s2, s3⟩
            go_simp
            with_reducible rfl
          rotate_left
          · simp only [Act.put, List.setIfInBounds_toArray, List.set_cons_zero, List.set_cons_succ, i64_w, i32_w]
            rfl
          refine one_ (i := 5) (N := some 15) #[true, true, true, true, true, true, false, false, false, false, false, false, false, false] rfl rfl (one_of HT_.out (by kernel_rfl)) (by decide) (fun K hK => ?_)
          refine Kd.R_lit_step (Kd.int .u8) _ 5 ?hg (N := 15) ?hd (xs := ([0, 0] : List Int)) (inner := [.int .u8 0, .int .u8 0]) (ok := fun _ => True) (okp := fun _ => True) ?hr ?hp (fun _ hk => hk) trivial (Below.refl _ _) (Nat.le_refl _) (by simp) ?_; (case hd => rfl); (case hg => rfl); (case hr => first | (go_simp; done) | (go_simp; rfl)); (case hp => exact (Reps.one (show Kd.M (Kd.int .u8) _ _ _ 0 [.int .u8 0] from rfl) (Reps.one (show Kd.M (Kd.int .u8) _ _ _ 0 [.int .u8 0] from rfl) (Reps.none _ _))))
          intro v245 w31 ho32 hb hg_ hnew_
          have HS2_ := (hb.cell (World.block_lt_of_cell? _ _ (hHeld.2.2.1))).trans (hHeld.2.2.1)
          have HS3_ := (hb.cell (World.block_lt_of_cell? _ _ (hHeld.2.2.2))).trans (hHeld.2.2.2)
          clear hg_ hnew_
          (first | rw [← Ny244.out] at ho32 | (simp only [Int.reduceToNat] at ho32; rw [← Ny244.out] at ho32))
          have n0_ := Aside0.mk (Kd.R_below (by (with_reducible repeat (first | apply Kd.R_alloc | apply Kd.R_drewN | apply Kd.R_drew)); exact HO241.out) hb)
          have n1_ := Aside0.mk (Kd.R_lower ho32 (below_size (by repeat (first | (with_reducible first | exact HB.out | apply below_alloc | apply pw_below_drewN | apply below_drew1 | refine below_set ?_ GE242.out) | exact HB.out))))
          have n2_ := Aside0.mk (blk_below (g := gb242) (o := .cells #[.int .i64 2, .slice (some ad243) y239.length co26] 31 (0, 0)) (by (with_reducible repeat (first | refine blk_drewN ?_ _ | refine blk_drew ?_ | refine blk_alloc ?_ _)); exact BK242.out) hb)
          have n3_ := Aside0.mk (below_step (by repeat (first | (with_reducible first | exact HB.out | apply below_alloc | apply pw_below_drewN | apply below_drew1 | refine below_set ?_ GE242.out) | exact HB.out)) hb)
          clear HO241
          clear BK242
          clear HB
          have HO241 := n0_
          have HO246 := n1_
          have BK242 := n2_
          have HB := n3_
          clear n0_ n1_ n2_ n3_
          clear hb ho32
          obtain ⟨Ao33, co33, eo33⟩ := Kd.R_slice HO246.out
          (first | subst eo33 | (injection eo33 with f1_ f2_ f3_; have f4_ := f1_.symm; have f5_ := f3_.symm; clear f1_ f2_ f3_; subst f4_; subst f5_))
          refine hK.out _ _ ⟨(blk_cell BK242.out 0).trans rfl, (blk_cell BK242.out 1).trans rfl, HS2_, HS3_⟩ (fun hHeld => ?_)
          clear hK K
          refine norm_ (a' := ?_) ?_ ?_
          rotate_left
          · show Act.put _ (some 15) _ = _
            simp only [Act.put, List.setIfInBounds_toArray, List.set_cons_zero, List.set_cons_succ, i64_w, i32_w]
            rfl
          refine pure_ (i := 6) (N := some 16) (v := ?_) (a' := ?_) #[true, true, true, true, true, true, true, false, false, false, false, false, false, false] rfl rfl (any_of HT_.out (by kernel_rfl)) (fun _ _ _ h => h) (Or.inl ⟨by rfl, ?_⟩) ?_ ?_
          rotate_left
          · intro w'
            go_simp
            with_reducible rfl
          rotate_left
          · simp only [Act.put, List.setIfInBounds_toArray, List.set_cons_zero, List.set_cons_succ, i64_w, i32_w]
            rfl
          refine one_ (i := 7) (N := some 17) #[true, true, true, true, true, true, true, true, false, false, false, false, false, false] rfl rfl (one_of HT_.out (by kernel_rfl)) (by decide) (fun K hK => ?_)
          refine Kd.N_lit_step k53 _ 53 ?hg (N' := 17) ?hd (xs := ([(⟨(⟨(rd_T51 y239 0).f0, (rd_T51 y239 0).f1⟩ : S51), y244⟩ : S53)] : List (S53))) (inner := [.int .u64 ((rd_T51 y239 0).f0), .int .i64 ((rd_T51 y239 0).f1), .slice Ao33 y244.length co33]) (ok := (fun k_ => some k_ ≠ (.slice (some ad243) y239.length co26 : Value).ownBlock ∧ k_ ≠ gb242)) (okp := (fun k_ => some k_ ≠ (.slice (some ad243) y239.length co26 : Value).ownBlock ∧ k_ ≠ gb242)) ?hr ?hp (fun _ hk => hk) ((show ∀ k_, w31.heap.size ≤ k_ → (fun k_ => some k_ ≠ (.slice (some ad243) y239.length co26 : Value).ownBlock ∧ k_ ≠ gb242) k_ from fun k_ hk => ⟨Kd.fresh' (Kd.R_lt (by (with_reducible repeat (first | apply Kd.R_alloc | apply Kd.R_drewN | apply Kd.R_drew)); exact HO241.out)) k_ hk, Kd.freshB (g := gb242) (o := .cells #[.int .i64 2, .slice (some ad243) y239.length co26] 31 (0, 0)) (by (with_reducible repeat (first | refine blk_drewN ?_ _ | refine blk_drew ?_ | refine blk_alloc ?_ _)); exact BK242.out) k_ hk⟩) _ (Nat.le_refl _)) (Below.refl _ _) (Nat.le_refl _) (by simp) ?_; (case hd => rfl); (case hg => rfl); (case hr => first | (go_simp; done) | (go_simp; rfl)); (case hp => exact (Reps.c3 (show Kd.FK k53 _ _ (⟨(⟨(rd_T51 y239 0).f0, (rd_T51 y239 0).f1⟩ : S51), y244⟩ : S53) [.int .u64 ((rd_T51 y239 0).f0), .int .i64 ((rd_T51 y239 0).f1), .slice Ao33 y244.length co33] from (k53_mkF _ _ (⟨(⟨(rd_T51 y239 0).f0, (rd_T51 y239 0).f1⟩ : S51), y244⟩ : S53) (Kd.R_reads' (Kd.R_mono (ok' := (fun k_ => some k_ ≠ (.slice (some ad243) y239.length co26 : Value).ownBlock ∧ k_ ≠ gb242)) (Kd.R_types (Kd.R_apart' (HO246.out) (Kd.R_typed HO241.out) (by decide)) BK242.out (by decide)) (fun k_ hk => ⟨hk.1.2, hk.2⟩))).2.1 (Kd.R_F (Kd.R_mono (ok' := (fun k_ => some k_ ≠ (.slice (some ad243) y239.length co26 : Value).ownBlock ∧ k_ ≠ gb242)) (Kd.R_types (Kd.R_apart' (HO246.out) (Kd.R_typed HO241.out) (by decide)) BK242.out (by decide)) (fun k_ hk => ⟨hk.1.2, hk.2⟩))))) (Reps.none _ _)))
          intro v248 w34 ho35 hb hg_ hnew_
          have HS2_ := (hb.cell (World.block_lt_of_cell? _ _ (hHeld.2.2.1))).trans (hHeld.2.2.1)
          have HS3_ := (hb.cell (World.block_lt_of_cell? _ _ (hHeld.2.2.2))).trans (hHeld.2.2.2)
          clear hg_ hnew_
          (first | rw [← Ny247.out] at ho35 | (simp only [Int.reduceToNat] at ho35; rw [← Ny247.out] at ho35))
          have n0_ := Aside0.mk (Kd.R_below (by (with_reducible repeat (first | apply Kd.R_alloc | apply Kd.R_drewN | apply Kd.R_drew)); exact HO241.out) hb)
          have n1_ := Aside0.mk (Kd.N_lower ho35 (below_size (by repeat (first | (with_reducible first | exact HB.out | apply below_alloc | apply pw_below_drewN | apply below_drew1 | refine below_set ?_ GE242.out) | exact HB.out))))
          have n2_ := Aside0.mk (blk_below (g := gb242) (o := .cells #[.int .i64 2, .slice (some ad243) y239.length co26] 31 (0, 0)) (by (with_reducible repeat (first | refine blk_drewN ?_ _ | refine blk_drew ?_ | refine blk_alloc ?_ _)); exact BK242.out) hb)
          have n3_ := Aside0.mk (below_step (by repeat (first | (with_reducible first | exact HB.out | apply below_alloc | apply pw_below_drewN | apply below_drew1 | refine below_set ?_ GE242.out) | exact HB.out)) hb)
          clear HO241
          clear BK242
          clear HB
          clear HO246
          have HO241 := n0_
          have HO249 := n1_
          have BK242 := n2_
          have HB := n3_
          clear n0_ n1_ n2_ n3_
          clear hb ho35
          obtain ⟨Ao36, co36, eo36⟩ := Kd.N_slice HO249.out
          (first | subst eo36 | (injection eo36 with f1_ f2_ f3_; have f4_ := f1_.symm; have f5_ := f3_.symm; clear f1_ f2_ f3_; subst f4_; subst f5_))
          refine hK.out _ _ ⟨(blk_cell BK242.out 0).trans rfl, (blk_cell BK242.out 1).trans rfl, HS2_, HS3_⟩ (fun hHeld => ?_)
          clear hK K
          refine norm_ (a' := ?_) ?_ ?_
          rotate_left
          · show Act.put _ (some 17) _ = _
            simp only [Act.put, List.setIfInBounds_toArray, List.set_cons_zero, List.set_cons_succ, i64_w, i32_w]
            rfl
          refine one_ (i := 8) (N := some 18) #[true, true, true, true, true, true, true, true, true, false, false, false, false, false] rfl rfl (one_of HT_.out (by kernel_rfl)) (by decide) (fun K hK => ?_)
          refine goes_ Try.func18 (by kernel_rfl) rfl #[.agg #[.int .i64 2, .slice (some ad243) y239.length co26], .slice Ao36 y247.length co36] (by rfl) rfl rfl (by (try simp only [List.map_toArray, List.map_cons, List.map_nil]); first | done | rfl | (simp only [List.length_drop, List.length_take]; rfl)) ?_
          with_reducible refine (manifest_Assemble.calls 2 _ _ y239 _ _ y247 t250 t253 _ ?side1 ?side2 ?side3 ?side4 A2.out).mono ?_
          (case side1 => repeat (first | exact (Kd.R_reads' HO241.out).2.2 | (with_reducible refine Kd.C_alloc ?_ _) | (with_reducible refine Kd.C_drewN ?_ _) | (with_reducible refine Kd.C_drew ?_)))
          (case side2 => exact (Kd.R_reads' HO241.out).2.1)
          (case side3 => repeat (first | exact (Kd.N_reads' HO249.out).2.2 | (with_reducible refine Kd.C_alloc ?_ _) | (with_reducible refine Kd.C_drewN ?_ _) | (with_reducible refine Kd.C_drew ?_)))
          (case side4 => exact (Kd.N_reads' HO249.out).2.1)
          rintro e w37 ⟨v251, rfl, ho0, hb⟩
          have HS2_ := (hb.cell (World.block_lt_of_cell? _ _ (hHeld.2.2.1))).trans (hHeld.2.2.1)
          have HS3_ := (hb.cell (World.block_lt_of_cell? _ _ (hHeld.2.2.2))).trans (hHeld.2.2.2)
          refine ⟨_, rfl, ?_⟩
          have n0_ := Aside0.mk (Kd.R_below (by (with_reducible repeat (first | apply Kd.R_alloc | apply Kd.R_drewN | apply Kd.R_drew)); exact HO241.out) hb)
          have n1_ := Aside0.mk (Kd.N_elder' (by (with_reducible repeat (first | apply Kd.N_alloc | apply Kd.N_drewN | apply Kd.N_drew)); exact HO249.out) (Kd.R_base ho0) hb)
          have n2_ := Aside0.mk (Kd.R_lower ho0 (below_size (by repeat (first | (with_reducible first | exact HB.out | apply below_alloc | apply pw_below_drewN | apply below_drew1 | refine below_set ?_ GE242.out) | exact HB.out))))
          have n3_ := Aside0.mk (blk_below (g := gb242) (o := .cells #[.int .i64 2, .slice (some ad243) y239.length co26] 31 (0, 0)) (by (with_reducible repeat (first | refine blk_drewN ?_ _ | refine blk_drew ?_ | refine blk_alloc ?_ _)); exact BK242.out) hb)
          have n4_ := Aside0.mk (below_step (by repeat (first | (with_reducible first | exact HB.out | apply below_alloc | apply pw_below_drewN | apply below_drew1 | refine below_set ?_ GE242.out) | exact HB.out)) hb)
          clear HO241
          clear HO249
          clear BK242
          clear HB
          have HO241 := n0_
          have HO249 := n1_
          have HO252 := n2_
          have BK242 := n3_
          have HB := n4_
          clear n0_ n1_ n2_ n3_ n4_
          (try clear hb)
          (try clear hb2)
          (try clear hk)
          (try clear hi)
          (try clear ho0)
          refine hK.out _ _ ⟨(blk_cell BK242.out 0).trans rfl, (blk_cell BK242.out 1).trans rfl, HS2_, HS3_⟩ (fun hHeld => ?_)
          clear hK K
          refine norm_ (a' := ?_) ?_ ?_
          rotate_left
          · show Act.put _ (some 18) _ = _
            simp only [Act.put, List.setIfInBounds_toArray, List.set_cons_zero, List.set_cons_succ, i64_w, i32_w]
            rfl
          refine pure_ (i := 9) (N := some 9) (v := ?_) (a' := ?_) #[true, true, true, true, true, true, true, true, true, true, false, false, false, false] rfl rfl (any_of HT_.out (by kernel_rfl)) (fun _ _ _ h => h) (Or.inl ⟨by rfl, ?_⟩) ?_ ?_
          rotate_left
          · intro w'
            go_simp
            with_reducible rfl
          rotate_left
          · simp only [Act.put, List.setIfInBounds_toArray, List.set_cons_zero, List.set_cons_succ, i64_w, i32_w]
            rfl
          refine pure_ (i := 10) (N := some 19) (v := ?_) (a' := ?_) #[true, true, true, true, true, true, true, true, true, true, true, false, false, false] rfl rfl (any_of HT_.out (by kernel_rfl)) (fun _ _ _ h => h) (Or.inl ⟨by rfl, ?_⟩) ?_ ?_
          rotate_left
          · intro w'
            go_simp
            with_reducible rfl
          rotate_left
          · simp only [Act.put, List.setIfInBounds_toArray, List.set_cons_zero, List.set_cons_succ, i64_w, i32_w]
            rfl
          refine pure_ (i := 11) (N := some 20) (v := ?_) (a' := ?_) #[true, true, true, true, true, true, true, true, true, true, true, true, false, false] rfl rfl (any_of HT_.out (by kernel_rfl)) (fun _ _ _ h => h) (Or.inl ⟨by rfl, ?_⟩) ?_ ?_
          rotate_left
          · intro w'
            go_simp
            with_reducible rfl
          rotate_left
          · simp only [Act.put, List.setIfInBounds_toArray, List.set_cons_zero, List.set_cons_succ, i64_w, i32_w]
            rfl
          refine pure_ (i := 12) (N := some 2) (v := ?_) (a' := ?_) #[true, true, true, true, true, true, true, true, true, true, true, true, true, false] rfl rfl (any_of HT_.out (by kernel_rfl)) (fun _ _ _ h => h) (Or.inl ⟨by rfl, ?_⟩) ?_ ?_
          rotate_left
          · intro w'
            go_simp
            with_reducible rfl
          rotate_left
          · simp only [Act.put, List.setIfInBounds_toArray, List.set_cons_zero, List.set_cons_succ, i64_w, i32_w]
            rfl
          refine pure_ (i := 13) (N := some 3) (v := ?_) (a' := ?_) #[true, true, true, true, true, true, true, true, true, true, true, true, true, true] rfl rfl (any_of HT_.out (by kernel_rfl)) (fun _ _ _ h => h) (Or.inl ⟨by rfl, ?_⟩) ?_ ?_
          rotate_left
          · intro w'
            go_simp
            with_reducible rfl
          rotate_left
          · simp only [Act.put, List.setIfInBounds_toArray, List.set_cons_zero, List.set_cons_succ, i64_w, i32_w]
            rfl
          refine done_ (done_of HT_.out (by kernel_rfl)) ?_
          try go_wp2_with (first | ((with_reducible refine gate_callee (f := 36) rfl ?_); refine goesL_ (some 23) rfl rfl Try.func36 (by kernel_rfl) rfl #[.agg #[.int .i64 0, .slice none 0 0]] rfl (by (try simp only [List.map_toArray, List.map_cons, List.map_nil]); first | done | rfl | (simp only [List.length_drop, List.length_take]; rfl)) ?_; (refine (manifest_Encode.calls k 0 _ _ ([] : List (S51)) t254 t257 _ ?side1 ?side2 A3.out).mono ?_); (case side1 => exact Kd.C_nil _ _); (case side2 => exact Nat.le_refl _); rintro e w38 ⟨v255, rfl, ho0, hb⟩; refine ⟨_, rfl, ?_⟩; have n0_ := Aside0.mk (Kd.R_below (by (with_reducible repeat (first | apply Kd.R_alloc | apply Kd.R_drewN | apply Kd.R_drew)); exact HO241.out) hb); have n1_ := Aside0.mk (Kd.N_elder' (by (with_reducible repeat (first | apply Kd.N_alloc | apply Kd.N_drewN | apply Kd.N_drew)); exact HO249.out) (Kd.R_base ho0) hb); have n2_ := Aside0.mk (Kd.R_elder' (by (with_reducible repeat (first | apply Kd.R_alloc | apply Kd.R_drewN | apply Kd.R_drew)); exact HO252.out) (Kd.R_base ho0) hb); have n3_ := Aside0.mk (Kd.R_lower (Kd.R_new' ho0 (Kd.R_lt (by (with_reducible repeat (first | apply Kd.R_alloc | apply Kd.R_drewN | apply Kd.R_drew)); exact HO252.out))) (below_size (by repeat (first | (with_reducible first | exact HB.out | apply below_alloc | apply pw_below_drewN | apply below_drew1 | refine below_set ?_ GE242.out) | exact HB.out)))); have n4_ := Aside0.mk (blk_below (g := gb242) (o := .cells #[.int .i64 2, .slice (some ad243) y239.length co26] 31 (0, 0)) (by (with_reducible repeat (first | refine blk_drewN ?_ _ | refine blk_drew ?_ | refine blk_alloc ?_ _)); exact BK242.out) hb); have n5_ := Aside0.mk (below_step (by repeat (first | (with_reducible first | exact HB.out | apply below_alloc | apply pw_below_drewN | apply below_drew1 | refine below_set ?_ GE242.out) | exact HB.out)) hb); clear HO241; clear HO249; clear HO252; clear BK242; clear HB; have HO241 := n0_; have HO249 := n1_; have HO252 := n2_; have HO256 := n3_; have BK242 := n4_; have HB := n5_; clear n0_ n1_ n2_ n3_ n4_ n5_; (try clear hb); (try clear hb2); (try clear hk); (try clear hi); (try clear ho0); obtain ⟨Ao39, co39, eo39⟩ := Kd.R_slice HO252.out; subst eo39))
          go_ret
          exact ⟨by first | rfl | (simp [errW_none, errW_some] <;> rfl) | (simp [*, errW_none, errW_some] <;> rfl), by repeat (first | (with_reducible first | exact HB.out | apply below_alloc | apply pw_below_drewN | apply below_drew1 | refine below_set ?_ GE242.out) | exact HB.out)⟩
      · rw [if_neg c5] at H
        have c5b0 : ((t250.length : Int) == 2) = false := beq_eq_false_iff_ne.mpr c5
        have c5b1 : ((t250.length : Int) != 2) = true := bne_iff_ne.mpr c5
        obtain rfl := Option.some.inj H
        go_enter Try.func23, Try.ntmps23
        try go_wp2_with (first | ((with_reducible refine gate_dst (N := 7) rfl ?_); (try (refine gate_guard (by rfl) ?_; dsimp only)); refine Kd.R_lit k51 _ 51 ?hg (N := 7) ?hd (xs := ([(⟨747382712868975714, 2⟩ : S51)] : List (S51))) (inner := [.int .u64 747382712868975714, .int .i64 2]) (ok := fun _ => True) (okp := fun _ => True) ?hr ?hp (fun _ hk => hk) trivial (Below.refl _ _) (Nat.le_refl _) (by simp) ?_; (case hd => rfl); (case hg => rfl); (case hr => first | (go_simp; done) | (go_simp; rfl)); (case hp => exact (Reps.c2 (show Kd.M k51 _ _ _ (⟨747382712868975714, 2⟩ : S51) [.int .u64 747382712868975714, .int .i64 2] from (k51_mkM _ _ _ (⟨747382712868975714, 2⟩ : S51) )) (Reps.none _ _))); intro v240 w40 ho41 hb hg_ hnew_; clear hg_ hnew_; (first | rw [← Ny239.out] at ho41 | (simp only [Int.reduceToNat] at ho41; rw [← Ny239.out] at ho41)); have n0_ := Aside0.mk (Kd.R_lower ho41 (below_size (by repeat (first | (with_reducible first | exact HB.out | apply below_alloc | apply pw_below_drewN | apply below_drew1) | exact HB.out)))); have n1_ := Aside0.mk (below_step (by repeat (first | (with_reducible first | exact HB.out | apply below_alloc | apply pw_below_drewN | apply below_drew1) | exact HB.out)) hb); clear HB; have HO241 := n0_; have HB := n1_; clear n0_ n1_; clear hb ho41; obtain ⟨Ao42, co42, eo42⟩ := Kd.R_slice HO241.out; subst eo42) | ((with_reducible refine gate_dst (N := 1) rfl ?_); (try (refine gate_guard (by rfl) ?_; dsimp only)); refine box_event ?hg (N := 1) ?hd (cs := #[.int .i64 0, .slice none 0 0]) (t := 31) ?hr ?_; (case hd => rfl); (case hg => rfl); (case hr => first | (go_simp; done) | (go_simp; rfl)); intro gb242 hg w43 hbox hb; have n0_ := Aside0.mk (Kd.R_below (by (with_reducible repeat (first | apply Kd.R_alloc | apply Kd.R_drewN | apply Kd.R_drew)); exact HO241.out) hb); have n1_ := Aside0.mk (below_step (by repeat (first | (with_reducible first | exact HB.out | apply below_alloc | apply pw_below_drewN | apply below_drew1) | exact HB.out)) hb); have n2_ := Aside0.mk (hbox); have n3_ := Aside0.mk ((by rw [hg]; exact (below_size (by repeat (first | (with_reducible first | exact HB.out | apply below_alloc | apply pw_below_drewN | apply below_drew1) | exact HB.out))) : w.heap.size ≤ gb242)); have n4_ := Aside0.mk ((by rw [hg]; exact (below_size (by repeat (first | (with_reducible first | exact HB.out | apply below_alloc | apply pw_below_drewN | apply below_drew1) | exact HB.out))) : w.heap.size ≤ gb242)); clear HO241; clear HB; have HO241 := n0_; have HB := n1_; have BK242 := n2_; have GW242 := n3_; have GE242 := n4_; clear n0_ n1_ n2_ n3_ n4_; clear hb hbox hg; have hcz44_0 : w43.cell? ⟨gb242, 0, none⟩ = some (.int .i64 0) := (blk_cell BK242.out 0).trans rfl; have hcz44_1 : w43.cell? ⟨gb242, 1, none⟩ = some (.slice none 0 0) := (blk_cell BK242.out 1).trans rfl; have hfz44_0 := blk_frozen BK242.out 0; have hfz44_1 := blk_frozen BK242.out 1))
        have n0_ : Aside0 (Kd.R k51 51 ((w43.setCell ⟨gb242, 0, none⟩ (.int .i64 2)).setCell ⟨gb242, 1, none⟩ (.slice Ao42 y239.length co42)) w.heap.size (fun _ => True) (.slice Ao42 y239.length co42) y239) := ⟨by (with_reducible repeat (first | apply Kd.R_alloc | apply Kd.R_drewN | apply Kd.R_drew)); exact Kd.R_mono (Kd.R_far (p := ⟨gb242, 1, none⟩) (Kd.R_far (p := ⟨gb242, 0, none⟩) (Kd.R_types HO241.out BK242.out (by decide)) (fun _ hk => hk.2) (.int .i64 2)) (fun _ hk => hk.2) (.slice Ao42 y239.length co42)) (fun _ hk => trivial)⟩
        have n1_ : Aside0 (((w43.setCell ⟨gb242, 0, none⟩ (.int .i64 2)).setCell ⟨gb242, 1, none⟩ (.slice Ao42 y239.length co42)).heap[gb242]? = some (.cells #[.int .i64 2, .slice Ao42 y239.length co42] 31 (0, 0))) := ⟨by (with_reducible repeat (first | refine blk_drewN ?_ _ | refine blk_drew ?_ | refine blk_alloc ?_ _)); refine blk_put (cs := #[.int .i64 2, .slice none 0 0]) ?_ 1 _ rfl; (with_reducible repeat (first | refine blk_drewN ?_ _ | refine blk_drew ?_ | refine blk_alloc ?_ _)); refine blk_put (cs := #[.int .i64 0, .slice none 0 0]) ?_ 0 _ rfl; (with_reducible repeat (first | refine blk_drewN ?_ _ | refine blk_drew ?_ | refine blk_alloc ?_ _)); exact BK242.out⟩
        have n2_ : Aside0 (Below w.heap.size w ((w43.setCell ⟨gb242, 0, none⟩ (.int .i64 2)).setCell ⟨gb242, 1, none⟩ (.slice Ao42 y239.length co42))) := ⟨by repeat (first | (with_reducible first | exact HB.out | apply below_alloc | apply pw_below_drewN | apply below_drew1 | refine below_set ?_ GE242.out) | exact HB.out)⟩
        (try clear HO241)
        (try clear BK242)
        (try clear HB)
        generalize ((w43.setCell ⟨gb242, 0, none⟩ (.int .i64 2)).setCell ⟨gb242, 1, none⟩ (.slice Ao42 y239.length co42)) = w45 at n0_ n1_ n2_ ⊢
        have HO241 := n0_
        have BK242 := n1_
        have HB := n2_
        clear n0_ n1_ n2_
        have n0_ := Aside0.mk (Kd.R_drew HO241.out)
        have n1_ := Aside0.mk (blk_drew BK242.out)
        have n2_ := Aside0.mk (below_drew1 HB.out)
        clear HO241
        clear BK242
        clear HB
        have HO241 := n0_
        have BK242 := n1_
        have HB := n2_
        clear n0_ n1_ n2_
        have p243 : 0 ≤ (0 : Int) := (by omega)
        have q243 : 0 < (y239.length : Int) := of_decide_eq_true (by first | (with_reducible assumption) | assumption)
        obtain ⟨ad243, e243, hx243_0, hx243_1⟩ := at_T51 (Kd.R_reads' HO241.out).2.2 0 p243 q243
        cases e243
        have qi243 : (0 < y239.length) = True := eq_true (by omega)
        (try rw [show ((0 : Int)).toNat = 0 from rfl] at hx243_0)
        (try rw [show 0 * 2 = 0 from rfl] at hx243_0)
        (try rw [Addr.add_zero'] at hx243_0)
        (try rw [show ((0 : Int)).toNat = 0 from rfl] at hx243_1)
        (try rw [show 0 * 2 = 0 from rfl] at hx243_1)
        (try rw [Addr.add_zero'] at hx243_1)
        replace p243 := eq_true p243
        replace q243 := eq_true q243
        refine start_ (n := 14) (S := fun w' => w'.cell? ⟨gb242, 0, none⟩ = some (.int .i64 2) ∧ w'.cell? ⟨gb242, 1, none⟩ = some (.slice (some ad243) y239.length co42) ∧ w'.cell? ad243 = some (.int .u64 ((rd_T51 y239 0).f0)) ∧ w'.cell? ⟨ad243.block, ad243.off + 1, none⟩ = some (.int .i64 ((rd_T51 y239 0).f1))) (ds := []) #[false, false, false, false, false, false, false, false, false, false, false, false, false, false] (by kernel_rfl) rfl rfl ⟨(blk_cell BK242.out 0).trans rfl, (blk_cell BK242.out 1).trans rfl, hx243_0, hx243_1⟩ (fun hHeld => ?_); refine with_tabW stockyardlaw25_known.tab2 stockyardlaw25_known.bits2 (fun HT_ HW_ => ?_)
        generalize w45.drew = w46 at HO241 BK242 HB hx243_0 hx243_1 hHeld ⊢
        refine pure_ (i := 1) (N := some 11) (v := ?_) (a' := ?_) #[false, true, false, false, false, false, false, false, false, false, false, false, false, false] rfl rfl (any_of HT_.out (by kernel_rfl)) (fun _ _ _ h => h) (Or.inl ⟨by rfl, ?_⟩) ?_ ?_
        rotate_left
        · intro w'
          go_simp
          with_reducible rfl
        rotate_left
        · simp only [Act.put, List.setIfInBounds_toArray, List.set_cons_zero, List.set_cons_succ, i64_w, i32_w]
          rfl
        refine take_ (i := 0) (N := some 10) (v := ?_) (a' := ?_) #[true, true, false, false, false, false, false, false, false, false, false, false, false, false] rfl rfl (take_ofW HT_.out HW_.out (by kernel_rfl)) (fun _ _ _ h => h) (Or.inl ⟨by rfl, ?_⟩) hHeld ?_ ?_
        rotate_left
        · rintro w' ⟨s0, s1, s2, s3⟩
          go_simp
          with_reducible rfl
        rotate_left
        · simp only [Act.put, List.setIfInBounds_toArray, List.set_cons_zero, List.set_cons_succ, i64_w, i32_w]
          rfl
        refine take_ (i := 2) (N := some 12) (v := ?_) (a' := ?_) #[true, true, true, false, false, false, false, false, false, false, false, false, false, false] rfl rfl (take_ofW HT_.out HW_.out (by kernel_rfl)) (fun _ _ _ h => h) (Or.inl ⟨by rfl, ?_⟩) hHeld ?_ ?_
        rotate_left
        · rintro w' ⟨s0, s1, s2, s3⟩
          go_simp
          with_reducible rfl
        rotate_left
        · simp only [Act.put, List.setIfInBounds_toArray, List.set_cons_zero, List.set_cons_succ, i64_w, i32_w]
          rfl
        refine pure_ (i := 3) (N := some 13) (v := ?_) (a' := ?_) #[true, true, true, true, false, false, false, false, false, false, false, false, false, false] rfl rfl (any_of HT_.out (by kernel_rfl)) (fun _ _ _ h => h) (Or.inl ⟨by rfl, ?_⟩) ?_ ?_
        rotate_left
        · intro w'
          go_simp
          with_reducible rfl
        rotate_left
        · simp only [Act.put, List.setIfInBounds_toArray, List.set_cons_zero, List.set_cons_succ, i64_w, i32_w]
          rfl
        refine take_ (i := 4) (N := some 14) (v := ?_) (a' := ?_) #[true, true, true, true, true, false, false, false, false, false, false, false, false, false] rfl rfl (take_ofW HT_.out HW_.out (by kernel_rfl)) (fun _ _ _ h => h) (Or.inl ⟨by rfl, ?_⟩) hHeld ?_ ?_
        rotate_left
        · rintro w' ⟨s0, s1, s2, s3⟩
          go_simp
          with_reducible rfl
        rotate_left
        · simp only [Act.put, List.setIfInBounds_toArray, List.set_cons_zero, List.set_cons_succ, i64_w, i32_w]
          rfl
        refine one_ (i := 5) (N := some 15) #[true, true, true, true, true, true, false, false, false, false, false, false, false, false] rfl rfl (one_of HT_.out (by kernel_rfl)) (by decide) (fun K hK => ?_)
        refine Kd.R_lit_step (Kd.int .u8) _ 5 ?hg (N := 15) ?hd (xs := ([0, 0] : List Int)) (inner := [.int .u8 0, .int .u8 0]) (ok := fun _ => True) (okp := fun _ => True) ?hr ?hp (fun _ hk => hk) trivial (Below.refl _ _) (Nat.le_refl _) (by simp) ?_; (case hd => rfl); (case hg => rfl); (case hr => first | (go_simp; done) | (go_simp; rfl)); (case hp => exact (Reps.one (show Kd.M (Kd.int .u8) _ _ _ 0 [.int .u8 0] from rfl) (Reps.one (show Kd.M (Kd.int .u8) _ _ _ 0 [.int .u8 0] from rfl) (Reps.none _ _))))
        intro v245 w47 ho48 hb hg_ hnew_
        have HS2_ := (hb.cell (World.block_lt_of_cell? _ _ (hHeld.2.2.1))).trans (hHeld.2.2.1)
        have HS3_ := (hb.cell (World.block_lt_of_cell? _ _ (hHeld.2.2.2))).trans (hHeld.2.2.2)
        clear hg_ hnew_
        (first | rw [← Ny244.out] at ho48 | (simp only [Int.reduceToNat] at ho48; rw [← Ny244.out] at ho48))
        have n0_ := Aside0.mk (Kd.R_below (by (with_reducible repeat (first | apply Kd.R_alloc | apply Kd.R_drewN | apply Kd.R_drew)); exact HO241.out) hb)
        have n1_ := Aside0.mk (Kd.R_lower ho48 (below_size (by repeat (first | (with_reducible first | exact HB.out | apply below_alloc | apply pw_below_drewN | apply below_drew1 | refine below_set ?_ GE242.out) | exact HB.out))))
        have n2_ := Aside0.mk (blk_below (g := gb242) (o := .cells #[.int .i64 2, .slice (some ad243) y239.length co42] 31 (0, 0)) (by (with_reducible repeat (first | refine blk_drewN ?_ _ | refine blk_drew ?_ | refine blk_alloc ?_ _)); exact BK242.out) hb)
        have n3_ := Aside0.mk (below_step (by repeat (first | (with_reducible first | exact HB.out | apply below_alloc | apply pw_below_drewN | apply below_drew1 | refine below_set ?_ GE242.out) | exact HB.out)) hb)
        clear HO241
        clear BK242
        clear HB
        have HO241 := n0_
        have HO246 := n1_
        have BK242 := n2_
        have HB := n3_
        clear n0_ n1_ n2_ n3_
        clear hb ho48
        obtain ⟨Ao49, co49, eo49⟩ := Kd.R_slice HO246.out
        (first | subst eo49 | (injection eo49 with f1_ f2_ f3_; have f4_ := f1_.symm; have f5_ := f3_.symm; clear f1_ f2_ f3_; subst f4_; subst f5_))
        refine hK.out _ _ ⟨(blk_cell BK242.out 0).trans rfl, (blk_cell BK242.out 1).trans rfl, HS2_, HS3_⟩ (fun hHeld => ?_)
        clear hK K
        refine norm_ (a' := ?_) ?_ ?_
        rotate_left
        · show Act.put _ (some 15) _ = _
          simp only [Act.put, List.setIfInBounds_toArray, List.set_cons_zero, List.set_cons_succ, i64_w, i32_w]
          rfl
        refine pure_ (i := 6) (N := some 16) (v := ?_) (a' := ?_) #[true, true, true, true, true, true, true, false, false, false, false, false, false, false] rfl rfl (any_of HT_.out (by kernel_rfl)) (fun _ _ _ h => h) (Or.inl ⟨by rfl, ?_⟩) ?_ ?_
        rotate_left
        · intro w'
          go_simp
          with_reducible rfl
        rotate_left
        · simp only [Act.put, List.setIfInBounds_toArray, List.set_cons_zero, List.set_cons_succ, i64_w, i32_w]
          rfl
        refine one_ (i := 7) (N := some 17) #[true, true, true, true, true, true, true, true, false, false, false, false, false, false] rfl rfl (one_of HT_.out (by kernel_rfl)) (by decide) (fun K hK => ?_)
        refine Kd.N_lit_step k53 _ 53 ?hg (N' := 17) ?hd (xs := ([(⟨(⟨(rd_T51 y239 0).f0, (rd_T51 y239 0).f1⟩ : S51), y244⟩ : S53)] : List (S53))) (inner := [.int .u64 ((rd_T51 y239 0).f0), .int .i64 ((rd_T51 y239 0).f1), .slice Ao49 y244.length co49]) (ok := (fun k_ => some k_ ≠ (.slice (some ad243) y239.length co42 : Value).ownBlock ∧ k_ ≠ gb242)) (okp := (fun k_ => some k_ ≠ (.slice (some ad243) y239.length co42 : Value).ownBlock ∧ k_ ≠ gb242)) ?hr ?hp (fun _ hk => hk) ((show ∀ k_, w47.heap.size ≤ k_ → (fun k_ => some k_ ≠ (.slice (some ad243) y239.length co42 : Value).ownBlock ∧ k_ ≠ gb242) k_ from fun k_ hk => ⟨Kd.fresh' (Kd.R_lt (by (with_reducible repeat (first | apply Kd.R_alloc | apply Kd.R_drewN | apply Kd.R_drew)); exact HO241.out)) k_ hk, Kd.freshB (g := gb242) (o := .cells #[.int .i64 2, .slice (some ad243) y239.length co42] 31 (0, 0)) (by (with_reducible repeat (first | refine blk_drewN ?_ _ | refine blk_drew ?_ | refine blk_alloc ?_ _)); exact BK242.out) k_ hk⟩) _ (Nat.le_refl _)) (Below.refl _ _) (Nat.le_refl _) (by simp) ?_; (case hd => rfl); (case hg => rfl); (case hr => first | (go_simp; done) | (go_simp; rfl)); (case hp => exact (Reps.c3 (show Kd.FK k53 _ _ (⟨(⟨(rd_T51 y239 0).f0, (rd_T51 y239 0).f1⟩ : S51), y244⟩ : S53) [.int .u64 ((rd_T51 y239 0).f0), .int .i64 ((rd_T51 y239 0).f1), .slice Ao49 y244.length co49] from (k53_mkF _ _ (⟨(⟨(rd_T51 y239 0).f0, (rd_T51 y239 0).f1⟩ : S51), y244⟩ : S53) (Kd.R_reads' (Kd.R_mono (ok' := (fun k_ => some k_ ≠ (.slice (some ad243) y239.length co42 : Value).ownBlock ∧ k_ ≠ gb242)) (Kd.R_types (Kd.R_apart' (HO246.out) (Kd.R_typed HO241.out) (by decide)) BK242.out (by decide)) (fun k_ hk => ⟨hk.1.2, hk.2⟩))).2.1 (Kd.R_F (Kd.R_mono (ok' := (fun k_ => some k_ ≠ (.slice (some ad243) y239.length co42 : Value).ownBlock ∧ k_ ≠ gb242)) (Kd.R_types (Kd.R_apart' (HO246.out) (Kd.R_typed HO241.out) (by decide)) BK242.out (by decide)) (fun k_ hk => ⟨hk.1.2, hk.2⟩))))) (Reps.none _ _)))
        intro v248 w50 ho51 hb hg_ hnew_
        have HS2_ := (hb.cell (World.block_lt_of_cell? _ _ (hHeld.2.2.1))).trans (hHeld.2.2.1)
        have HS3_ := (hb.cell (World.block_lt_of_cell? _ _ (hHeld.2.2.2))).trans (hHeld.2.2.2)
        clear hg_ hnew_
        (first | rw [← Ny247.out] at ho51 | (simp only [Int.reduceToNat] at ho51; rw [← Ny247.out] at ho51))
        have n0_ := Aside0.mk (Kd.R_below (by (with_reducible repeat (first | apply Kd.R_alloc | apply Kd.R_drewN | apply Kd.R_drew)); exact HO241.out) hb)
        have n1_ := Aside0.mk (Kd.N_lower ho51 (below_size (by repeat (first | (with_reducible first | exact HB.out | apply below_alloc | apply pw_below_drewN | apply below_drew1 | refine below_set ?_ GE242.out) | exact HB.out))))
        have n2_ := Aside0.mk (blk_below (g := gb242) (o := .cells #[.int .i64 2, .slice (some ad243) y239.length co42] 31 (0, 0)) (by (with_reducible repeat (first | refine blk_drewN ?_ _ | refine blk_drew ?_ | refine blk_alloc ?_ _)); exact BK242.out) hb)
        have n3_ := Aside0.mk (below_step (by repeat (first | (with_reducible first | exact HB.out | apply below_alloc | apply pw_below_drewN | apply below_drew1 | refine below_set ?_ GE242.out) | exact HB.out)) hb)
        clear HO241
        clear BK242
        clear HB
        clear HO246
        have HO241 := n0_
        have HO249 := n1_
        have BK242 := n2_
        have HB := n3_
        clear n0_ n1_ n2_ n3_
        clear hb ho51
        obtain ⟨Ao52, co52, eo52⟩ := Kd.N_slice HO249.out
        (first | subst eo52 | (injection eo52 with f1_ f2_ f3_; have f4_ := f1_.symm; have f5_ := f3_.symm; clear f1_ f2_ f3_; subst f4_; subst f5_))
        refine hK.out _ _ ⟨(blk_cell BK242.out 0).trans rfl, (blk_cell BK242.out 1).trans rfl, HS2_, HS3_⟩ (fun hHeld => ?_)
        clear hK K
        refine norm_ (a' := ?_) ?_ ?_
        rotate_left
        · show Act.put _ (some 17) _ = _
          simp only [Act.put, List.setIfInBounds_toArray, List.set_cons_zero, List.set_cons_succ, i64_w, i32_w]
          rfl
        refine one_ (i := 8) (N := some 18) #[true, true, true, true, true, true, true, true, true, false, false, false, false, false] rfl rfl (one_of HT_.out (by kernel_rfl)) (by decide) (fun K hK => ?_)
        refine goes_ Try.func18 (by kernel_rfl) rfl #[.agg #[.int .i64 2, .slice (some ad243) y239.length co42], .slice Ao52 y247.length co52] (by rfl) rfl rfl (by (try simp only [List.map_toArray, List.map_cons, List.map_nil]); first | done | rfl | (simp only [List.length_drop, List.length_take]; rfl)) ?_
        with_reducible refine (manifest_Assemble.calls 2 _ _ y239 _ _ y247 t250 t253 _ ?side1 ?side2 ?side3 ?side4 A2.out).mono ?_
        (case side1 => repeat (first | exact (Kd.R_reads' HO241.out).2.2 | (with_reducible refine Kd.C_alloc ?_ _) | (with_reducible refine Kd.C_drewN ?_ _) | (with_reducible refine Kd.C_drew ?_)))
        (case side2 => exact (Kd.R_reads' HO241.out).2.1)
        (case side3 => repeat (first | exact (Kd.N_reads' HO249.out).2.2 | (with_reducible refine Kd.C_alloc ?_ _) | (with_reducible refine Kd.C_drewN ?_ _) | (with_reducible refine Kd.C_drew ?_)))
        (case side4 => exact (Kd.N_reads' HO249.out).2.1)
        rintro e w53 ⟨v251, rfl, ho0, hb⟩
        have HS2_ := (hb.cell (World.block_lt_of_cell? _ _ (hHeld.2.2.1))).trans (hHeld.2.2.1)
        have HS3_ := (hb.cell (World.block_lt_of_cell? _ _ (hHeld.2.2.2))).trans (hHeld.2.2.2)
        refine ⟨_, rfl, ?_⟩
        have n0_ := Aside0.mk (Kd.R_below (by (with_reducible repeat (first | apply Kd.R_alloc | apply Kd.R_drewN | apply Kd.R_drew)); exact HO241.out) hb)
        have n1_ := Aside0.mk (Kd.N_elder' (by (with_reducible repeat (first | apply Kd.N_alloc | apply Kd.N_drewN | apply Kd.N_drew)); exact HO249.out) (Kd.R_base ho0) hb)
        have n2_ := Aside0.mk (Kd.R_lower ho0 (below_size (by repeat (first | (with_reducible first | exact HB.out | apply below_alloc | apply pw_below_drewN | apply below_drew1 | refine below_set ?_ GE242.out) | exact HB.out))))
        have n3_ := Aside0.mk (blk_below (g := gb242) (o := .cells #[.int .i64 2, .slice (some ad243) y239.length co42] 31 (0, 0)) (by (with_reducible repeat (first | refine blk_drewN ?_ _ | refine blk_drew ?_ | refine blk_alloc ?_ _)); exact BK242.out) hb)
        have n4_ := Aside0.mk (below_step (by repeat (first | (with_reducible first | exact HB.out | apply below_alloc | apply pw_below_drewN | apply below_drew1 | refine below_set ?_ GE242.out) | exact HB.out)) hb)
        clear HO241
        clear HO249
        clear BK242
        clear HB
        have HO241 := n0_
        have HO249 := n1_
        have HO252 := n2_
        have BK242 := n3_
        have HB := n4_
        clear n0_ n1_ n2_ n3_ n4_
        (try clear hb)
        (try clear hb2)
        (try clear hk)
        (try clear hi)
        (try clear ho0)
        refine hK.out _ _ ⟨(blk_cell BK242.out 0).trans rfl, (blk_cell BK242.out 1).trans rfl, HS2_, HS3_⟩ (fun hHeld => ?_)
        clear hK K
        refine norm_ (a' := ?_) ?_ ?_
        rotate_left
        · show Act.put _ (some 18) _ = _
          simp only [Act.put, List.setIfInBounds_toArray, List.set_cons_zero, List.set_cons_succ, i64_w, i32_w]
          rfl
        refine pure_ (i := 9) (N := some 9) (v := ?_) (a' := ?_) #[true, true, true, true, true, true, true, true, true, true, false, false, false, false] rfl rfl (any_of HT_.out (by kernel_rfl)) (fun _ _ _ h => h) (Or.inl ⟨by rfl, ?_⟩) ?_ ?_
        rotate_left
        · intro w'
          go_simp
          with_reducible rfl
        rotate_left
        · simp only [Act.put, List.setIfInBounds_toArray, List.set_cons_zero, List.set_cons_succ, i64_w, i32_w]
          rfl
        refine pure_ (i := 10) (N := some 19) (v := ?_) (a' := ?_) #[true, true, true, true, true, true, true, true, true, true, true, false, false, false] rfl rfl (any_of HT_.out (by kernel_rfl)) (fun _ _ _ h => h) (Or.inl ⟨by rfl, ?_⟩) ?_ ?_
        rotate_left
        · intro w'
          go_simp
          with_reducible rfl
        rotate_left
        · simp only [Act.put, List.setIfInBounds_toArray, List.set_cons_zero, List.set_cons_succ, i64_w, i32_w]
          rfl
        refine pure_ (i := 11) (N := some 20) (v := ?_) (a' := ?_) #[true, true, true, true, true, true, true, true, true, true, true, true, false, false] rfl rfl (any_of HT_.out (by kernel_rfl)) (fun _ _ _ h => h) (Or.inl ⟨by rfl, ?_⟩) ?_ ?_
        rotate_left
        · intro w'
          go_simp
          with_reducible rfl
        rotate_left
        · simp only [Act.put, List.setIfInBounds_toArray, List.set_cons_zero, List.set_cons_succ, i64_w, i32_w]
          rfl
        refine pure_ (i := 12) (N := some 2) (v := ?_) (a' := ?_) #[true, true, true, true, true, true, true, true, true, true, true, true, true, false] rfl rfl (any_of HT_.out (by kernel_rfl)) (fun _ _ _ h => h) (Or.inl ⟨by rfl, ?_⟩) ?_ ?_
        rotate_left
        · intro w'
          go_simp
          with_reducible rfl
        rotate_left
        · simp only [Act.put, List.setIfInBounds_toArray, List.set_cons_zero, List.set_cons_succ, i64_w, i32_w]
          rfl
        refine pure_ (i := 13) (N := some 3) (v := ?_) (a' := ?_) #[true, true, true, true, true, true, true, true, true, true, true, true, true, true] rfl rfl (any_of HT_.out (by kernel_rfl)) (fun _ _ _ h => h) (Or.inl ⟨by rfl, ?_⟩) ?_ ?_
        rotate_left
        · intro w'
          go_simp
          with_reducible rfl
        rotate_left
        · simp only [Act.put, List.setIfInBounds_toArray, List.set_cons_zero, List.set_cons_succ, i64_w, i32_w]
          rfl
        refine done_ (done_of HT_.out (by kernel_rfl)) ?_
        try go_wp2_with (first | ((with_reducible refine gate_callee (f := 36) rfl ?_); refine goesL_ (some 23) rfl rfl Try.func36 (by kernel_rfl) rfl #[.agg #[.int .i64 0, .slice none 0 0]] rfl (by (try simp only [List.map_toArray, List.map_cons, List.map_nil]); first | done | rfl | (simp only [List.length_drop, List.length_take]; rfl)) ?_; (refine (manifest_Encode.calls k 0 _ _ ([] : List (S51)) t254 t257 _ ?side1 ?side2 A3.out).mono ?_); (case side1 => exact Kd.C_nil _ _); (case side2 => exact Nat.le_refl _); rintro e w54 ⟨v255, rfl, ho0, hb⟩; refine ⟨_, rfl, ?_⟩; have n0_ := Aside0.mk (Kd.R_below (by (with_reducible repeat (first | apply Kd.R_alloc | apply Kd.R_drewN | apply Kd.R_drew)); exact HO241.out) hb); have n1_ := Aside0.mk (Kd.N_elder' (by (with_reducible repeat (first | apply Kd.N_alloc | apply Kd.N_drewN | apply Kd.N_drew)); exact HO249.out) (Kd.R_base ho0) hb); have n2_ := Aside0.mk (Kd.R_elder' (by (with_reducible repeat (first | apply Kd.R_alloc | apply Kd.R_drewN | apply Kd.R_drew)); exact HO252.out) (Kd.R_base ho0) hb); have n3_ := Aside0.mk (Kd.R_lower (Kd.R_new' ho0 (Kd.R_lt (by (with_reducible repeat (first | apply Kd.R_alloc | apply Kd.R_drewN | apply Kd.R_drew)); exact HO252.out))) (below_size (by repeat (first | (with_reducible first | exact HB.out | apply below_alloc | apply pw_below_drewN | apply below_drew1 | refine below_set ?_ GE242.out) | exact HB.out)))); have n4_ := Aside0.mk (blk_below (g := gb242) (o := .cells #[.int .i64 2, .slice (some ad243) y239.length co42] 31 (0, 0)) (by (with_reducible repeat (first | refine blk_drewN ?_ _ | refine blk_drew ?_ | refine blk_alloc ?_ _)); exact BK242.out) hb); have n5_ := Aside0.mk (below_step (by repeat (first | (with_reducible first | exact HB.out | apply below_alloc | apply pw_below_drewN | apply below_drew1 | refine below_set ?_ GE242.out) | exact HB.out)) hb); clear HO241; clear HO249; clear HO252; clear BK242; clear HB; have HO241 := n0_; have HO249 := n1_; have HO252 := n2_; have HO256 := n3_; have BK242 := n4_; have HB := n5_; clear n0_ n1_ n2_ n3_ n4_ n5_; (try clear hb); (try clear hb2); (try clear hk); (try clear hi); (try clear ho0); obtain ⟨Ao55, co55, eo55⟩ := Kd.R_slice HO252.out; subst eo55))
        go_ret
        exact ⟨by first | rfl | (simp [errW_none, errW_some] <;> rfl) | (simp [*, errW_none, errW_some] <;> rfl), by repeat (first | (with_reducible first | exact HB.out | apply below_alloc | apply pw_below_drewN | apply below_drew1 | refine below_set ?_ GE242.out) | exact HB.out)⟩
    · rw [if_neg c4] at H
      have c4b0 : (t253 == 0) = false := beq_eq_false_iff_ne.mpr c4
      have c4b1 : (t253 != 0) = true := bne_iff_ne.mpr c4
      obtain rfl := Option.some.inj H
      go_enter Try.func23, Try.ntmps23
      try go_wp2_with (first | ((with_reducible refine gate_dst (N := 7) rfl ?_); (try (refine gate_guard (by rfl) ?_; dsimp only)); refine Kd.R_lit k51 _ 51 ?hg (N := 7) ?hd (xs := ([(⟨747382712868975714, 2⟩ : S51)] : List (S51))) (inner := [.int .u64 747382712868975714, .int .i64 2]) (ok := fun _ => True) (okp := fun _ => True) ?hr ?hp (fun _ hk => hk) trivial (Below.refl _ _) (Nat.le_refl _) (by simp) ?_; (case hd => rfl); (case hg => rfl); (case hr => first | (go_simp; done) | (go_simp; rfl)); (case hp => exact (Reps.c2 (show Kd.M k51 _ _ _ (⟨747382712868975714, 2⟩ : S51) [.int .u64 747382712868975714, .int .i64 2] from (k51_mkM _ _ _ (⟨747382712868975714, 2⟩ : S51) )) (Reps.none _ _))); intro v240 w56 ho57 hb hg_ hnew_; clear hg_ hnew_; (first | rw [← Ny239.out] at ho57 | (simp only [Int.reduceToNat] at ho57; rw [← Ny239.out] at ho57)); have n0_ := Aside0.mk (Kd.R_lower ho57 (below_size (by repeat (first | (with_reducible first | exact HB.out | apply below_alloc | apply pw_below_drewN | apply below_drew1) | exact HB.out)))); have n1_ := Aside0.mk (below_step (by repeat (first | (with_reducible first | exact HB.out | apply below_alloc | apply pw_below_drewN | apply below_drew1) | exact HB.out)) hb); clear HB; have HO241 := n0_; have HB := n1_; clear n0_ n1_; clear hb ho57; obtain ⟨Ao58, co58, eo58⟩ := Kd.R_slice HO241.out; subst eo58) | ((with_reducible refine gate_dst (N := 1) rfl ?_); (try (refine gate_guard (by rfl) ?_; dsimp only)); refine box_event ?hg (N := 1) ?hd (cs := #[.int .i64 0, .slice none 0 0]) (t := 31) ?hr ?_; (case hd => rfl); (case hg => rfl); (case hr => first | (go_simp; done) | (go_simp; rfl)); intro gb242 hg w59 hbox hb; have n0_ := Aside0.mk (Kd.R_below (by (with_reducible repeat (first | apply Kd.R_alloc | apply Kd.R_drewN | apply Kd.R_drew)); exact HO241.out) hb); have n1_ := Aside0.mk (below_step (by repeat (first | (with_reducible first | exact HB.out | apply below_alloc | apply pw_below_drewN | apply below_drew1) | exact HB.out)) hb); have n2_ := Aside0.mk (hbox); have n3_ := Aside0.mk ((by rw [hg]; exact (below_size (by repeat (first | (with_reducible first | exact HB.out | apply below_alloc | apply pw_below_drewN | apply below_drew1) | exact HB.out))) : w.heap.size ≤ gb242)); have n4_ := Aside0.mk ((by rw [hg]; exact (below_size (by repeat (first | (with_reducible first | exact HB.out | apply below_alloc | apply pw_below_drewN | apply below_drew1) | exact HB.out))) : w.heap.size ≤ gb242)); clear HO241; clear HB; have HO241 := n0_; have HB := n1_; have BK242 := n2_; have GW242 := n3_; have GE242 := n4_; clear n0_ n1_ n2_ n3_ n4_; clear hb hbox hg; have hcz60_0 : w59.cell? ⟨gb242, 0, none⟩ = some (.int .i64 0) := (blk_cell BK242.out 0).trans rfl; have hcz60_1 : w59.cell? ⟨gb242, 1, none⟩ = some (.slice none 0 0) := (blk_cell BK242.out 1).trans rfl; have hfz60_0 := blk_frozen BK242.out 0; have hfz60_1 := blk_frozen BK242.out 1))
      have n0_ : Aside0 (Kd.R k51 51 ((w59.setCell ⟨gb242, 0, none⟩ (.int .i64 2)).setCell ⟨gb242, 1, none⟩ (.slice Ao58 y239.length co58)) w.heap.size (fun _ => True) (.slice Ao58 y239.length co58) y239) := ⟨by (with_reducible repeat (first | apply Kd.R_alloc | apply Kd.R_drewN | apply Kd.R_drew)); exact Kd.R_mono (Kd.R_far (p := ⟨gb242, 1, none⟩) (Kd.R_far (p := ⟨gb242, 0, none⟩) (Kd.R_types HO241.out BK242.out (by decide)) (fun _ hk => hk.2) (.int .i64 2)) (fun _ hk => hk.2) (.slice Ao58 y239.length co58)) (fun _ hk => trivial)⟩
      have n1_ : Aside0 (((w59.setCell ⟨gb242, 0, none⟩ (.int .i64 2)).setCell ⟨gb242, 1, none⟩ (.slice Ao58 y239.length co58)).heap[gb242]? = some (.cells #[.int .i64 2, .slice Ao58 y239.length co58] 31 (0, 0))) := ⟨by (with_reducible repeat (first | refine blk_drewN ?_ _ | refine blk_drew ?_ | refine blk_alloc ?_ _)); refine blk_put (cs := #[.int .i64 2, .slice none 0 0]) ?_ 1 _ rfl; (with_reducible repeat (first | refine blk_drewN ?_ _ | refine blk_drew ?_ | refine blk_alloc ?_ _)); refine blk_put (cs := #[.int .i64 0, .slice none 0 0]) ?_ 0 _ rfl; (with_reducible repeat (first | refine blk_drewN ?_ _ | refine blk_drew ?_ | refine blk_alloc ?_ _)); exact BK242.out⟩
      have n2_ : Aside0 (Below w.heap.size w ((w59.setCell ⟨gb242, 0, none⟩ (.int .i64 2)).setCell ⟨gb242, 1, none⟩ (.slice Ao58 y239.length co58))) := ⟨by repeat (first | (with_reducible first | exact HB.out | apply below_alloc | apply pw_below_drewN | apply below_drew1 | refine below_set ?_ GE242.out) | exact HB.out)⟩
      (try clear HO241)
      (try clear BK242)
      (try clear HB)
      generalize ((w59.setCell ⟨gb242, 0, none⟩ (.int .i64 2)).setCell ⟨gb242, 1, none⟩ (.slice Ao58 y239.length co58)) = w61 at n0_ n1_ n2_ ⊢
      have HO241 := n0_
      have BK242 := n1_
      have HB := n2_
      clear n0_ n1_ n2_
      have n0_ := Aside0.mk (Kd.R_drew HO241.out)
      have n1_ := Aside0.mk (blk_drew BK242.out)
      have n2_ := Aside0.mk (below_drew1 HB.out)
      clear HO241
      clear BK242
      clear HB
      have HO241 := n0_
      have BK242 := n1_
      have HB := n2_
      clear n0_ n1_ n2_
      have p243 : 0 ≤ (0 : Int) := (by omega)
      have q243 : 0 < (y239.length : Int) := of_decide_eq_true (by first | (with_reducible assumption) | assumption)
      obtain ⟨ad243, e243, hx243_0, hx243_1⟩ := at_T51 (Kd.R_reads' HO241.out).2.2 0 p243 q243
      cases e243
      have qi243 : (0 < y239.length) = True := eq_true (by omega)
      (try rw [show ((0 : Int)).toNat = 0 from rfl] at hx243_0)
      (try rw [show 0 * 2 = 0 from rfl] at hx243_0)
      (try rw [Addr.add_zero'] at hx243_0)
      (try rw [show ((0 : Int)).toNat = 0 from rfl] at hx243_1)
      (try rw [show 0 * 2 = 0 from rfl] at hx243_1)
      (try rw [Addr.add_zero'] at hx243_1)
      replace p243 := eq_true p243
      replace q243 := eq_true q243
      refine start_ (n := 14) (S := fun w' => w'.cell? ⟨gb242, 0, none⟩ = some (.int .i64 2) ∧ w'.cell? ⟨gb242, 1, none⟩ = some (.slice (some ad243) y239.length co58) ∧ w'.cell? ad243 = some (.int .u64 ((rd_T51 y239 0).f0)) ∧ w'.cell? ⟨ad243.block, ad243.off + 1, none⟩ = some (.int .i64 ((rd_T51 y239 0).f1))) (ds := []) #[false, false, false, false, false, false, false, false, false, false, false, false, false, false] (by kernel_rfl) rfl rfl ⟨(blk_cell BK242.out 0).trans rfl, (blk_cell BK242.out 1).trans rfl, hx243_0, hx243_1⟩ (fun hHeld => ?_); refine with_tabW stockyardlaw25_known.tab2 stockyardlaw25_known.bits2 (fun HT_ HW_ => ?_)
      generalize w61.drew = w62 at HO241 BK242 HB hx243_0 hx243_1 hHeld ⊢
      refine pure_ (i := 1) (N := some 11) (v := ?_) (a' := ?_) #[false, true, false, false, false, false, false, false, false, false, false, false, false, false] rfl rfl (any_of HT_.out (by kernel_rfl)) (fun _ _ _ h => h) (Or.inl ⟨by rfl, ?_⟩) ?_ ?_
      rotate_left
      · intro w'
        go_simp
        with_reducible rfl
      rotate_left
      · simp only [Act.put, List.setIfInBounds_toArray, List.set_cons_zero, List.set_cons_succ, i64_w, i32_w]
        rfl
      refine take_ (i := 0) (N := some 10) (v := ?_) (a' := ?_) #[true, true, false, false, false, false, false, false, false, false, false, false, false, false] rfl rfl (take_ofW HT_.out HW_.out (by kernel_rfl)) (fun _ _ _ h => h) (Or.inl ⟨by rfl, ?_⟩) hHeld ?_ ?_
      rotate_left
      · rintro w' ⟨s0, s1, s2, s3⟩
        go_simp
        with_reducible rfl
      rotate_left
      · simp only [Act.put, List.setIfInBounds_toArray, List.set_cons_zero, List.set_cons_succ, i64_w, i32_w]
        rfl
      refine take_ (i := 2) (N := some 12) (v := ?_) (a' := ?_) #[true, true, true, false, false, false, false, false, false, false, false, false, false, false] rfl rfl (take_ofW HT_.out HW_.out (by kernel_rfl)) (fun _ _ _ h => h) (Or.inl ⟨by rfl, ?_⟩) hHeld ?_ ?_
      rotate_left
      · rintro w' ⟨s0, s1, s2, s3⟩
        go_simp
        with_reducible rfl
      rotate_left
      · simp only [Act.put, List.setIfInBounds_toArray, List.set_cons_zero, List.set_cons_succ, i64_w, i32_w]
        rfl
      refine pure_ (i := 3) (N := some 13) (v := ?_) (a' := ?_) #[true, true, true, true, false, false, false, false, false, false, false, false, false, false] rfl rfl (any_of HT_.out (by kernel_rfl)) (fun _ _ _ h => h) (Or.inl ⟨by rfl, ?_⟩) ?_ ?_
      rotate_left
      · intro w'
        go_simp
        with_reducible rfl
      rotate_left
      · simp only [Act.put, List.setIfInBounds_toArray, List.set_cons_zero, List.set_cons_succ, i64_w, i32_w]
        rfl
      refine take_ (i := 4) (N := some 14) (v := ?_) (a' := ?_) #[true, true, true, true, true, false, false, false, false, false, false, false, false, false] rfl rfl (take_ofW HT_.out HW_.out (by kernel_rfl)) (fun _ _ _ h => h) (Or.inl ⟨by rfl, ?_⟩) hHeld ?_ ?_
      rotate_left
      · rintro w' ⟨s0, s1, s2, s3⟩
        go_simp
        with_reducible rfl
      rotate_left
      · simp only [Act.put, List.setIfInBounds_toArray, List.set_cons_zero, List.set_cons_succ, i64_w, i32_w]
        rfl
      refine one_ (i := 5) (N := some 15) #[true, true, true, true, true, true, false, false, false, false, false, false, false, false] rfl rfl (one_of HT_.out (by kernel_rfl)) (by decide) (fun K hK => ?_)
      refine Kd.R_lit_step (Kd.int .u8) _ 5 ?hg (N := 15) ?hd (xs := ([0, 0] : List Int)) (inner := [.int .u8 0, .int .u8 0]) (ok := fun _ => True) (okp := fun _ => True) ?hr ?hp (fun _ hk => hk) trivial (Below.refl _ _) (Nat.le_refl _) (by simp) ?_; (case hd => rfl); (case hg => rfl); (case hr => first | (go_simp; done) | (go_simp; rfl)); (case hp => exact (Reps.one (show Kd.M (Kd.int .u8) _ _ _ 0 [.int .u8 0] from rfl) (Reps.one (show Kd.M (Kd.int .u8) _ _ _ 0 [.int .u8 0] from rfl) (Reps.none _ _))))
      intro v245 w63 ho64 hb hg_ hnew_
      have HS2_ := (hb.cell (World.block_lt_of_cell? _ _ (hHeld.2.2.1))).trans (hHeld.2.2.1)
      have HS3_ := (hb.cell (World.block_lt_of_cell? _ _ (hHeld.2.2.2))).trans (hHeld.2.2.2)
      clear hg_ hnew_
      (first | rw [← Ny244.out] at ho64 | (simp only [Int.reduceToNat] at ho64; rw [← Ny244.out] at ho64))
      have n0_ := Aside0.mk (Kd.R_below (by (with_reducible repeat (first | apply Kd.R_alloc | apply Kd.R_drewN | apply Kd.R_drew)); exact HO241.out) hb)
      have n1_ := Aside0.mk (Kd.R_lower ho64 (below_size (by repeat (first | (with_reducible first | exact HB.out | apply below_alloc | apply pw_below_drewN | apply below_drew1 | refine below_set ?_ GE242.out) | exact HB.out))))
      have n2_ := Aside0.mk (blk_below (g := gb242) (o := .cells #[.int .i64 2, .slice (some ad243) y239.length co58] 31 (0, 0)) (by (with_reducible repeat (first | refine blk_drewN ?_ _ | refine blk_drew ?_ | refine blk_alloc ?_ _)); exact BK242.out) hb)
      have n3_ := Aside0.mk (below_step (by repeat (first | (with_reducible first | exact HB.out | apply below_alloc | apply pw_below_drewN | apply below_drew1 | refine below_set ?_ GE242.out) | exact HB.out)) hb)
      clear HO241
      clear BK242
      clear HB
      have HO241 := n0_
      have HO246 := n1_
      have BK242 := n2_
      have HB := n3_
      clear n0_ n1_ n2_ n3_
      clear hb ho64
      obtain ⟨Ao65, co65, eo65⟩ := Kd.R_slice HO246.out
      (first | subst eo65 | (injection eo65 with f1_ f2_ f3_; have f4_ := f1_.symm; have f5_ := f3_.symm; clear f1_ f2_ f3_; subst f4_; subst f5_))
      refine hK.out _ _ ⟨(blk_cell BK242.out 0).trans rfl, (blk_cell BK242.out 1).trans rfl, HS2_, HS3_⟩ (fun hHeld => ?_)
      clear hK K
      refine norm_ (a' := ?_) ?_ ?_
      rotate_left
      · show Act.put _ (some 15) _ = _
        simp only [Act.put, List.setIfInBounds_toArray, List.set_cons_zero, List.set_cons_succ, i64_w, i32_w]
        rfl
      refine pure_ (i := 6) (N := some 16) (v := ?_) (a' := ?_) #[true, true, true, true, true, true, true, false, false, false, false, false, false, false] rfl rfl (any_of HT_.out (by kernel_rfl)) (fun _ _ _ h => h) (Or.inl ⟨by rfl, ?_⟩) ?_ ?_
      rotate_left
      · intro w'
        go_simp
        with_reducible rfl
      rotate_left
      · simp only [Act.put, List.setIfInBounds_toArray, List.set_cons_zero, List.set_cons_succ, i64_w, i32_w]
        rfl
      refine one_ (i := 7) (N := some 17) #[true, true, true, true, true, true, true, true, false, false, false, false, false, false] rfl rfl (one_of HT_.out (by kernel_rfl)) (by decide) (fun K hK => ?_)
      refine Kd.N_lit_step k53 _ 53 ?hg (N' := 17) ?hd (xs := ([(⟨(⟨(rd_T51 y239 0).f0, (rd_T51 y239 0).f1⟩ : S51), y244⟩ : S53)] : List (S53))) (inner := [.int .u64 ((rd_T51 y239 0).f0), .int .i64 ((rd_T51 y239 0).f1), .slice Ao65 y244.length co65]) (ok := (fun k_ => some k_ ≠ (.slice (some ad243) y239.length co58 : Value).ownBlock ∧ k_ ≠ gb242)) (okp := (fun k_ => some k_ ≠ (.slice (some ad243) y239.length co58 : Value).ownBlock ∧ k_ ≠ gb242)) ?hr ?hp (fun _ hk => hk) ((show ∀ k_, w63.heap.size ≤ k_ → (fun k_ => some k_ ≠ (.slice (some ad243) y239.length co58 : Value).ownBlock ∧ k_ ≠ gb242) k_ from fun k_ hk => ⟨Kd.fresh' (Kd.R_lt (by (with_reducible repeat (first | apply Kd.R_alloc | apply Kd.R_drewN | apply Kd.R_drew)); exact HO241.out)) k_ hk, Kd.freshB (g := gb242) (o := .cells #[.int .i64 2, .slice (some ad243) y239.length co58] 31 (0, 0)) (by (with_reducible repeat (first | refine blk_drewN ?_ _ | refine blk_drew ?_ | refine blk_alloc ?_ _)); exact BK242.out) k_ hk⟩) _ (Nat.le_refl _)) (Below.refl _ _) (Nat.le_refl _) (by simp) ?_; (case hd => rfl); (case hg => rfl); (case hr => first | (go_simp; done) | (go_simp; rfl)); (case hp => exact (Reps.c3 (show Kd.FK k53 _ _ (⟨(⟨(rd_T51 y239 0).f0, (rd_T51 y239 0).f1⟩ : S51), y244⟩ : S53) [.int .u64 ((rd_T51 y239 0).f0), .int .i64 ((rd_T51 y239 0).f1), .slice Ao65 y244.length co65] from (k53_mkF _ _ (⟨(⟨(rd_T51 y239 0).f0, (rd_T51 y239 0).f1⟩ : S51), y244⟩ : S53) (Kd.R_reads' (Kd.R_mono (ok' := (fun k_ => some k_ ≠ (.slice (some ad243) y239.length co58 : Value).ownBlock ∧ k_ ≠ gb242)) (Kd.R_types (Kd.R_apart' (HO246.out) (Kd.R_typed HO241.out) (by decide)) BK242.out (by decide)) (fun k_ hk => ⟨hk.1.2, hk.2⟩))).2.1 (Kd.R_F (Kd.R_mono (ok' := (fun k_ => some k_ ≠ (.slice (some ad243) y239.length co58 : Value).ownBlock ∧ k_ ≠ gb242)) (Kd.R_types (Kd.R_apart' (HO246.out) (Kd.R_typed HO241.out) (by decide)) BK242.out (by decide)) (fun k_ hk => ⟨hk.1.2, hk.2⟩))))) (Reps.none _ _)))
      intro v248 w66 ho67 hb hg_ hnew_
      have HS2_ := (hb.cell (World.block_lt_of_cell? _ _ (hHeld.2.2.1))).trans (hHeld.2.2.1)
      have HS3_ := (hb.cell (World.block_lt_of_cell? _ _ (hHeld.2.2.2))).trans (hHeld.2.2.2)
      clear hg_ hnew_
      (first | rw [← Ny247.out] at ho67 | (simp only [Int.reduceToNat] at ho67; rw [← Ny247.out] at ho67))
      have n0_ := Aside0.mk (Kd.R_below (by (with_reducible repeat (first | apply Kd.R_alloc | apply Kd.R_drewN | apply Kd.R_drew)); exact HO241.out) hb)
      have n1_ := Aside0.mk (Kd.N_lower ho67 (below_size (by repeat (first | (with_reducible first | exact HB.out | apply below_alloc | apply pw_below_drewN | apply below_drew1 | refine below_set ?_ GE242.out) | exact HB.out))))
      have n2_ := Aside0.mk (blk_below (g := gb242) (o := .cells #[.int .i64 2, .slice (some ad243) y239.length co58] 31 (0, 0)) (by (with_reducible repeat (first | refine blk_drewN ?_ _ | refine blk_drew ?_ | refine blk_alloc ?_ _)); exact BK242.out) hb)
      have n3_ := Aside0.mk (below_step (by repeat (first | (with_reducible first | exact HB.out | apply below_alloc | apply pw_below_drewN | apply below_drew1 | refine below_set ?_ GE242.out) | exact HB.out)) hb)
      clear HO241
      clear BK242
      clear HB
      clear HO246
      have HO241 := n0_
      have HO249 := n1_
      have BK242 := n2_
      have HB := n3_
      clear n0_ n1_ n2_ n3_
      clear hb ho67
      obtain ⟨Ao68, co68, eo68⟩ := Kd.N_slice HO249.out
      (first | subst eo68 | (injection eo68 with f1_ f2_ f3_; have f4_ := f1_.symm; have f5_ := f3_.symm; clear f1_ f2_ f3_; subst f4_; subst f5_))
      refine hK.out _ _ ⟨(blk_cell BK242.out 0).trans rfl, (blk_cell BK242.out 1).trans rfl, HS2_, HS3_⟩ (fun hHeld => ?_)
      clear hK K
      refine norm_ (a' := ?_) ?_ ?_
      rotate_left
      · show Act.put _ (some 17) _ = _
        simp only [Act.put, List.setIfInBounds_toArray, List.set_cons_zero, List.set_cons_succ, i64_w, i32_w]
        rfl
      refine one_ (i := 8) (N := some 18) #[true, true, true, true, true, true, true, true, true, false, false, false, false, false] rfl rfl (one_of HT_.out (by kernel_rfl)) (by decide) (fun K hK => ?_)
      refine goes_ Try.func18 (by kernel_rfl) rfl #[.agg #[.int .i64 2, .slice (some ad243) y239.length co58], .slice Ao68 y247.length co68] (by rfl) rfl rfl (by (try simp only [List.map_toArray, List.map_cons, List.map_nil]); first | done | rfl | (simp only [List.length_drop, List.length_take]; rfl)) ?_
      with_reducible refine (manifest_Assemble.calls 2 _ _ y239 _ _ y247 t250 t253 _ ?side1 ?side2 ?side3 ?side4 A2.out).mono ?_
      (case side1 => repeat (first | exact (Kd.R_reads' HO241.out).2.2 | (with_reducible refine Kd.C_alloc ?_ _) | (with_reducible refine Kd.C_drewN ?_ _) | (with_reducible refine Kd.C_drew ?_)))
      (case side2 => exact (Kd.R_reads' HO241.out).2.1)
      (case side3 => repeat (first | exact (Kd.N_reads' HO249.out).2.2 | (with_reducible refine Kd.C_alloc ?_ _) | (with_reducible refine Kd.C_drewN ?_ _) | (with_reducible refine Kd.C_drew ?_)))
      (case side4 => exact (Kd.N_reads' HO249.out).2.1)
      rintro e w69 ⟨v251, rfl, ho0, hb⟩
      have HS2_ := (hb.cell (World.block_lt_of_cell? _ _ (hHeld.2.2.1))).trans (hHeld.2.2.1)
      have HS3_ := (hb.cell (World.block_lt_of_cell? _ _ (hHeld.2.2.2))).trans (hHeld.2.2.2)
      refine ⟨_, rfl, ?_⟩
      have n0_ := Aside0.mk (Kd.R_below (by (with_reducible repeat (first | apply Kd.R_alloc | apply Kd.R_drewN | apply Kd.R_drew)); exact HO241.out) hb)
      have n1_ := Aside0.mk (Kd.N_elder' (by (with_reducible repeat (first | apply Kd.N_alloc | apply Kd.N_drewN | apply Kd.N_drew)); exact HO249.out) (Kd.R_base ho0) hb)
      have n2_ := Aside0.mk (Kd.R_lower ho0 (below_size (by repeat (first | (with_reducible first | exact HB.out | apply below_alloc | apply pw_below_drewN | apply below_drew1 | refine below_set ?_ GE242.out) | exact HB.out))))
      have n3_ := Aside0.mk (blk_below (g := gb242) (o := .cells #[.int .i64 2, .slice (some ad243) y239.length co58] 31 (0, 0)) (by (with_reducible repeat (first | refine blk_drewN ?_ _ | refine blk_drew ?_ | refine blk_alloc ?_ _)); exact BK242.out) hb)
      have n4_ := Aside0.mk (below_step (by repeat (first | (with_reducible first | exact HB.out | apply below_alloc | apply pw_below_drewN | apply below_drew1 | refine below_set ?_ GE242.out) | exact HB.out)) hb)
      clear HO241
      clear HO249
      clear BK242
      clear HB
      have HO241 := n0_
      have HO249 := n1_
      have HO252 := n2_
      have BK242 := n3_
      have HB := n4_
      clear n0_ n1_ n2_ n3_ n4_
      (try clear hb)
      (try clear hb2)
      (try clear hk)
      (try clear hi)
      (try clear ho0)
      refine hK.out _ _ ⟨(blk_cell BK242.out 0).trans rfl, (blk_cell BK242.out 1).trans rfl, HS2_, HS3_⟩ (fun hHeld => ?_)
      clear hK K
      refine norm_ (a' := ?_) ?_ ?_
      rotate_left
      · show Act.put _ (some 18) _ = _
        simp only [Act.put, List.setIfInBounds_toArray, List.set_cons_zero, List.set_cons_succ, i64_w, i32_w]
        rfl
      refine pure_ (i := 9) (N := some 9) (v := ?_) (a' := ?_) #[true, true, true, true, true, true, true, true, true, true, false, false, false, false] rfl rfl (any_of HT_.out (by kernel_rfl)) (fun _ _ _ h => h) (Or.inl ⟨by rfl, ?_⟩) ?_ ?_
      rotate_left
      · intro w'
        go_simp
        with_reducible rfl
      rotate_left
      · simp only [Act.put, List.setIfInBounds_toArray, List.set_cons_zero, List.set_cons_succ, i64_w, i32_w]
        rfl
      refine pure_ (i := 10) (N := some 19) (v := ?_) (a' := ?_) #[true, true, true, true, true, true, true, true, true, true, true, false, false, false] rfl rfl (any_of HT_.out (by kernel_rfl)) (fun _ _ _ h => h) (Or.inl ⟨by rfl, ?_⟩) ?_ ?_
      rotate_left
      · intro w'
        go_simp
        with_reducible rfl
      rotate_left
      · simp only [Act.put, List.setIfInBounds_toArray, List.set_cons_zero, List.set_cons_succ, i64_w, i32_w]
        rfl
      refine pure_ (i := 11) (N := some 20) (v := ?_) (a' := ?_) #[true, true, true, true, true, true, true, true, true, true, true, true, false, false] rfl rfl (any_of HT_.out (by kernel_rfl)) (fun _ _ _ h => h) (Or.inl ⟨by rfl, ?_⟩) ?_ ?_
      rotate_left
      · intro w'
        go_simp
        with_reducible rfl
      rotate_left
      · simp only [Act.put, List.setIfInBounds_toArray, List.set_cons_zero, List.set_cons_succ, i64_w, i32_w]
        rfl
      refine pure_ (i := 12) (N := some 2) (v := ?_) (a' := ?_) #[true, true, true, true, true, true, true, true, true, true, true, true, true, false] rfl rfl (any_of HT_.out (by kernel_rfl)) (fun _ _ _ h => h) (Or.inl ⟨by rfl, ?_⟩) ?_ ?_
      rotate_left
      · intro w'
        go_simp
        with_reducible rfl
      rotate_left
      · simp only [Act.put, List.setIfInBounds_toArray, List.set_cons_zero, List.set_cons_succ, i64_w, i32_w]
        rfl
      refine pure_ (i := 13) (N := some 3) (v := ?_) (a' := ?_) #[true, true, true, true, true, true, true, true, true, true, true, true, true, true] rfl rfl (any_of HT_.out (by kernel_rfl)) (fun _ _ _ h => h) (Or.inl ⟨by rfl, ?_⟩) ?_ ?_
      rotate_left
      · intro w'
        go_simp
        with_reducible rfl
      rotate_left
      · simp only [Act.put, List.setIfInBounds_toArray, List.set_cons_zero, List.set_cons_succ, i64_w, i32_w]
        rfl
      refine done_ (done_of HT_.out (by kernel_rfl)) ?_
      try go_wp2_with (first | ((with_reducible refine gate_callee (f := 36) rfl ?_); refine goesL_ (some 23) rfl rfl Try.func36 (by kernel_rfl) rfl #[.agg #[.int .i64 0, .slice none 0 0]] rfl (by (try simp only [List.map_toArray, List.map_cons, List.map_nil]); first | done | rfl | (simp only [List.length_drop, List.length_take]; rfl)) ?_; (refine (manifest_Encode.calls k 0 _ _ ([] : List (S51)) t254 t257 _ ?side1 ?side2 A3.out).mono ?_); (case side1 => exact Kd.C_nil _ _); (case side2 => exact Nat.le_refl _); rintro e w70 ⟨v255, rfl, ho0, hb⟩; refine ⟨_, rfl, ?_⟩; have n0_ := Aside0.mk (Kd.R_below (by (with_reducible repeat (first | apply Kd.R_alloc | apply Kd.R_drewN | apply Kd.R_drew)); exact HO241.out) hb); have n1_ := Aside0.mk (Kd.N_elder' (by (with_reducible repeat (first | apply Kd.N_alloc | apply Kd.N_drewN | apply Kd.N_drew)); exact HO249.out) (Kd.R_base ho0) hb); have n2_ := Aside0.mk (Kd.R_elder' (by (with_reducible repeat (first | apply Kd.R_alloc | apply Kd.R_drewN | apply Kd.R_drew)); exact HO252.out) (Kd.R_base ho0) hb); have n3_ := Aside0.mk (Kd.R_lower (Kd.R_new' ho0 (Kd.R_lt (by (with_reducible repeat (first | apply Kd.R_alloc | apply Kd.R_drewN | apply Kd.R_drew)); exact HO252.out))) (below_size (by repeat (first | (with_reducible first | exact HB.out | apply below_alloc | apply pw_below_drewN | apply below_drew1 | refine below_set ?_ GE242.out) | exact HB.out)))); have n4_ := Aside0.mk (blk_below (g := gb242) (o := .cells #[.int .i64 2, .slice (some ad243) y239.length co58] 31 (0, 0)) (by (with_reducible repeat (first | refine blk_drewN ?_ _ | refine blk_drew ?_ | refine blk_alloc ?_ _)); exact BK242.out) hb); have n5_ := Aside0.mk (below_step (by repeat (first | (with_reducible first | exact HB.out | apply below_alloc | apply pw_below_drewN | apply below_drew1 | refine below_set ?_ GE242.out) | exact HB.out)) hb); clear HO241; clear HO249; clear HO252; clear BK242; clear HB; have HO241 := n0_; have HO249 := n1_; have HO252 := n2_; have HO256 := n3_; have BK242 := n4_; have HB := n5_; clear n0_ n1_ n2_ n3_ n4_ n5_; (try clear hb); (try clear hb2); (try clear hk); (try clear hi); (try clear ho0)))
      go_ret
      exact ⟨by first | rfl | (simp [errW_none, errW_some] <;> rfl) | (simp [*, errW_none, errW_some] <;> rfl), by repeat (first | (with_reducible first | exact HB.out | apply below_alloc | apply pw_below_drewN | apply below_drew1 | refine below_set ?_ GE242.out) | exact HB.out)⟩
  · rw [if_neg c1] at H
    exact absurd H (by simp)

end Go.Proofs.Ytleapbbdpediiaa.P
