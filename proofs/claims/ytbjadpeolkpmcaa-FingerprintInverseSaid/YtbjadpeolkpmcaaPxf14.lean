-- Printed by a program (pr.py over the kit's print) out of the translation.
import Derived.Test.YtbjadpeolkpmcaaPx0
import Derived.Test.YtbjadpeolkpmcaaPxe24
import Derived.Test.YtbjadpeolkpmcaaPxf17
import Derived.Test.YtbjadpeolkpmcaaPxf18
import Derived.Test.YtbjadpeolkpmcaaPxf26
import Derived.Test.YtbjadpeolkpmcaaPxf33
namespace Go.Proofs.Ytbjadpeolkpmcaa.P
open Go.RowKit Go.Proofs.YtbjadpeolkpmcaaW.PrintWords Go.Proofs.YtbjadpeolkpmcaaW.PrintLast Go.Proofs.YtbjadpeolkpmcaaW.PrintMore
attribute [local go_sem] max2_int min2_int max_two min_two max_three min_three max_four min_four   -- for this text's walks alone
set_option linter.unusedVariables false
set_option linter.unusedSimpArgs false

attribute [local go_sem high] eqA24
/-! ### stockyardlaw22_FingerprintInverse: function 14 -/
def stockyardlaw22_FingerprintInverse.j0 : Nat → Bool → Int → Int → Int → Int → Option (Bool)
  | 0, _, _, _, _, _ => none
  | k + 1, x51, x351000, x351001, x352000, x352001 => if x51 = true then (some false) else (if x352001 ≤ x351001 then (some true) else ((fingerprint_Rest.f k x352000 x352001 x351000 x351001).bind fun bt361 => ((fingerprint_Join.f k x351000 x351001 bt361.1 bt361.2.1).bind fun bt365 => (if bt361.2.2 = 0 then (if bt365.2.2 = 0 then (some (bt365.1 == x352000 && (bt365.2.1 == x352001))) else (some false)) else (some false)))))
def stockyardlaw22_FingerprintInverse.f (k : Nat) (a0_0 : Int) (a0_1 : Int) (a1_0 : Int) (a1_1 : Int) : Option (Bool) := (stockyardlaw22_made.f a0_0 a0_1 524288).bind fun bt346 => ((stockyardlaw22_made.f a1_0 a1_1 524288).bind fun bt348 => ((fingerprint_Join.f k bt346.1 bt346.2 bt348.1 bt348.2).bind fun bt352 => ((fingerprint_Rest.f k bt352.1 bt352.2.1 bt346.1 bt346.2).bind fun bt356 => ((stockyardlaw22_known.f k).bind fun t360 => (if t360 = true then (if bt352.2.2 = 0 then (if bt356.2.2 = 0 then (stockyardlaw22_FingerprintInverse.j0 k (!(bt356.1 == bt348.1) || (!(bt356.2.1 == bt348.2))) bt346.1 bt346.2 bt348.1 bt348.2) else (stockyardlaw22_FingerprintInverse.j0 k true bt346.1 bt346.2 bt348.1 bt348.2)) else (stockyardlaw22_FingerprintInverse.j0 k true bt346.1 bt346.2 bt348.1 bt348.2)) else (stockyardlaw22_FingerprintInverse.j0 k true bt346.1 bt346.2 bt348.1 bt348.2))))))
theorem stockyardlaw22_FingerprintInverse.mono_l : ∀ k, (∀ y0 y1 y2 y3 y4, LeO (stockyardlaw22_FingerprintInverse.j0 k y0 y1 y2 y3 y4) (stockyardlaw22_FingerprintInverse.j0 (k + 1) y0 y1 y2 y3 y4))
  | 0 => fun _ _ _ _ _ r h => by simp [stockyardlaw22_FingerprintInverse.j0] at h
  | k + 1 => by
    have ih0 := stockyardlaw22_FingerprintInverse.mono_l k
    · intro y0 y1 y2 y3 y4
      unfold stockyardlaw22_FingerprintInverse.j0
      repeat' first
      | (with_reducible exact ih0 _ _ _ _ _)
      | (with_reducible exact fingerprint_Join.mono _ _ _ _ _)
      | (with_reducible exact fingerprint_Rest.mono _ _ _ _ _)
      | (with_reducible exact stockyardlaw22_known.mono _)
      | (with_reducible exact LeO.refl _)
      | (with_reducible exact LeO.none _)
      | (with_reducible refine LeO.ite ?_ ?_)
      | (with_reducible refine LeO.bind ?_ (fun _ => ?_))
      | exact ih0 _ _ _ _ _
      | exact fingerprint_Join.mono _ _ _ _ _
      | exact fingerprint_Rest.mono _ _ _ _ _
      | exact stockyardlaw22_known.mono _
      | exact LeO.none _
      | refine LeO.ite ?_ ?_
      | refine LeO.bind ?_ (fun _ => ?_)
theorem stockyardlaw22_FingerprintInverse.mono : ∀ a0 a1 a2 a3 k, LeO (stockyardlaw22_FingerprintInverse.f k a0 a1 a2 a3) (stockyardlaw22_FingerprintInverse.f (k + 1) a0 a1 a2 a3) := by
  intro a0 a1 a2 a3 k
  have ih0 := stockyardlaw22_FingerprintInverse.mono_l k
  unfold stockyardlaw22_FingerprintInverse.f
  repeat' first
      | (with_reducible exact ih0 _ _ _ _ _)
      | (with_reducible exact fingerprint_Join.mono _ _ _ _ _)
      | (with_reducible exact fingerprint_Rest.mono _ _ _ _ _)
      | (with_reducible exact stockyardlaw22_known.mono _)
      | (with_reducible exact LeO.refl _)
      | (with_reducible exact LeO.none _)
      | (with_reducible refine LeO.ite ?_ ?_)
      | (with_reducible refine LeO.bind ?_ (fun _ => ?_))
      | exact ih0 _ _ _ _ _
      | exact fingerprint_Join.mono _ _ _ _ _
      | exact fingerprint_Rest.mono _ _ _ _ _
      | exact stockyardlaw22_known.mono _
      | exact LeO.none _
      | refine LeO.ite ?_ ?_
      | refine LeO.bind ?_ (fun _ => ?_)
def stockyardlaw22_FingerprintInverse.T1 : Bool × List (List Nat × List Nat) := (true, [([], []), ([0], [0]), ([], []), ([2], [2]), ([1, 3], [1, 3]), ([], []), ([5], [5]), ([], []), ([7], [7]), ([6, 8, 4], [6, 8]), ([], []), ([], []), ([10, 4, 9, 0, 1, 2, 3, 4, 10, 11], [4, 10]), ([11, 9, 12, 0, 1, 2, 3, 4, 5, 6, 7, 8, 9, 10, 11, 12], [9, 11])])
def stockyardlaw22_FingerprintInverse.B1 : List Nat := [0, 1, 0, 4, 15, 0, 32, 0, 128, 511, 0, 0, 4095, 8191]
theorem stockyardlaw22_FingerprintInverse.tab1 : rtab .any (opsOf Try.f14 1) = stockyardlaw22_FingerprintInverse.T1 := by kernel_rfl
theorem stockyardlaw22_FingerprintInverse.bits1 : waitsOk stockyardlaw22_FingerprintInverse.T1.2 stockyardlaw22_FingerprintInverse.B1 = true := by kernel_rfl
set_option maxHeartbeats 8000000 in
set_option maxRecDepth 100000 in
theorem stockyardlaw22_FingerprintInverse.calls (k : Nat) (a0_0 : Int) (a0_1 : Int) (a1_0 : Int) (a1_1 : Int) (r : Bool) (w : World) (h : stockyardlaw22_FingerprintInverse.f k a0_0 a0_1 a1_0 a1_1 = some r) (hrt : r = true) :
    Calls Try.prog 14 #[.agg #[.int .u64 a0_0, .int .i64 a0_1], .agg #[.int .u64 a1_0, .int .i64 a1_1]] w fun e w' => e = .returned (.bool r) ∧ Below w.heap.size w w' := by
  have HRT := Aside0.mk hrt
  clear hrt
  have hu24 := Try.underlying24
  have HB := Aside0.mk (Below.refl w.heap.size w)
  have H : ((stockyardlaw22_made.f a0_0 a0_1 524288).bind fun bt346 => ((stockyardlaw22_made.f a1_0 a1_1 524288).bind fun bt348 => ((fingerprint_Join.f k bt346.1 bt346.2 bt348.1 bt348.2).bind fun bt352 => ((fingerprint_Rest.f k bt352.1 bt352.2.1 bt346.1 bt346.2).bind fun bt356 => ((stockyardlaw22_known.f k).bind fun t360 => (if t360 = true then (if bt352.2.2 = 0 then (if bt356.2.2 = 0 then (stockyardlaw22_FingerprintInverse.j0 k (!(bt356.1 == bt348.1) || (!(bt356.2.1 == bt348.2))) bt346.1 bt346.2 bt348.1 bt348.2) else (stockyardlaw22_FingerprintInverse.j0 k true bt346.1 bt346.2 bt348.1 bt348.2)) else (stockyardlaw22_FingerprintInverse.j0 k true bt346.1 bt346.2 bt348.1 bt348.2)) else (stockyardlaw22_FingerprintInverse.j0 k true bt346.1 bt346.2 bt348.1 bt348.2))))))) = some r := h
  clear h
  replace H := Option.bind_eq_some_iff.mp H
  obtain ⟨⟨t346, t347⟩, A30, H⟩ := H
  replace H : ((stockyardlaw22_made.f a1_0 a1_1 524288).bind fun bt348 => ((fingerprint_Join.f k t346 t347 bt348.1 bt348.2).bind fun bt352 => ((fingerprint_Rest.f k bt352.1 bt352.2.1 t346 t347).bind fun bt356 => ((stockyardlaw22_known.f k).bind fun t360 => (if t360 = true then (if bt352.2.2 = 0 then (if bt356.2.2 = 0 then (stockyardlaw22_FingerprintInverse.j0 k (!(bt356.1 == bt348.1) || (!(bt356.2.1 == bt348.2))) t346 t347 bt348.1 bt348.2) else (stockyardlaw22_FingerprintInverse.j0 k true t346 t347 bt348.1 bt348.2)) else (stockyardlaw22_FingerprintInverse.j0 k true t346 t347 bt348.1 bt348.2)) else (stockyardlaw22_FingerprintInverse.j0 k true t346 t347 bt348.1 bt348.2)))))) = some r := H
  have A3 := Aside0.mk A30
  clear A30
  replace H := Option.bind_eq_some_iff.mp H
  obtain ⟨⟨t348, t349⟩, A40, H⟩ := H
  replace H : ((fingerprint_Join.f k t346 t347 t348 t349).bind fun bt352 => ((fingerprint_Rest.f k bt352.1 bt352.2.1 t346 t347).bind fun bt356 => ((stockyardlaw22_known.f k).bind fun t360 => (if t360 = true then (if bt352.2.2 = 0 then (if bt356.2.2 = 0 then (stockyardlaw22_FingerprintInverse.j0 k (!(bt356.1 == t348) || (!(bt356.2.1 == t349))) t346 t347 t348 t349) else (stockyardlaw22_FingerprintInverse.j0 k true t346 t347 t348 t349)) else (stockyardlaw22_FingerprintInverse.j0 k true t346 t347 t348 t349)) else (stockyardlaw22_FingerprintInverse.j0 k true t346 t347 t348 t349))))) = some r := H
  have A4 := Aside0.mk A40
  clear A40
  replace H := Option.bind_eq_some_iff.mp H
  obtain ⟨⟨t352, t353, t354⟩, A50, H⟩ := H
  replace H : ((fingerprint_Rest.f k t352 t353 t346 t347).bind fun bt356 => ((stockyardlaw22_known.f k).bind fun t360 => (if t360 = true then (if t354 = 0 then (if bt356.2.2 = 0 then (stockyardlaw22_FingerprintInverse.j0 k (!(bt356.1 == t348) || (!(bt356.2.1 == t349))) t346 t347 t348 t349) else (stockyardlaw22_FingerprintInverse.j0 k true t346 t347 t348 t349)) else (stockyardlaw22_FingerprintInverse.j0 k true t346 t347 t348 t349)) else (stockyardlaw22_FingerprintInverse.j0 k true t346 t347 t348 t349)))) = some r := H
  have A5 := Aside0.mk A50
  clear A50
  replace H := Option.bind_eq_some_iff.mp H
  obtain ⟨⟨t356, t357, t358⟩, A60, H⟩ := H
  replace H : ((stockyardlaw22_known.f k).bind fun t360 => (if t360 = true then (if t354 = 0 then (if t358 = 0 then (stockyardlaw22_FingerprintInverse.j0 k (!(t356 == t348) || (!(t357 == t349))) t346 t347 t348 t349) else (stockyardlaw22_FingerprintInverse.j0 k true t346 t347 t348 t349)) else (stockyardlaw22_FingerprintInverse.j0 k true t346 t347 t348 t349)) else (stockyardlaw22_FingerprintInverse.j0 k true t346 t347 t348 t349))) = some r := H
  have A6 := Aside0.mk A60
  clear A60
  have HC7 := Aside0.mk H
  clear H
  go_enter Try.func14, Try.ntmps14
  try go_wp2_with (first | ((with_reducible refine gate_dst (N := 2) rfl ?_); refine box_event ?hg (N := 2) ?hd (cs := #[.int .u64 a0_0, .int .i64 a0_1]) (t := 24) ?hr ?_; (case hd => rfl); (case hg => rfl); (case hr => first | (go_simp; done) | (go_simp; rfl)); intro gb344 hg w8 hbox hb; have n0_ := Aside0.mk (below_step (by repeat (first | (with_reducible first | exact HB.out | apply below_alloc | apply pw_below_drewN | apply below_drew1) | exact HB.out)) hb); have n1_ := Aside0.mk (hbox); have n2_ := Aside0.mk ((by rw [hg]; exact (below_size (by repeat (first | (with_reducible first | exact HB.out | apply below_alloc | apply pw_below_drewN | apply below_drew1) | exact HB.out))) : w.heap.size ≤ gb344)); have n3_ := Aside0.mk ((by rw [hg]; exact (below_size (by repeat (first | (with_reducible first | exact HB.out | apply below_alloc | apply pw_below_drewN | apply below_drew1) | exact HB.out))) : w.heap.size ≤ gb344)); clear HB; have HB := n0_; have BK344 := n1_; have GW344 := n2_; have GE344 := n3_; clear n0_ n1_ n2_ n3_; clear hb hbox hg) | ((with_reducible refine gate_dst (N := 3) rfl ?_); refine box_event ?hg (N := 3) ?hd (cs := #[.int .u64 a1_0, .int .i64 a1_1]) (t := 24) ?hr ?_; (case hd => rfl); (case hg => rfl); (case hr => first | (go_simp; done) | (go_simp; rfl)); intro gb345 hg w9 hbox hb; have n0_ := Aside0.mk (blk_below (g := gb344) (o := .cells #[.int .u64 a0_0, .int .i64 a0_1] 24 (0, 0)) (by (with_reducible repeat (first | refine blk_drewN ?_ _ | refine blk_drew ?_ | refine blk_alloc ?_ _)); exact BK344.out) hb); have n1_ := Aside0.mk (below_step (by repeat (first | (with_reducible first | exact HB.out | apply below_alloc | apply pw_below_drewN | apply below_drew1 | refine below_set ?_ GE344.out) | exact HB.out)) hb); have n2_ := Aside0.mk (hbox); have n3_ := Aside0.mk ((by rw [hg]; exact (below_size (by repeat (first | (with_reducible first | exact HB.out | apply below_alloc | apply pw_below_drewN | apply below_drew1 | refine below_set ?_ GE344.out) | exact HB.out))) : w.heap.size ≤ gb345)); have n4_ := Aside0.mk ((by rw [hg]; exact (below_size (by repeat (first | (with_reducible first | exact HB.out | apply below_alloc | apply pw_below_drewN | apply below_drew1 | refine below_set ?_ GE344.out) | exact HB.out))) : w.heap.size ≤ gb345)); have n5_ := Aside0.mk ((by rw [hg]; exact Nat.ne_of_lt (blk_lt (g := gb344) (o := .cells #[.int .u64 a0_0, .int .i64 a0_1] 24 (0, 0)) (by (with_reducible repeat (first | refine blk_drewN ?_ _ | refine blk_drew ?_ | refine blk_alloc ?_ _)); exact BK344.out)) : gb344 ≠ gb345)); have n6_ := Aside0.mk ((by rw [hg]; exact Nat.ne_of_gt (blk_lt (g := gb344) (o := .cells #[.int .u64 a0_0, .int .i64 a0_1] 24 (0, 0)) (by (with_reducible repeat (first | refine blk_drewN ?_ _ | refine blk_drew ?_ | refine blk_alloc ?_ _)); exact BK344.out)) : gb345 ≠ gb344)); clear BK344; clear HB; have BK344 := n0_; have HB := n1_; have BK345 := n2_; have GW345 := n3_; have GE345 := n4_; have NB344_345 := n5_; have NB345_344 := n6_; clear n0_ n1_ n2_ n3_ n4_ n5_ n6_; clear hb hbox hg))
  have n0_ := Aside0.mk (blk_drew BK344.out)
  have n1_ := Aside0.mk (blk_drew BK345.out)
  have n2_ := Aside0.mk (below_drew1 HB.out)
  clear BK344
  clear BK345
  clear HB
  have BK344 := n0_
  have BK345 := n1_
  have HB := n2_
  clear n0_ n1_ n2_
  refine start_ (n := 14) (S := fun w' => w'.cell? ⟨gb344, 0, none⟩ = some (.int .u64 a0_0) ∧ w'.cell? ⟨gb344, 1, none⟩ = some (.int .i64 a0_1) ∧ w'.cell? ⟨gb345, 0, none⟩ = some (.int .u64 a1_0) ∧ w'.cell? ⟨gb345, 1, none⟩ = some (.int .i64 a1_1)) (ds := []) #[false, false, false, false, false, false, false, false, false, false, false, false, false, false] (by kernel_rfl) rfl rfl ⟨(blk_cell BK344.out 0).trans rfl, (blk_cell BK344.out 1).trans rfl, (blk_cell BK345.out 0).trans rfl, (blk_cell BK345.out 1).trans rfl⟩ (fun hHeld => ?_); refine with_tabW stockyardlaw22_FingerprintInverse.tab1 stockyardlaw22_FingerprintInverse.bits1 (fun HT_ HW_ => ?_)
  generalize w9.drew = w10 at BK344 BK345 HB hHeld ⊢
  refine pure_ (i := 0) (N := some 15) (v := ?_) (a' := ?_) #[true, false, false, false, false, false, false, false, false, false, false, false, false, false] rfl rfl (any_of HT_.out (by kernel_rfl)) (fun _ _ _ h => h) (Or.inl ⟨by rfl, ?_⟩) ?_ ?_
  rotate_left
  · intro w'
    go_simp
    with_reducible rfl
  rotate_left
  · simp only [Act.put, List.setIfInBounds_toArray, List.set_cons_zero, List.set_cons_succ, i64_w, i32_w]
    rfl
  refine pure_ (i := 2) (N := some 17) (v := ?_) (a' := ?_) #[true, false, true, false, false, false, false, false, false, false, false, false, false, false] rfl rfl (any_of HT_.out (by kernel_rfl)) (fun _ _ _ h => h) (Or.inl ⟨by rfl, ?_⟩) ?_ ?_
  rotate_left
  · intro w'
    go_simp
    with_reducible rfl
  rotate_left
  · simp only [Act.put, List.setIfInBounds_toArray, List.set_cons_zero, List.set_cons_succ, i64_w, i32_w]
    rfl
  refine pure_ (i := 5) (N := some 20) (v := ?_) (a' := ?_) #[true, false, true, false, false, true, false, false, false, false, false, false, false, false] rfl rfl (any_of HT_.out (by kernel_rfl)) (fun _ _ _ h => h) (Or.inl ⟨by rfl, ?_⟩) ?_ ?_
  rotate_left
  · intro w'
    go_simp
    with_reducible rfl
  rotate_left
  · simp only [Act.put, List.setIfInBounds_toArray, List.set_cons_zero, List.set_cons_succ, i64_w, i32_w]
    rfl
  refine pure_ (i := 7) (N := some 22) (v := ?_) (a' := ?_) #[true, false, true, false, false, true, false, true, false, false, false, false, false, false] rfl rfl (any_of HT_.out (by kernel_rfl)) (fun _ _ _ h => h) (Or.inl ⟨by rfl, ?_⟩) ?_ ?_
  rotate_left
  · intro w'
    go_simp
    with_reducible rfl
  rotate_left
  · simp only [Act.put, List.setIfInBounds_toArray, List.set_cons_zero, List.set_cons_succ, i64_w, i32_w]
    rfl
  refine take_ (i := 1) (N := some 16) (v := ?_) (a' := ?_) #[true, true, true, false, false, true, false, true, false, false, false, false, false, false] rfl rfl (take_ofW HT_.out HW_.out (by kernel_rfl)) (fun _ _ _ h => h) (Or.inl ⟨by rfl, ?_⟩) hHeld ?_ ?_
  rotate_left
  · rintro w' ⟨s0, s1, s2, s3⟩
    go_simp
    with_reducible rfl
  rotate_left
  · simp only [Act.put, List.setIfInBounds_toArray, List.set_cons_zero, List.set_cons_succ, i64_w, i32_w]
    rfl
  refine take_ (i := 3) (N := some 18) (v := ?_) (a' := ?_) #[true, true, true, true, false, true, false, true, false, false, false, false, false, false] rfl rfl (take_ofW HT_.out HW_.out (by kernel_rfl)) (fun _ _ _ h => h) (Or.inl ⟨by rfl, ?_⟩) hHeld ?_ ?_
  rotate_left
  · rintro w' ⟨s0, s1, s2, s3⟩
    go_simp
    with_reducible rfl
  rotate_left
  · simp only [Act.put, List.setIfInBounds_toArray, List.set_cons_zero, List.set_cons_succ, i64_w, i32_w]
    rfl
  refine take_ (i := 6) (N := some 21) (v := ?_) (a' := ?_) #[true, true, true, true, false, true, true, true, false, false, false, false, false, false] rfl rfl (take_ofW HT_.out HW_.out (by kernel_rfl)) (fun _ _ _ h => h) (Or.inl ⟨by rfl, ?_⟩) hHeld ?_ ?_
  rotate_left
  · rintro w' ⟨s0, s1, s2, s3⟩
    go_simp
    with_reducible rfl
  rotate_left
  · simp only [Act.put, List.setIfInBounds_toArray, List.set_cons_zero, List.set_cons_succ, i64_w, i32_w]
    rfl
  refine take_ (i := 8) (N := some 23) (v := ?_) (a' := ?_) #[true, true, true, true, false, true, true, true, true, false, false, false, false, false] rfl rfl (take_ofW HT_.out HW_.out (by kernel_rfl)) (fun _ _ _ h => h) (Or.inl ⟨by rfl, ?_⟩) hHeld ?_ ?_
  rotate_left
  · rintro w' ⟨s0, s1, s2, s3⟩
    go_simp
    with_reducible rfl
  rotate_left
  · simp only [Act.put, List.setIfInBounds_toArray, List.set_cons_zero, List.set_cons_succ, i64_w, i32_w]
    rfl
  refine join_ (σ := Nat × Nat) 2 #[true, true, true, true, true, true, true, true, true, true, true, true, false, false] (fun s_ => [(19, .agg #[.int .u64 t346, .int .i64 t347]), (24, .agg #[.int .u64 t348, .int .i64 t349]), (5, .pointer (some ⟨s_.1, 0, none⟩)), (6, .pointer (some ⟨s_.2, 0, none⟩))]) (fun s_ w' => (w'.cell? ⟨gb344, 0, none⟩ = some (.int .u64 a0_0) ∧ w'.cell? ⟨gb344, 1, none⟩ = some (.int .i64 a0_1) ∧ w'.cell? ⟨gb345, 0, none⟩ = some (.int .u64 a1_0) ∧ w'.cell? ⟨gb345, 1, none⟩ = some (.int .i64 a1_1)) ∧ (w'.heap[gb344]? = some (.cells #[.int .u64 a0_0, .int .i64 a0_1] 24 (0, 0))) ∧ (w'.heap[gb345]? = some (.cells #[.int .u64 a1_0, .int .i64 a1_1] 24 (0, 0))) ∧ (w'.heap[s_.1]? = some (.cells #[.int .u64 0, .int .i64 0] 24 (0, 0))) ∧ (w'.heap[s_.2]? = some (.cells #[.int .u64 0, .int .i64 0] 24 (0, 0))) ∧ (w.heap.size ≤ s_.1) ∧ (w.heap.size ≤ s_.1) ∧ (gb344 ≠ s_.1) ∧ (s_.1 ≠ gb344) ∧ (gb345 ≠ s_.1) ∧ (s_.1 ≠ gb345) ∧ (s_.2 ≠ s_.1) ∧ (s_.1 ≠ s_.2) ∧ (w.heap.size ≤ s_.2) ∧ (w.heap.size ≤ s_.2) ∧ (gb344 ≠ s_.2) ∧ (s_.2 ≠ gb344) ∧ (gb345 ≠ s_.2) ∧ (s_.2 ≠ gb345) ∧ (Below w.heap.size w w')) ?_ ?_
  rotate_left
  · intro hJ4_9_10_11
    refine join_ (σ := Nat) 3 #[true, true, true, true, true, true, true, true, true, true, true, false, false, false] (fun s_ => [(19, .agg #[.int .u64 t346, .int .i64 t347]), (24, .agg #[.int .u64 t348, .int .i64 t349]), (5, .pointer (some ⟨s_, 0, none⟩))]) (fun s_ w' => (w'.cell? ⟨gb344, 0, none⟩ = some (.int .u64 a0_0) ∧ w'.cell? ⟨gb344, 1, none⟩ = some (.int .i64 a0_1) ∧ w'.cell? ⟨gb345, 0, none⟩ = some (.int .u64 a1_0) ∧ w'.cell? ⟨gb345, 1, none⟩ = some (.int .i64 a1_1)) ∧ (w'.heap[gb344]? = some (.cells #[.int .u64 a0_0, .int .i64 a0_1] 24 (0, 0))) ∧ (w'.heap[gb345]? = some (.cells #[.int .u64 a1_0, .int .i64 a1_1] 24 (0, 0))) ∧ (w'.heap[s_]? = some (.cells #[.int .u64 0, .int .i64 0] 24 (0, 0))) ∧ (w.heap.size ≤ s_) ∧ (w.heap.size ≤ s_) ∧ (gb344 ≠ s_) ∧ (s_ ≠ gb344) ∧ (gb345 ≠ s_) ∧ (s_ ≠ gb345) ∧ (Below w.heap.size w w')) ?_ ?_
    rotate_left
    · intro hJ4_9_10
      refine join_ (σ := Nat) 3 #[true, true, true, true, true, true, true, true, true, true, false, true, false, false] (fun s_ => [(19, .agg #[.int .u64 t346, .int .i64 t347]), (24, .agg #[.int .u64 t348, .int .i64 t349]), (6, .pointer (some ⟨s_, 0, none⟩))]) (fun s_ w' => (w'.cell? ⟨gb344, 0, none⟩ = some (.int .u64 a0_0) ∧ w'.cell? ⟨gb344, 1, none⟩ = some (.int .i64 a0_1) ∧ w'.cell? ⟨gb345, 0, none⟩ = some (.int .u64 a1_0) ∧ w'.cell? ⟨gb345, 1, none⟩ = some (.int .i64 a1_1)) ∧ (w'.heap[gb344]? = some (.cells #[.int .u64 a0_0, .int .i64 a0_1] 24 (0, 0))) ∧ (w'.heap[gb345]? = some (.cells #[.int .u64 a1_0, .int .i64 a1_1] 24 (0, 0))) ∧ (w'.heap[s_]? = some (.cells #[.int .u64 0, .int .i64 0] 24 (0, 0))) ∧ (w.heap.size ≤ s_) ∧ (w.heap.size ≤ s_) ∧ (gb344 ≠ s_) ∧ (s_ ≠ gb344) ∧ (gb345 ≠ s_) ∧ (s_ ≠ gb345) ∧ (Below w.heap.size w w')) ?_ ?_
      rotate_left
      · intro hJ4_9_11
        refine join_ (σ := Nat × Nat) 3 #[true, true, true, true, true, true, true, true, true, false, true, true, false, false] (fun s_ => [(19, .agg #[.int .u64 t346, .int .i64 t347]), (5, .pointer (some ⟨s_.1, 0, none⟩)), (6, .pointer (some ⟨s_.2, 0, none⟩))]) (fun s_ w' => (w'.cell? ⟨gb344, 0, none⟩ = some (.int .u64 a0_0) ∧ w'.cell? ⟨gb344, 1, none⟩ = some (.int .i64 a0_1) ∧ w'.cell? ⟨gb345, 0, none⟩ = some (.int .u64 a1_0) ∧ w'.cell? ⟨gb345, 1, none⟩ = some (.int .i64 a1_1)) ∧ (w'.heap[gb344]? = some (.cells #[.int .u64 a0_0, .int .i64 a0_1] 24 (0, 0))) ∧ (w'.heap[gb345]? = some (.cells #[.int .u64 a1_0, .int .i64 a1_1] 24 (0, 0))) ∧ (w'.heap[s_.1]? = some (.cells #[.int .u64 0, .int .i64 0] 24 (0, 0))) ∧ (w'.heap[s_.2]? = some (.cells #[.int .u64 0, .int .i64 0] 24 (0, 0))) ∧ (w.heap.size ≤ s_.1) ∧ (w.heap.size ≤ s_.1) ∧ (gb344 ≠ s_.1) ∧ (s_.1 ≠ gb344) ∧ (gb345 ≠ s_.1) ∧ (s_.1 ≠ gb345) ∧ (s_.2 ≠ s_.1) ∧ (s_.1 ≠ s_.2) ∧ (w.heap.size ≤ s_.2) ∧ (w.heap.size ≤ s_.2) ∧ (gb344 ≠ s_.2) ∧ (s_.2 ≠ gb344) ∧ (gb345 ≠ s_.2) ∧ (s_.2 ≠ gb345) ∧ (Below w.heap.size w w')) ?_ ?_
        rotate_left
        · intro hJ4_10_11
          refine join_ (σ := Unit) 4 #[true, true, true, true, true, true, true, true, true, true, false, false, false, false] (fun s_ => [(19, .agg #[.int .u64 t346, .int .i64 t347]), (24, .agg #[.int .u64 t348, .int .i64 t349])]) (fun s_ w' => (w'.cell? ⟨gb344, 0, none⟩ = some (.int .u64 a0_0) ∧ w'.cell? ⟨gb344, 1, none⟩ = some (.int .i64 a0_1) ∧ w'.cell? ⟨gb345, 0, none⟩ = some (.int .u64 a1_0) ∧ w'.cell? ⟨gb345, 1, none⟩ = some (.int .i64 a1_1)) ∧ (w'.heap[gb344]? = some (.cells #[.int .u64 a0_0, .int .i64 a0_1] 24 (0, 0))) ∧ (w'.heap[gb345]? = some (.cells #[.int .u64 a1_0, .int .i64 a1_1] 24 (0, 0))) ∧ (Below w.heap.size w w')) ?_ ?_
          rotate_left
          · intro hJ4_9
            refine join_ (σ := Nat) 4 #[true, true, true, true, true, true, true, true, true, false, true, false, false, false] (fun s_ => [(19, .agg #[.int .u64 t346, .int .i64 t347]), (5, .pointer (some ⟨s_, 0, none⟩))]) (fun s_ w' => (w'.cell? ⟨gb344, 0, none⟩ = some (.int .u64 a0_0) ∧ w'.cell? ⟨gb344, 1, none⟩ = some (.int .i64 a0_1) ∧ w'.cell? ⟨gb345, 0, none⟩ = some (.int .u64 a1_0) ∧ w'.cell? ⟨gb345, 1, none⟩ = some (.int .i64 a1_1)) ∧ (w'.heap[gb344]? = some (.cells #[.int .u64 a0_0, .int .i64 a0_1] 24 (0, 0))) ∧ (w'.heap[gb345]? = some (.cells #[.int .u64 a1_0, .int .i64 a1_1] 24 (0, 0))) ∧ (w'.heap[s_]? = some (.cells #[.int .u64 0, .int .i64 0] 24 (0, 0))) ∧ (w.heap.size ≤ s_) ∧ (w.heap.size ≤ s_) ∧ (gb344 ≠ s_) ∧ (s_ ≠ gb344) ∧ (gb345 ≠ s_) ∧ (s_ ≠ gb345) ∧ (Below w.heap.size w w')) ?_ ?_
            rotate_left
            · intro hJ4_10
              refine join_ (σ := Nat) 4 #[true, true, true, true, true, true, true, true, true, false, false, true, false, false] (fun s_ => [(19, .agg #[.int .u64 t346, .int .i64 t347]), (6, .pointer (some ⟨s_, 0, none⟩))]) (fun s_ w' => (w'.cell? ⟨gb344, 0, none⟩ = some (.int .u64 a0_0) ∧ w'.cell? ⟨gb344, 1, none⟩ = some (.int .i64 a0_1) ∧ w'.cell? ⟨gb345, 0, none⟩ = some (.int .u64 a1_0) ∧ w'.cell? ⟨gb345, 1, none⟩ = some (.int .i64 a1_1)) ∧ (w'.heap[gb344]? = some (.cells #[.int .u64 a0_0, .int .i64 a0_1] 24 (0, 0))) ∧ (w'.heap[gb345]? = some (.cells #[.int .u64 a1_0, .int .i64 a1_1] 24 (0, 0))) ∧ (w'.heap[s_]? = some (.cells #[.int .u64 0, .int .i64 0] 24 (0, 0))) ∧ (w.heap.size ≤ s_) ∧ (w.heap.size ≤ s_) ∧ (gb344 ≠ s_) ∧ (s_ ≠ gb344) ∧ (gb345 ≠ s_) ∧ (s_ ≠ gb345) ∧ (Below w.heap.size w w')) ?_ ?_
              rotate_left
              · intro hJ4_11
                refine join_ (σ := Nat × Nat) 4 #[true, true, true, true, false, true, true, true, true, false, true, true, false, false] (fun s_ => [(5, .pointer (some ⟨s_.1, 0, none⟩)), (6, .pointer (some ⟨s_.2, 0, none⟩))]) (fun s_ w' => (w'.cell? ⟨gb344, 0, none⟩ = some (.int .u64 a0_0) ∧ w'.cell? ⟨gb344, 1, none⟩ = some (.int .i64 a0_1) ∧ w'.cell? ⟨gb345, 0, none⟩ = some (.int .u64 a1_0) ∧ w'.cell? ⟨gb345, 1, none⟩ = some (.int .i64 a1_1)) ∧ (w'.heap[gb344]? = some (.cells #[.int .u64 a0_0, .int .i64 a0_1] 24 (0, 0))) ∧ (w'.heap[gb345]? = some (.cells #[.int .u64 a1_0, .int .i64 a1_1] 24 (0, 0))) ∧ (w'.heap[s_.1]? = some (.cells #[.int .u64 0, .int .i64 0] 24 (0, 0))) ∧ (w'.heap[s_.2]? = some (.cells #[.int .u64 0, .int .i64 0] 24 (0, 0))) ∧ (w.heap.size ≤ s_.1) ∧ (w.heap.size ≤ s_.1) ∧ (gb344 ≠ s_.1) ∧ (s_.1 ≠ gb344) ∧ (gb345 ≠ s_.1) ∧ (s_.1 ≠ gb345) ∧ (s_.2 ≠ s_.1) ∧ (s_.1 ≠ s_.2) ∧ (w.heap.size ≤ s_.2) ∧ (w.heap.size ≤ s_.2) ∧ (gb344 ≠ s_.2) ∧ (s_.2 ≠ gb344) ∧ (gb345 ≠ s_.2) ∧ (s_.2 ≠ gb345) ∧ (Below w.heap.size w w')) ?_ ?_
                rotate_left
                · intro hJ10_11
                  refine join_ (σ := Unit) 5 #[true, true, true, true, true, true, true, true, true, false, false, false, false, false] (fun s_ => [(19, .agg #[.int .u64 t346, .int .i64 t347])]) (fun s_ w' => (w'.cell? ⟨gb344, 0, none⟩ = some (.int .u64 a0_0) ∧ w'.cell? ⟨gb344, 1, none⟩ = some (.int .i64 a0_1) ∧ w'.cell? ⟨gb345, 0, none⟩ = some (.int .u64 a1_0) ∧ w'.cell? ⟨gb345, 1, none⟩ = some (.int .i64 a1_1)) ∧ (w'.heap[gb344]? = some (.cells #[.int .u64 a0_0, .int .i64 a0_1] 24 (0, 0))) ∧ (w'.heap[gb345]? = some (.cells #[.int .u64 a1_0, .int .i64 a1_1] 24 (0, 0))) ∧ (Below w.heap.size w w')) ?_ ?_
                  rotate_left
                  · intro hJ4
                    refine join_ (σ := Nat) 5 #[true, true, true, true, false, true, true, true, true, false, true, false, false, false] (fun s_ => [(5, .pointer (some ⟨s_, 0, none⟩))]) (fun s_ w' => (w'.cell? ⟨gb344, 0, none⟩ = some (.int .u64 a0_0) ∧ w'.cell? ⟨gb344, 1, none⟩ = some (.int .i64 a0_1) ∧ w'.cell? ⟨gb345, 0, none⟩ = some (.int .u64 a1_0) ∧ w'.cell? ⟨gb345, 1, none⟩ = some (.int .i64 a1_1)) ∧ (w'.heap[gb344]? = some (.cells #[.int .u64 a0_0, .int .i64 a0_1] 24 (0, 0))) ∧ (w'.heap[gb345]? = some (.cells #[.int .u64 a1_0, .int .i64 a1_1] 24 (0, 0))) ∧ (w'.heap[s_]? = some (.cells #[.int .u64 0, .int .i64 0] 24 (0, 0))) ∧ (w.heap.size ≤ s_) ∧ (w.heap.size ≤ s_) ∧ (gb344 ≠ s_) ∧ (s_ ≠ gb344) ∧ (gb345 ≠ s_) ∧ (s_ ≠ gb345) ∧ (Below w.heap.size w w')) ?_ ?_
                    rotate_left
                    · intro hJ10
                      refine join_ (σ := Nat) 5 #[true, true, true, true, false, true, true, true, true, false, false, true, false, false] (fun s_ => [(6, .pointer (some ⟨s_, 0, none⟩))]) (fun s_ w' => (w'.cell? ⟨gb344, 0, none⟩ = some (.int .u64 a0_0) ∧ w'.cell? ⟨gb344, 1, none⟩ = some (.int .i64 a0_1) ∧ w'.cell? ⟨gb345, 0, none⟩ = some (.int .u64 a1_0) ∧ w'.cell? ⟨gb345, 1, none⟩ = some (.int .i64 a1_1)) ∧ (w'.heap[gb344]? = some (.cells #[.int .u64 a0_0, .int .i64 a0_1] 24 (0, 0))) ∧ (w'.heap[gb345]? = some (.cells #[.int .u64 a1_0, .int .i64 a1_1] 24 (0, 0))) ∧ (w'.heap[s_]? = some (.cells #[.int .u64 0, .int .i64 0] 24 (0, 0))) ∧ (w.heap.size ≤ s_) ∧ (w.heap.size ≤ s_) ∧ (gb344 ≠ s_) ∧ (s_ ≠ gb344) ∧ (gb345 ≠ s_) ∧ (s_ ≠ gb345) ∧ (Below w.heap.size w w')) ?_ ?_
                      rotate_left
                      · intro hJ11
                        refine three_ (i := 4) (j := 10) (k := 11) (Ni := some 19) (Nj := some 5) (Nk := some 6) #[true, true, true, true, true, true, true, true, true, false, false, false, false, false] #[true, true, true, true, false, true, true, true, true, false, true, false, false, false] #[true, true, true, true, false, true, true, true, true, false, false, true, false, false] rfl rfl rfl rfl rfl rfl (three_of HT_.out (by kernel_rfl)) (by decide) (by decide) (by decide) (fun K hK => ?_) (fun K hK => ?_) (fun K hK => ?_)
                        · skip
                          refine goes_ Try.func17 (by kernel_rfl) rfl #[.int .u64 a0_0, .int .i64 a0_1, .int .i64 524288] (by rfl) rfl rfl (by (try simp only [List.map_toArray, List.map_cons, List.map_nil]); first | done | rfl | (simp only [List.length_drop, List.length_take]; rfl)) ?_
                          with_reducible refine (stockyardlaw22_made.calls a0_0 a0_1 524288 t346 t347 _ A3.out).mono ?_
                          rintro e w11 ⟨rfl, hb⟩
                          refine ⟨_, rfl, ?_⟩
                          have n0_ := Aside0.mk (blk_below (g := gb344) (o := .cells #[.int .u64 a0_0, .int .i64 a0_1] 24 (0, 0)) (by (with_reducible repeat (first | refine blk_drewN ?_ _ | refine blk_drew ?_ | refine blk_alloc ?_ _)); exact BK344.out) hb)
                          have n1_ := Aside0.mk (blk_below (g := gb345) (o := .cells #[.int .u64 a1_0, .int .i64 a1_1] 24 (0, 0)) (by (with_reducible repeat (first | refine blk_drewN ?_ _ | refine blk_drew ?_ | refine blk_alloc ?_ _)); exact BK345.out) hb)
                          have n2_ := Aside0.mk (below_step (by repeat (first | (with_reducible first | exact HB.out | apply below_alloc | apply pw_below_drewN | apply below_drew1 | refine below_set ?_ GE344.out | refine below_set ?_ GE345.out) | exact HB.out)) hb)
                          clear BK344
                          clear BK345
                          clear HB
                          have BK344 := n0_
                          have BK345 := n1_
                          have HB := n2_
                          clear n0_ n1_ n2_
                          (try clear hb)
                          (try clear hb2)
                          (try clear hk)
                          (try clear hi)
                          refine hK.out _ _ ⟨(blk_cell BK344.out 0).trans rfl, (blk_cell BK344.out 1).trans rfl, (blk_cell BK345.out 0).trans rfl, (blk_cell BK345.out 1).trans rfl⟩ (fun hHeld => ?_)
                          clear hK K
                          refine norm_ (a' := ?_) ?_ ?_
                          rotate_left
                          · show Act.put _ (some 19) _ = _
                            simp only [Act.put, List.setIfInBounds_toArray, List.set_cons_zero, List.set_cons_succ, i64_w, i32_w]
                            rfl
                          exact norm_ (by first | (simp only [putAll, Act.put, List.setIfInBounds_toArray, List.set_cons_zero, List.set_cons_succ]; done) | (simp only [putAll, Act.put, List.setIfInBounds_toArray, List.set_cons_zero, List.set_cons_succ]; rfl)) (hJ4 () _ ⟨hHeld, (by (with_reducible repeat (first | refine blk_drewN ?_ _ | refine blk_drew ?_ | refine blk_alloc ?_ _)); exact BK344.out), (by (with_reducible repeat (first | refine blk_drewN ?_ _ | refine blk_drew ?_ | refine blk_alloc ?_ _)); exact BK345.out), (by repeat (first | (with_reducible first | exact HB.out | apply below_alloc | apply pw_below_drewN | apply below_drew1 | refine below_set ?_ GE344.out | refine below_set ?_ GE345.out) | exact HB.out))⟩)
                        · skip
                          refine box_step ?hg (N := 5) ?hd (cs := #[.int .u64 0, .int .i64 0]) (t := 24) ?hr ?_; (case hd => rfl); (case hg => rfl); (case hr => first | (go_simp; done) | (go_simp; rfl))
                          intro gb350 hg w11 hbox hb
                          have n0_ := Aside0.mk (blk_below (g := gb344) (o := .cells #[.int .u64 a0_0, .int .i64 a0_1] 24 (0, 0)) (by (with_reducible repeat (first | refine blk_drewN ?_ _ | refine blk_drew ?_ | refine blk_alloc ?_ _)); exact BK344.out) hb)
                          have n1_ := Aside0.mk (blk_below (g := gb345) (o := .cells #[.int .u64 a1_0, .int .i64 a1_1] 24 (0, 0)) (by (with_reducible repeat (first | refine blk_drewN ?_ _ | refine blk_drew ?_ | refine blk_alloc ?_ _)); exact BK345.out) hb)
                          have n2_ := Aside0.mk (below_step (by repeat (first | (with_reducible first | exact HB.out | apply below_alloc | apply pw_below_drewN | apply below_drew1 | refine below_set ?_ GE344.out | refine below_set ?_ GE345.out) | exact HB.out)) hb)
                          have n3_ := Aside0.mk (hbox)
                          have n4_ := Aside0.mk ((by rw [hg]; exact (below_size (by repeat (first | (with_reducible first | exact HB.out | apply below_alloc | apply pw_below_drewN | apply below_drew1 | refine below_set ?_ GE344.out | refine below_set ?_ GE345.out) | exact HB.out))) : w.heap.size ≤ gb350))
                          have n5_ := Aside0.mk ((by rw [hg]; exact (below_size (by repeat (first | (with_reducible first | exact HB.out | apply below_alloc | apply pw_below_drewN | apply below_drew1 | refine below_set ?_ GE344.out | refine below_set ?_ GE345.out) | exact HB.out))) : w.heap.size ≤ gb350))
                          have n6_ := Aside0.mk ((by rw [hg]; exact Nat.ne_of_lt (blk_lt (g := gb344) (o := .cells #[.int .u64 a0_0, .int .i64 a0_1] 24 (0, 0)) (by (with_reducible repeat (first | refine blk_drewN ?_ _ | refine blk_drew ?_ | refine blk_alloc ?_ _)); exact BK344.out)) : gb344 ≠ gb350))
                          have n7_ := Aside0.mk ((by rw [hg]; exact Nat.ne_of_gt (blk_lt (g := gb344) (o := .cells #[.int .u64 a0_0, .int .i64 a0_1] 24 (0, 0)) (by (with_reducible repeat (first | refine blk_drewN ?_ _ | refine blk_drew ?_ | refine blk_alloc ?_ _)); exact BK344.out)) : gb350 ≠ gb344))
                          have n8_ := Aside0.mk ((by rw [hg]; exact Nat.ne_of_lt (blk_lt (g := gb345) (o := .cells #[.int .u64 a1_0, .int .i64 a1_1] 24 (0, 0)) (by (with_reducible repeat (first | refine blk_drewN ?_ _ | refine blk_drew ?_ | refine blk_alloc ?_ _)); exact BK345.out)) : gb345 ≠ gb350))
                          have n9_ := Aside0.mk ((by rw [hg]; exact Nat.ne_of_gt (blk_lt (g := gb345) (o := .cells #[.int .u64 a1_0, .int .i64 a1_1] 24 (0, 0)) (by (with_reducible repeat (first | refine blk_drewN ?_ _ | refine blk_drew ?_ | refine blk_alloc ?_ _)); exact BK345.out)) : gb350 ≠ gb345))
                          clear BK344
                          clear BK345
                          clear HB
                          have BK344 := n0_
                          have BK345 := n1_
                          have HB := n2_
                          have BK350 := n3_
                          have GW350 := n4_
                          have GE350 := n5_
                          have NB344_350 := n6_
                          have NB350_344 := n7_
                          have NB345_350 := n8_
                          have NB350_345 := n9_
                          clear n0_ n1_ n2_ n3_ n4_ n5_ n6_ n7_ n8_ n9_
                          clear hb hbox hg
                          refine hK.out _ _ ⟨(blk_cell BK344.out 0).trans rfl, (blk_cell BK344.out 1).trans rfl, (blk_cell BK345.out 0).trans rfl, (blk_cell BK345.out 1).trans rfl⟩ (fun hHeld => ?_)
                          clear hK K
                          refine norm_ (a' := ?_) ?_ ?_
                          rotate_left
                          · show Act.put _ (some 5) _ = _
                            simp only [Act.put, List.setIfInBounds_toArray, List.set_cons_zero, List.set_cons_succ, i64_w, i32_w]
                            rfl
                          exact norm_ (by first | (simp only [putAll, Act.put, List.setIfInBounds_toArray, List.set_cons_zero, List.set_cons_succ]; done) | (simp only [putAll, Act.put, List.setIfInBounds_toArray, List.set_cons_zero, List.set_cons_succ]; rfl)) (hJ10 (gb350) _ ⟨hHeld, (by (with_reducible repeat (first | refine blk_drewN ?_ _ | refine blk_drew ?_ | refine blk_alloc ?_ _)); exact BK344.out), (by (with_reducible repeat (first | refine blk_drewN ?_ _ | refine blk_drew ?_ | refine blk_alloc ?_ _)); exact BK345.out), (by (with_reducible repeat (first | refine blk_drewN ?_ _ | refine blk_drew ?_ | refine blk_alloc ?_ _)); exact BK350.out), GW350.out, GE350.out, NB344_350.out, NB350_344.out, NB345_350.out, NB350_345.out, (by repeat (first | (with_reducible first | exact HB.out | apply below_alloc | apply pw_below_drewN | apply below_drew1 | refine below_set ?_ GE344.out | refine below_set ?_ GE345.out | refine below_set ?_ GE350.out) | exact HB.out))⟩)
                        · skip
                          refine box_step ?hg (N := 6) ?hd (cs := #[.int .u64 0, .int .i64 0]) (t := 24) ?hr ?_; (case hd => rfl); (case hg => rfl); (case hr => first | (go_simp; done) | (go_simp; rfl))
                          intro gb351 hg w11 hbox hb
                          have n0_ := Aside0.mk (blk_below (g := gb344) (o := .cells #[.int .u64 a0_0, .int .i64 a0_1] 24 (0, 0)) (by (with_reducible repeat (first | refine blk_drewN ?_ _ | refine blk_drew ?_ | refine blk_alloc ?_ _)); exact BK344.out) hb)
                          have n1_ := Aside0.mk (blk_below (g := gb345) (o := .cells #[.int .u64 a1_0, .int .i64 a1_1] 24 (0, 0)) (by (with_reducible repeat (first | refine blk_drewN ?_ _ | refine blk_drew ?_ | refine blk_alloc ?_ _)); exact BK345.out) hb)
                          have n2_ := Aside0.mk (below_step (by repeat (first | (with_reducible first | exact HB.out | apply below_alloc | apply pw_below_drewN | apply below_drew1 | refine below_set ?_ GE344.out | refine below_set ?_ GE345.out) | exact HB.out)) hb)
                          have n3_ := Aside0.mk (hbox)
                          have n4_ := Aside0.mk ((by rw [hg]; exact (below_size (by repeat (first | (with_reducible first | exact HB.out | apply below_alloc | apply pw_below_drewN | apply below_drew1 | refine below_set ?_ GE344.out | refine below_set ?_ GE345.out) | exact HB.out))) : w.heap.size ≤ gb351))
                          have n5_ := Aside0.mk ((by rw [hg]; exact (below_size (by repeat (first | (with_reducible first | exact HB.out | apply below_alloc | apply pw_below_drewN | apply below_drew1 | refine below_set ?_ GE344.out | refine below_set ?_ GE345.out) | exact HB.out))) : w.heap.size ≤ gb351))
                          have n6_ := Aside0.mk ((by rw [hg]; exact Nat.ne_of_lt (blk_lt (g := gb344) (o := .cells #[.int .u64 a0_0, .int .i64 a0_1] 24 (0, 0)) (by (with_reducible repeat (first | refine blk_drewN ?_ _ | refine blk_drew ?_ | refine blk_alloc ?_ _)); exact BK344.out)) : gb344 ≠ gb351))
                          have n7_ := Aside0.mk ((by rw [hg]; exact Nat.ne_of_gt (blk_lt (g := gb344) (o := .cells #[.int .u64 a0_0, .int .i64 a0_1] 24 (0, 0)) (by (with_reducible repeat (first | refine blk_drewN ?_ _ | refine blk_drew ?_ | refine blk_alloc ?_ _)); exact BK344.out)) : gb351 ≠ gb344))
                          have n8_ := Aside0.mk ((by rw [hg]; exact Nat.ne_of_lt (blk_lt (g := gb345) (o := .cells #[.int .u64 a1_0, .int .i64 a1_1] 24 (0, 0)) (by (with_reducible repeat (first | refine blk_drewN ?_ _ | refine blk_drew ?_ | refine blk_alloc ?_ _)); exact BK345.out)) : gb345 ≠ gb351))
                          have n9_ := Aside0.mk ((by rw [hg]; exact Nat.ne_of_gt (blk_lt (g := gb345) (o := .cells #[.int .u64 a1_0, .int .i64 a1_1] 24 (0, 0)) (by (with_reducible repeat (first | refine blk_drewN ?_ _ | refine blk_drew ?_ | refine blk_alloc ?_ _)); exact BK345.out)) : gb351 ≠ gb345))
                          clear BK344
                          clear BK345
                          clear HB
                          have BK344 := n0_
                          have BK345 := n1_
                          have HB := n2_
                          have BK351 := n3_
                          have GW351 := n4_
                          have GE351 := n5_
                          have NB344_351 := n6_
                          have NB351_344 := n7_
                          have NB345_351 := n8_
                          have NB351_345 := n9_
                          clear n0_ n1_ n2_ n3_ n4_ n5_ n6_ n7_ n8_ n9_
                          clear hb hbox hg
                          refine hK.out _ _ ⟨(blk_cell BK344.out 0).trans rfl, (blk_cell BK344.out 1).trans rfl, (blk_cell BK345.out 0).trans rfl, (blk_cell BK345.out 1).trans rfl⟩ (fun hHeld => ?_)
                          clear hK K
                          refine norm_ (a' := ?_) ?_ ?_
                          rotate_left
                          · show Act.put _ (some 6) _ = _
                            simp only [Act.put, List.setIfInBounds_toArray, List.set_cons_zero, List.set_cons_succ, i64_w, i32_w]
                            rfl
                          exact norm_ (by first | (simp only [putAll, Act.put, List.setIfInBounds_toArray, List.set_cons_zero, List.set_cons_succ]; done) | (simp only [putAll, Act.put, List.setIfInBounds_toArray, List.set_cons_zero, List.set_cons_succ]; rfl)) (hJ11 (gb351) _ ⟨hHeld, (by (with_reducible repeat (first | refine blk_drewN ?_ _ | refine blk_drew ?_ | refine blk_alloc ?_ _)); exact BK344.out), (by (with_reducible repeat (first | refine blk_drewN ?_ _ | refine blk_drew ?_ | refine blk_alloc ?_ _)); exact BK345.out), (by (with_reducible repeat (first | refine blk_drewN ?_ _ | refine blk_drew ?_ | refine blk_alloc ?_ _)); exact BK351.out), GW351.out, GE351.out, NB344_351.out, NB351_344.out, NB345_351.out, NB351_345.out, (by repeat (first | (with_reducible first | exact HB.out | apply below_alloc | apply pw_below_drewN | apply below_drew1 | refine below_set ?_ GE344.out | refine below_set ?_ GE345.out | refine below_set ?_ GE351.out) | exact HB.out))⟩)
                      · skip
                        rintro gb351 w12 ⟨hS_, h0_, h1_, h2_, h3_, h4_, h5_, h6_, h7_, h8_, h9_⟩
                        have n0_ : Aside0 (w12.heap[gb344]? = some (.cells #[.int .u64 a0_0, .int .i64 a0_1] 24 (0, 0))) := ⟨h0_⟩
                        have n1_ : Aside0 (w12.heap[gb345]? = some (.cells #[.int .u64 a1_0, .int .i64 a1_1] 24 (0, 0))) := ⟨h1_⟩
                        have n2_ : Aside0 (w12.heap[gb351]? = some (.cells #[.int .u64 0, .int .i64 0] 24 (0, 0))) := ⟨h2_⟩
                        have n3_ : Aside0 (w.heap.size ≤ gb351) := ⟨h3_⟩
                        have n4_ : Aside0 (w.heap.size ≤ gb351) := ⟨h4_⟩
                        have n5_ : Aside0 (gb344 ≠ gb351) := ⟨h5_⟩
                        have n6_ : Aside0 (gb351 ≠ gb344) := ⟨h6_⟩
                        have n7_ : Aside0 (gb345 ≠ gb351) := ⟨h7_⟩
                        have n8_ : Aside0 (gb351 ≠ gb345) := ⟨h8_⟩
                        have n9_ : Aside0 (Below w.heap.size w w12) := ⟨h9_⟩
                        clear BK344
                        clear BK345
                        clear HB
                        clear h0_ h1_ h2_ h3_ h4_ h5_ h6_ h7_ h8_ h9_
                        have BK344 := n0_
                        have BK345 := n1_
                        have BK351 := n2_
                        have GW351 := n3_
                        have GE351 := n4_
                        have NB344_351 := n5_
                        have NB351_344 := n6_
                        have NB345_351 := n7_
                        have NB351_345 := n8_
                        have HB := n9_
                        clear n0_ n1_ n2_ n3_ n4_ n5_ n6_ n7_ n8_ n9_
                        have hHeld : w12.cell? ⟨gb344, 0, none⟩ = some (.int .u64 a0_0) ∧ w12.cell? ⟨gb344, 1, none⟩ = some (.int .i64 a0_1) ∧ w12.cell? ⟨gb345, 0, none⟩ = some (.int .u64 a1_0) ∧ w12.cell? ⟨gb345, 1, none⟩ = some (.int .i64 a1_1) := hS_
                        refine norm_ (a' := ?_) ?_ ?_
                        rotate_left
                        · simp only [putAll, Act.put, List.setIfInBounds_toArray, List.set_cons_zero, List.set_cons_succ]
                          rfl
                        refine two_ (i := 4) (j := 10) (Ni := some 19) (Nj := some 5) #[true, true, true, true, true, true, true, true, true, false, false, true, false, false] #[true, true, true, true, false, true, true, true, true, false, true, true, false, false] rfl rfl rfl rfl (two_of HT_.out (by kernel_rfl)) (by decide) (by decide) (fun K hK => ?_) (fun K hK => ?_)
                        · skip
                          refine goes_ Try.func17 (by kernel_rfl) rfl #[.int .u64 a0_0, .int .i64 a0_1, .int .i64 524288] (by rfl) rfl rfl (by (try simp only [List.map_toArray, List.map_cons, List.map_nil]); first | done | rfl | (simp only [List.length_drop, List.length_take]; rfl)) ?_
                          with_reducible refine (stockyardlaw22_made.calls a0_0 a0_1 524288 t346 t347 _ A3.out).mono ?_
                          rintro e w13 ⟨rfl, hb⟩
                          refine ⟨_, rfl, ?_⟩
                          have n0_ := Aside0.mk (blk_below (g := gb344) (o := .cells #[.int .u64 a0_0, .int .i64 a0_1] 24 (0, 0)) (by (with_reducible repeat (first | refine blk_drewN ?_ _ | refine blk_drew ?_ | refine blk_alloc ?_ _)); exact BK344.out) hb)
                          have n1_ := Aside0.mk (blk_below (g := gb345) (o := .cells #[.int .u64 a1_0, .int .i64 a1_1] 24 (0, 0)) (by (with_reducible repeat (first | refine blk_drewN ?_ _ | refine blk_drew ?_ | refine blk_alloc ?_ _)); exact BK345.out) hb)
                          have n2_ := Aside0.mk (blk_below (g := gb351) (o := .cells #[.int .u64 0, .int .i64 0] 24 (0, 0)) (by (with_reducible repeat (first | refine blk_drewN ?_ _ | refine blk_drew ?_ | refine blk_alloc ?_ _)); exact BK351.out) hb)
                          have n3_ := Aside0.mk (below_step (by repeat (first | (with_reducible first | exact HB.out | apply below_alloc | apply pw_below_drewN | apply below_drew1 | refine below_set ?_ GE344.out | refine below_set ?_ GE345.out | refine below_set ?_ GE351.out) | exact HB.out)) hb)
                          clear BK344
                          clear BK345
                          clear BK351
                          clear HB
                          have BK344 := n0_
                          have BK345 := n1_
                          have BK351 := n2_
                          have HB := n3_
                          clear n0_ n1_ n2_ n3_
                          (try clear hb)
                          (try clear hb2)
                          (try clear hk)
                          (try clear hi)
                          refine hK.out _ _ ⟨(blk_cell BK344.out 0).trans rfl, (blk_cell BK344.out 1).trans rfl, (blk_cell BK345.out 0).trans rfl, (blk_cell BK345.out 1).trans rfl⟩ (fun hHeld => ?_)
                          clear hK K
                          refine norm_ (a' := ?_) ?_ ?_
                          rotate_left
                          · show Act.put _ (some 19) _ = _
                            simp only [Act.put, List.setIfInBounds_toArray, List.set_cons_zero, List.set_cons_succ, i64_w, i32_w]
                            rfl
                          exact norm_ (by first | (simp only [putAll, Act.put, List.setIfInBounds_toArray, List.set_cons_zero, List.set_cons_succ]; done) | (simp only [putAll, Act.put, List.setIfInBounds_toArray, List.set_cons_zero, List.set_cons_succ]; rfl)) (hJ4_11 (gb351) _ ⟨hHeld, (by (with_reducible repeat (first | refine blk_drewN ?_ _ | refine blk_drew ?_ | refine blk_alloc ?_ _)); exact BK344.out), (by (with_reducible repeat (first | refine blk_drewN ?_ _ | refine blk_drew ?_ | refine blk_alloc ?_ _)); exact BK345.out), (by (with_reducible repeat (first | refine blk_drewN ?_ _ | refine blk_drew ?_ | refine blk_alloc ?_ _)); exact BK351.out), GW351.out, GE351.out, NB344_351.out, NB351_344.out, NB345_351.out, NB351_345.out, (by repeat (first | (with_reducible first | exact HB.out | apply below_alloc | apply pw_below_drewN | apply below_drew1 | refine below_set ?_ GE344.out | refine below_set ?_ GE345.out | refine below_set ?_ GE351.out) | exact HB.out))⟩)
                        · skip
                          refine box_step ?hg (N := 5) ?hd (cs := #[.int .u64 0, .int .i64 0]) (t := 24) ?hr ?_; (case hd => rfl); (case hg => rfl); (case hr => first | (go_simp; done) | (go_simp; rfl))
                          intro gb350 hg w13 hbox hb
                          have n0_ := Aside0.mk (blk_below (g := gb344) (o := .cells #[.int .u64 a0_0, .int .i64 a0_1] 24 (0, 0)) (by (with_reducible repeat (first | refine blk_drewN ?_ _ | refine blk_drew ?_ | refine blk_alloc ?_ _)); exact BK344.out) hb)
                          have n1_ := Aside0.mk (blk_below (g := gb345) (o := .cells #[.int .u64 a1_0, .int .i64 a1_1] 24 (0, 0)) (by (with_reducible repeat (first | refine blk_drewN ?_ _ | refine blk_drew ?_ | refine blk_alloc ?_ _)); exact BK345.out) hb)
                          have n2_ := Aside0.mk (blk_below (g := gb351) (o := .cells #[.int .u64 0, .int .i64 0] 24 (0, 0)) (by (with_reducible repeat (first | refine blk_drewN ?_ _ | refine blk_drew ?_ | refine blk_alloc ?_ _)); exact BK351.out) hb)
                          have n3_ := Aside0.mk (below_step (by repeat (first | (with_reducible first | exact HB.out | apply below_alloc | apply pw_below_drewN | apply below_drew1 | refine below_set ?_ GE344.out | refine below_set ?_ GE345.out | refine below_set ?_ GE351.out) | exact HB.out)) hb)
                          have n4_ := Aside0.mk (hbox)
                          have n5_ := Aside0.mk ((by rw [hg]; exact (below_size (by repeat (first | (with_reducible first | exact HB.out | apply below_alloc | apply pw_below_drewN | apply below_drew1 | refine below_set ?_ GE344.out | refine below_set ?_ GE345.out | refine below_set ?_ GE351.out) | exact HB.out))) : w.heap.size ≤ gb350))
                          have n6_ := Aside0.mk ((by rw [hg]; exact (below_size (by repeat (first | (with_reducible first | exact HB.out | apply below_alloc | apply pw_below_drewN | apply below_drew1 | refine below_set ?_ GE344.out | refine below_set ?_ GE345.out | refine below_set ?_ GE351.out) | exact HB.out))) : w.heap.size ≤ gb350))
                          have n7_ := Aside0.mk ((by rw [hg]; exact Nat.ne_of_lt (blk_lt (g := gb344) (o := .cells #[.int .u64 a0_0, .int .i64 a0_1] 24 (0, 0)) (by (with_reducible repeat (first | refine blk_drewN ?_ _ | refine blk_drew ?_ | refine blk_alloc ?_ _)); exact BK344.out)) : gb344 ≠ gb350))
                          have n8_ := Aside0.mk ((by rw [hg]; exact Nat.ne_of_gt (blk_lt (g := gb344) (o := .cells #[.int .u64 a0_0, .int .i64 a0_1] 24 (0, 0)) (by (with_reducible repeat (first | refine blk_drewN ?_ _ | refine blk_drew ?_ | refine blk_alloc ?_ _)); exact BK344.out)) : gb350 ≠ gb344))
                          have n9_ := Aside0.mk ((by rw [hg]; exact Nat.ne_of_lt (blk_lt (g := gb345) (o := .cells #[.int .u64 a1_0, .int .i64 a1_1] 24 (0, 0)) (by (with_reducible repeat (first | refine blk_drewN ?_ _ | refine blk_drew ?_ | refine blk_alloc ?_ _)); exact BK345.out)) : gb345 ≠ gb350))
                          have n10_ := Aside0.mk ((by rw [hg]; exact Nat.ne_of_gt (blk_lt (g := gb345) (o := .cells #[.int .u64 a1_0, .int .i64 a1_1] 24 (0, 0)) (by (with_reducible repeat (first | refine blk_drewN ?_ _ | refine blk_drew ?_ | refine blk_alloc ?_ _)); exact BK345.out)) : gb350 ≠ gb345))
                          have n11_ := Aside0.mk ((by rw [hg]; exact Nat.ne_of_lt (blk_lt (g := gb351) (o := .cells #[.int .u64 0, .int .i64 0] 24 (0, 0)) (by (with_reducible repeat (first | refine blk_drewN ?_ _ | refine blk_drew ?_ | refine blk_alloc ?_ _)); exact BK351.out)) : gb351 ≠ gb350))
                          have n12_ := Aside0.mk ((by rw [hg]; exact Nat.ne_of_gt (blk_lt (g := gb351) (o := .cells #[.int .u64 0, .int .i64 0] 24 (0, 0)) (by (with_reducible repeat (first | refine blk_drewN ?_ _ | refine blk_drew ?_ | refine blk_alloc ?_ _)); exact BK351.out)) : gb350 ≠ gb351))
                          clear BK344
                          clear BK345
                          clear BK351
                          clear HB
                          have BK344 := n0_
                          have BK345 := n1_
                          have BK351 := n2_
                          have HB := n3_
                          have BK350 := n4_
                          have GW350 := n5_
                          have GE350 := n6_
                          have NB344_350 := n7_
                          have NB350_344 := n8_
                          have NB345_350 := n9_
                          have NB350_345 := n10_
                          have NB351_350 := n11_
                          have NB350_351 := n12_
                          clear n0_ n1_ n2_ n3_ n4_ n5_ n6_ n7_ n8_ n9_ n10_ n11_ n12_
                          clear hb hbox hg
                          refine hK.out _ _ ⟨(blk_cell BK344.out 0).trans rfl, (blk_cell BK344.out 1).trans rfl, (blk_cell BK345.out 0).trans rfl, (blk_cell BK345.out 1).trans rfl⟩ (fun hHeld => ?_)
                          clear hK K
                          refine norm_ (a' := ?_) ?_ ?_
                          rotate_left
                          · show Act.put _ (some 5) _ = _
                            simp only [Act.put, List.setIfInBounds_toArray, List.set_cons_zero, List.set_cons_succ, i64_w, i32_w]
                            rfl
                          exact norm_ (by first | (simp only [putAll, Act.put, List.setIfInBounds_toArray, List.set_cons_zero, List.set_cons_succ]; done) | (simp only [putAll, Act.put, List.setIfInBounds_toArray, List.set_cons_zero, List.set_cons_succ]; rfl)) (hJ10_11 (gb350, gb351) _ ⟨hHeld, (by (with_reducible repeat (first | refine blk_drewN ?_ _ | refine blk_drew ?_ | refine blk_alloc ?_ _)); exact BK344.out), (by (with_reducible repeat (first | refine blk_drewN ?_ _ | refine blk_drew ?_ | refine blk_alloc ?_ _)); exact BK345.out), (by (with_reducible repeat (first | refine blk_drewN ?_ _ | refine blk_drew ?_ | refine blk_alloc ?_ _)); exact BK350.out), (by (with_reducible repeat (first | refine blk_drewN ?_ _ | refine blk_drew ?_ | refine blk_alloc ?_ _)); exact BK351.out), GW350.out, GE350.out, NB344_350.out, NB350_344.out, NB345_350.out, NB350_345.out, NB351_350.out, NB350_351.out, GW351.out, GE351.out, NB344_351.out, NB351_344.out, NB345_351.out, NB351_345.out, (by repeat (first | (with_reducible first | exact HB.out | apply below_alloc | apply pw_below_drewN | apply below_drew1 | refine below_set ?_ GE344.out | refine below_set ?_ GE345.out | refine below_set ?_ GE351.out | refine below_set ?_ GE350.out) | exact HB.out))⟩)
                    · skip
                      rintro gb350 w12 ⟨hS_, h0_, h1_, h2_, h3_, h4_, h5_, h6_, h7_, h8_, h9_⟩
                      have n0_ : Aside0 (w12.heap[gb344]? = some (.cells #[.int .u64 a0_0, .int .i64 a0_1] 24 (0, 0))) := ⟨h0_⟩
                      have n1_ : Aside0 (w12.heap[gb345]? = some (.cells #[.int .u64 a1_0, .int .i64 a1_1] 24 (0, 0))) := ⟨h1_⟩
                      have n2_ : Aside0 (w12.heap[gb350]? = some (.cells #[.int .u64 0, .int .i64 0] 24 (0, 0))) := ⟨h2_⟩
                      have n3_ : Aside0 (w.heap.size ≤ gb350) := ⟨h3_⟩
                      have n4_ : Aside0 (w.heap.size ≤ gb350) := ⟨h4_⟩
                      have n5_ : Aside0 (gb344 ≠ gb350) := ⟨h5_⟩
                      have n6_ : Aside0 (gb350 ≠ gb344) := ⟨h6_⟩
                      have n7_ : Aside0 (gb345 ≠ gb350) := ⟨h7_⟩
                      have n8_ : Aside0 (gb350 ≠ gb345) := ⟨h8_⟩
                      have n9_ : Aside0 (Below w.heap.size w w12) := ⟨h9_⟩
                      clear BK344
                      clear BK345
                      clear HB
                      clear h0_ h1_ h2_ h3_ h4_ h5_ h6_ h7_ h8_ h9_
                      have BK344 := n0_
                      have BK345 := n1_
                      have BK350 := n2_
                      have GW350 := n3_
                      have GE350 := n4_
                      have NB344_350 := n5_
                      have NB350_344 := n6_
                      have NB345_350 := n7_
                      have NB350_345 := n8_
                      have HB := n9_
                      clear n0_ n1_ n2_ n3_ n4_ n5_ n6_ n7_ n8_ n9_
                      have hHeld : w12.cell? ⟨gb344, 0, none⟩ = some (.int .u64 a0_0) ∧ w12.cell? ⟨gb344, 1, none⟩ = some (.int .i64 a0_1) ∧ w12.cell? ⟨gb345, 0, none⟩ = some (.int .u64 a1_0) ∧ w12.cell? ⟨gb345, 1, none⟩ = some (.int .i64 a1_1) := hS_
                      refine norm_ (a' := ?_) ?_ ?_
                      rotate_left
                      · simp only [putAll, Act.put, List.setIfInBounds_toArray, List.set_cons_zero, List.set_cons_succ]
                        rfl
                      refine two_ (i := 4) (j := 11) (Ni := some 19) (Nj := some 6) #[true, true, true, true, true, true, true, true, true, false, true, false, false, false] #[true, true, true, true, false, true, true, true, true, false, true, true, false, false] rfl rfl rfl rfl (two_of HT_.out (by kernel_rfl)) (by decide) (by decide) (fun K hK => ?_) (fun K hK => ?_)
                      · skip
                        refine goes_ Try.func17 (by kernel_rfl) rfl #[.int .u64 a0_0, .int .i64 a0_1, .int .i64 524288] (by rfl) rfl rfl (by (try simp only [List.map_toArray, List.map_cons, List.map_nil]); first | done | rfl | (simp only [List.length_drop, List.length_take]; rfl)) ?_
                        with_reducible refine (stockyardlaw22_made.calls a0_0 a0_1 524288 t346 t347 _ A3.out).mono ?_
                        rintro e w13 ⟨rfl, hb⟩
                        refine ⟨_, rfl, ?_⟩
                        have n0_ := Aside0.mk (blk_below (g := gb344) (o := .cells #[.int .u64 a0_0, .int .i64 a0_1] 24 (0, 0)) (by (with_reducible repeat (first | refine blk_drewN ?_ _ | refine blk_drew ?_ | refine blk_alloc ?_ _)); exact BK344.out) hb)
                        have n1_ := Aside0.mk (blk_below (g := gb345) (o := .cells #[.int .u64 a1_0, .int .i64 a1_1] 24 (0, 0)) (by (with_reducible repeat (first | refine blk_drewN ?_ _ | refine blk_drew ?_ | refine blk_alloc ?_ _)); exact BK345.out) hb)
                        have n2_ := Aside0.mk (blk_below (g := gb350) (o := .cells #[.int .u64 0, .int .i64 0] 24 (0, 0)) (by (with_reducible repeat (first | refine blk_drewN ?_ _ | refine blk_drew ?_ | refine blk_alloc ?_ _)); exact BK350.out) hb)
                        have n3_ := Aside0.mk (below_step (by repeat (first | (with_reducible first | exact HB.out | apply below_alloc | apply pw_below_drewN | apply below_drew1 | refine below_set ?_ GE344.out | refine below_set ?_ GE345.out | refine below_set ?_ GE350.out) | exact HB.out)) hb)
                        clear BK344
                        clear BK345
                        clear BK350
                        clear HB
                        have BK344 := n0_
                        have BK345 := n1_
                        have BK350 := n2_
                        have HB := n3_
                        clear n0_ n1_ n2_ n3_
                        (try clear hb)
                        (try clear hb2)
                        (try clear hk)
                        (try clear hi)
                        refine hK.out _ _ ⟨(blk_cell BK344.out 0).trans rfl, (blk_cell BK344.out 1).trans rfl, (blk_cell BK345.out 0).trans rfl, (blk_cell BK345.out 1).trans rfl⟩ (fun hHeld => ?_)
                        clear hK K
                        refine norm_ (a' := ?_) ?_ ?_
                        rotate_left
                        · show Act.put _ (some 19) _ = _
                          simp only [Act.put, List.setIfInBounds_toArray, List.set_cons_zero, List.set_cons_succ, i64_w, i32_w]
                          rfl
                        exact norm_ (by first | (simp only [putAll, Act.put, List.setIfInBounds_toArray, List.set_cons_zero, List.set_cons_succ]; done) | (simp only [putAll, Act.put, List.setIfInBounds_toArray, List.set_cons_zero, List.set_cons_succ]; rfl)) (hJ4_10 (gb350) _ ⟨hHeld, (by (with_reducible repeat (first | refine blk_drewN ?_ _ | refine blk_drew ?_ | refine blk_alloc ?_ _)); exact BK344.out), (by (with_reducible repeat (first | refine blk_drewN ?_ _ | refine blk_drew ?_ | refine blk_alloc ?_ _)); exact BK345.out), (by (with_reducible repeat (first | refine blk_drewN ?_ _ | refine blk_drew ?_ | refine blk_alloc ?_ _)); exact BK350.out), GW350.out, GE350.out, NB344_350.out, NB350_344.out, NB345_350.out, NB350_345.out, (by repeat (first | (with_reducible first | exact HB.out | apply below_alloc | apply pw_below_drewN | apply below_drew1 | refine below_set ?_ GE344.out | refine below_set ?_ GE345.out | refine below_set ?_ GE350.out) | exact HB.out))⟩)
                      · skip
                        refine box_step ?hg (N := 6) ?hd (cs := #[.int .u64 0, .int .i64 0]) (t := 24) ?hr ?_; (case hd => rfl); (case hg => rfl); (case hr => first | (go_simp; done) | (go_simp; rfl))
                        intro gb351 hg w13 hbox hb
                        have n0_ := Aside0.mk (blk_below (g := gb344) (o := .cells #[.int .u64 a0_0, .int .i64 a0_1] 24 (0, 0)) (by (with_reducible repeat (first | refine blk_drewN ?_ _ | refine blk_drew ?_ | refine blk_alloc ?_ _)); exact BK344.out) hb)
                        have n1_ := Aside0.mk (blk_below (g := gb345) (o := .cells #[.int .u64 a1_0, .int .i64 a1_1] 24 (0, 0)) (by (with_reducible repeat (first | refine blk_drewN ?_ _ | refine blk_drew ?_ | refine blk_alloc ?_ _)); exact BK345.out) hb)
                        have n2_ := Aside0.mk (blk_below (g := gb350) (o := .cells #[.int .u64 0, .int .i64 0] 24 (0, 0)) (by (with_reducible repeat (first | refine blk_drewN ?_ _ | refine blk_drew ?_ | refine blk_alloc ?_ _)); exact BK350.out) hb)
                        have n3_ := Aside0.mk (below_step (by repeat (first | (with_reducible first | exact HB.out | apply below_alloc | apply pw_below_drewN | apply below_drew1 | refine below_set ?_ GE344.out | refine below_set ?_ GE345.out | refine below_set ?_ GE350.out) | exact HB.out)) hb)
                        have n4_ := Aside0.mk (hbox)
                        have n5_ := Aside0.mk ((by rw [hg]; exact (below_size (by repeat (first | (with_reducible first | exact HB.out | apply below_alloc | apply pw_below_drewN | apply below_drew1 | refine below_set ?_ GE344.out | refine below_set ?_ GE345.out | refine below_set ?_ GE350.out) | exact HB.out))) : w.heap.size ≤ gb351))
                        have n6_ := Aside0.mk ((by rw [hg]; exact (below_size (by repeat (first | (with_reducible first | exact HB.out | apply below_alloc | apply pw_below_drewN | apply below_drew1 | refine below_set ?_ GE344.out | refine below_set ?_ GE345.out | refine below_set ?_ GE350.out) | exact HB.out))) : w.heap.size ≤ gb351))
                        have n7_ := Aside0.mk ((by rw [hg]; exact Nat.ne_of_lt (blk_lt (g := gb344) (o := .cells #[.int .u64 a0_0, .int .i64 a0_1] 24 (0, 0)) (by (with_reducible repeat (first | refine blk_drewN ?_ _ | refine blk_drew ?_ | refine blk_alloc ?_ _)); exact BK344.out)) : gb344 ≠ gb351))
                        have n8_ := Aside0.mk ((by rw [hg]; exact Nat.ne_of_gt (blk_lt (g := gb344) (o := .cells #[.int .u64 a0_0, .int .i64 a0_1] 24 (0, 0)) (by (with_reducible repeat (first | refine blk_drewN ?_ _ | refine blk_drew ?_ | refine blk_alloc ?_ _)); exact BK344.out)) : gb351 ≠ gb344))
                        have n9_ := Aside0.mk ((by rw [hg]; exact Nat.ne_of_lt (blk_lt (g := gb345) (o := .cells #[.int .u64 a1_0, .int .i64 a1_1] 24 (0, 0)) (by (with_reducible repeat (first | refine blk_drewN ?_ _ | refine blk_drew ?_ | refine blk_alloc ?_ _)); exact BK345.out)) : gb345 ≠ gb351))
                        have n10_ := Aside0.mk ((by rw [hg]; exact Nat.ne_of_gt (blk_lt (g := gb345) (o := .cells #[.int .u64 a1_0, .int .i64 a1_1] 24 (0, 0)) (by (with_reducible repeat (first | refine blk_drewN ?_ _ | refine blk_drew ?_ | refine blk_alloc ?_ _)); exact BK345.out)) : gb351 ≠ gb345))
                        have n11_ := Aside0.mk ((by rw [hg]; exact Nat.ne_of_lt (blk_lt (g := gb350) (o := .cells #[.int .u64 0, .int .i64 0] 24 (0, 0)) (by (with_reducible repeat (first | refine blk_drewN ?_ _ | refine blk_drew ?_ | refine blk_alloc ?_ _)); exact BK350.out)) : gb350 ≠ gb351))
                        have n12_ := Aside0.mk ((by rw [hg]; exact Nat.ne_of_gt (blk_lt (g := gb350) (o := .cells #[.int .u64 0, .int .i64 0] 24 (0, 0)) (by (with_reducible repeat (first | refine blk_drewN ?_ _ | refine blk_drew ?_ | refine blk_alloc ?_ _)); exact BK350.out)) : gb351 ≠ gb350))
                        clear BK344
                        clear BK345
                        clear BK350
                        clear HB
                        have BK344 := n0_
                        have BK345 := n1_
                        have BK350 := n2_
                        have HB := n3_
                        have BK351 := n4_
                        have GW351 := n5_
                        have GE351 := n6_
                        have NB344_351 := n7_
                        have NB351_344 := n8_
                        have NB345_351 := n9_
                        have NB351_345 := n10_
                        have NB350_351 := n11_
                        have NB351_350 := n12_
                        clear n0_ n1_ n2_ n3_ n4_ n5_ n6_ n7_ n8_ n9_ n10_ n11_ n12_
                        clear hb hbox hg
                        refine hK.out _ _ ⟨(blk_cell BK344.out 0).trans rfl, (blk_cell BK344.out 1).trans rfl, (blk_cell BK345.out 0).trans rfl, (blk_cell BK345.out 1).trans rfl⟩ (fun hHeld => ?_)
                        clear hK K
                        refine norm_ (a' := ?_) ?_ ?_
                        rotate_left
                        · show Act.put _ (some 6) _ = _
                          simp only [Act.put, List.setIfInBounds_toArray, List.set_cons_zero, List.set_cons_succ, i64_w, i32_w]
                          rfl
                        exact norm_ (by first | (simp only [putAll, Act.put, List.setIfInBounds_toArray, List.set_cons_zero, List.set_cons_succ]; done) | (simp only [putAll, Act.put, List.setIfInBounds_toArray, List.set_cons_zero, List.set_cons_succ]; rfl)) (hJ10_11 (gb350, gb351) _ ⟨hHeld, (by (with_reducible repeat (first | refine blk_drewN ?_ _ | refine blk_drew ?_ | refine blk_alloc ?_ _)); exact BK344.out), (by (with_reducible repeat (first | refine blk_drewN ?_ _ | refine blk_drew ?_ | refine blk_alloc ?_ _)); exact BK345.out), (by (with_reducible repeat (first | refine blk_drewN ?_ _ | refine blk_drew ?_ | refine blk_alloc ?_ _)); exact BK350.out), (by (with_reducible repeat (first | refine blk_drewN ?_ _ | refine blk_drew ?_ | refine blk_alloc ?_ _)); exact BK351.out), GW350.out, GE350.out, NB344_350.out, NB350_344.out, NB345_350.out, NB350_345.out, NB351_350.out, NB350_351.out, GW351.out, GE351.out, NB344_351.out, NB351_344.out, NB345_351.out, NB351_345.out, (by repeat (first | (with_reducible first | exact HB.out | apply below_alloc | apply pw_below_drewN | apply below_drew1 | refine below_set ?_ GE344.out | refine below_set ?_ GE345.out | refine below_set ?_ GE350.out | refine below_set ?_ GE351.out) | exact HB.out))⟩)
                  · skip
                    rintro _ w12 ⟨hS_, h0_, h1_, h2_⟩
                    have n0_ : Aside0 (w12.heap[gb344]? = some (.cells #[.int .u64 a0_0, .int .i64 a0_1] 24 (0, 0))) := ⟨h0_⟩
                    have n1_ : Aside0 (w12.heap[gb345]? = some (.cells #[.int .u64 a1_0, .int .i64 a1_1] 24 (0, 0))) := ⟨h1_⟩
                    have n2_ : Aside0 (Below w.heap.size w w12) := ⟨h2_⟩
                    clear BK344
                    clear BK345
                    clear HB
                    clear h0_ h1_ h2_
                    have BK344 := n0_
                    have BK345 := n1_
                    have HB := n2_
                    clear n0_ n1_ n2_
                    have hHeld : w12.cell? ⟨gb344, 0, none⟩ = some (.int .u64 a0_0) ∧ w12.cell? ⟨gb344, 1, none⟩ = some (.int .i64 a0_1) ∧ w12.cell? ⟨gb345, 0, none⟩ = some (.int .u64 a1_0) ∧ w12.cell? ⟨gb345, 1, none⟩ = some (.int .i64 a1_1) := hS_
                    refine norm_ (a' := ?_) ?_ ?_
                    rotate_left
                    · simp only [putAll, Act.put, List.setIfInBounds_toArray, List.set_cons_zero, List.set_cons_succ]
                      rfl
                    refine three_ (i := 9) (j := 10) (k := 11) (Ni := some 24) (Nj := some 5) (Nk := some 6) #[true, true, true, true, true, true, true, true, true, true, false, false, false, false] #[true, true, true, true, true, true, true, true, true, false, true, false, false, false] #[true, true, true, true, true, true, true, true, true, false, false, true, false, false] rfl rfl rfl rfl rfl rfl (three_of HT_.out (by kernel_rfl)) (by decide) (by decide) (by decide) (fun K hK => ?_) (fun K hK => ?_) (fun K hK => ?_)
                    · skip
                      refine goes_ Try.func17 (by kernel_rfl) rfl #[.int .u64 a1_0, .int .i64 a1_1, .int .i64 524288] (by rfl) rfl rfl (by (try simp only [List.map_toArray, List.map_cons, List.map_nil]); first | done | rfl | (simp only [List.length_drop, List.length_take]; rfl)) ?_
                      with_reducible refine (stockyardlaw22_made.calls a1_0 a1_1 524288 t348 t349 _ A4.out).mono ?_
                      rintro e w13 ⟨rfl, hb⟩
                      refine ⟨_, rfl, ?_⟩
                      have n0_ := Aside0.mk (blk_below (g := gb344) (o := .cells #[.int .u64 a0_0, .int .i64 a0_1] 24 (0, 0)) (by (with_reducible repeat (first | refine blk_drewN ?_ _ | refine blk_drew ?_ | refine blk_alloc ?_ _)); exact BK344.out) hb)
                      have n1_ := Aside0.mk (blk_below (g := gb345) (o := .cells #[.int .u64 a1_0, .int .i64 a1_1] 24 (0, 0)) (by (with_reducible repeat (first | refine blk_drewN ?_ _ | refine blk_drew ?_ | refine blk_alloc ?_ _)); exact BK345.out) hb)
                      have n2_ := Aside0.mk (below_step (by repeat (first | (with_reducible first | exact HB.out | apply below_alloc | apply pw_below_drewN | apply below_drew1 | refine below_set ?_ GE344.out | refine below_set ?_ GE345.out) | exact HB.out)) hb)
                      clear BK344
                      clear BK345
                      clear HB
                      have BK344 := n0_
                      have BK345 := n1_
                      have HB := n2_
                      clear n0_ n1_ n2_
                      (try clear hb)
                      (try clear hb2)
                      (try clear hk)
                      (try clear hi)
                      refine hK.out _ _ ⟨(blk_cell BK344.out 0).trans rfl, (blk_cell BK344.out 1).trans rfl, (blk_cell BK345.out 0).trans rfl, (blk_cell BK345.out 1).trans rfl⟩ (fun hHeld => ?_)
                      clear hK K
                      refine norm_ (a' := ?_) ?_ ?_
                      rotate_left
                      · show Act.put _ (some 24) _ = _
                        simp only [Act.put, List.setIfInBounds_toArray, List.set_cons_zero, List.set_cons_succ, i64_w, i32_w]
                        rfl
                      exact norm_ (by first | (simp only [putAll, Act.put, List.setIfInBounds_toArray, List.set_cons_zero, List.set_cons_succ]; done) | (simp only [putAll, Act.put, List.setIfInBounds_toArray, List.set_cons_zero, List.set_cons_succ]; rfl)) (hJ4_9 () _ ⟨hHeld, (by (with_reducible repeat (first | refine blk_drewN ?_ _ | refine blk_drew ?_ | refine blk_alloc ?_ _)); exact BK344.out), (by (with_reducible repeat (first | refine blk_drewN ?_ _ | refine blk_drew ?_ | refine blk_alloc ?_ _)); exact BK345.out), (by repeat (first | (with_reducible first | exact HB.out | apply below_alloc | apply pw_below_drewN | apply below_drew1 | refine below_set ?_ GE344.out | refine below_set ?_ GE345.out) | exact HB.out))⟩)
                    · skip
                      refine box_step ?hg (N := 5) ?hd (cs := #[.int .u64 0, .int .i64 0]) (t := 24) ?hr ?_; (case hd => rfl); (case hg => rfl); (case hr => first | (go_simp; done) | (go_simp; rfl))
                      intro gb350 hg w13 hbox hb
                      have n0_ := Aside0.mk (blk_below (g := gb344) (o := .cells #[.int .u64 a0_0, .int .i64 a0_1] 24 (0, 0)) (by (with_reducible repeat (first | refine blk_drewN ?_ _ | refine blk_drew ?_ | refine blk_alloc ?_ _)); exact BK344.out) hb)
                      have n1_ := Aside0.mk (blk_below (g := gb345) (o := .cells #[.int .u64 a1_0, .int .i64 a1_1] 24 (0, 0)) (by (with_reducible repeat (first | refine blk_drewN ?_ _ | refine blk_drew ?_ | refine blk_alloc ?_ _)); exact BK345.out) hb)
                      have n2_ := Aside0.mk (below_step (by repeat (first | (with_reducible first | exact HB.out | apply below_alloc | apply pw_below_drewN | apply below_drew1 | refine below_set ?_ GE344.out | refine below_set ?_ GE345.out) | exact HB.out)) hb)
                      have n3_ := Aside0.mk (hbox)
                      have n4_ := Aside0.mk ((by rw [hg]; exact (below_size (by repeat (first | (with_reducible first | exact HB.out | apply below_alloc | apply pw_below_drewN | apply below_drew1 | refine below_set ?_ GE344.out | refine below_set ?_ GE345.out) | exact HB.out))) : w.heap.size ≤ gb350))
                      have n5_ := Aside0.mk ((by rw [hg]; exact (below_size (by repeat (first | (with_reducible first | exact HB.out | apply below_alloc | apply pw_below_drewN | apply below_drew1 | refine below_set ?_ GE344.out | refine below_set ?_ GE345.out) | exact HB.out))) : w.heap.size ≤ gb350))
                      have n6_ := Aside0.mk ((by rw [hg]; exact Nat.ne_of_lt (blk_lt (g := gb344) (o := .cells #[.int .u64 a0_0, .int .i64 a0_1] 24 (0, 0)) (by (with_reducible repeat (first | refine blk_drewN ?_ _ | refine blk_drew ?_ | refine blk_alloc ?_ _)); exact BK344.out)) : gb344 ≠ gb350))
                      have n7_ := Aside0.mk ((by rw [hg]; exact Nat.ne_of_gt (blk_lt (g := gb344) (o := .cells #[.int .u64 a0_0, .int .i64 a0_1] 24 (0, 0)) (by (with_reducible repeat (first | refine blk_drewN ?_ _ | refine blk_drew ?_ | refine blk_alloc ?_ _)); exact BK344.out)) : gb350 ≠ gb344))
                      have n8_ := Aside0.mk ((by rw [hg]; exact Nat.ne_of_lt (blk_lt (g := gb345) (o := .cells #[.int .u64 a1_0, .int .i64 a1_1] 24 (0, 0)) (by (with_reducible repeat (first | refine blk_drewN ?_ _ | refine blk_drew ?_ | refine blk_alloc ?_ _)); exact BK345.out)) : gb345 ≠ gb350))
                      have n9_ := Aside0.mk ((by rw [hg]; exact Nat.ne_of_gt (blk_lt (g := gb345) (o := .cells #[.int .u64 a1_0, .int .i64 a1_1] 24 (0, 0)) (by (with_reducible repeat (first | refine blk_drewN ?_ _ | refine blk_drew ?_ | refine blk_alloc ?_ _)); exact BK345.out)) : gb350 ≠ gb345))
                      clear BK344
                      clear BK345
                      clear HB
                      have BK344 := n0_
                      have BK345 := n1_
                      have HB := n2_
                      have BK350 := n3_
                      have GW350 := n4_
                      have GE350 := n5_
                      have NB344_350 := n6_
                      have NB350_344 := n7_
                      have NB345_350 := n8_
                      have NB350_345 := n9_
                      clear n0_ n1_ n2_ n3_ n4_ n5_ n6_ n7_ n8_ n9_
                      clear hb hbox hg
                      refine hK.out _ _ ⟨(blk_cell BK344.out 0).trans rfl, (blk_cell BK344.out 1).trans rfl, (blk_cell BK345.out 0).trans rfl, (blk_cell BK345.out 1).trans rfl⟩ (fun hHeld => ?_)
                      clear hK K
                      refine norm_ (a' := ?_) ?_ ?_
                      rotate_left
                      · show Act.put _ (some 5) _ = _
                        simp only [Act.put, List.setIfInBounds_toArray, List.set_cons_zero, List.set_cons_succ, i64_w, i32_w]
                        rfl
                      exact norm_ (by first | (simp only [putAll, Act.put, List.setIfInBounds_toArray, List.set_cons_zero, List.set_cons_succ]; done) | (simp only [putAll, Act.put, List.setIfInBounds_toArray, List.set_cons_zero, List.set_cons_succ]; rfl)) (hJ4_10 (gb350) _ ⟨hHeld, (by (with_reducible repeat (first | refine blk_drewN ?_ _ | refine blk_drew ?_ | refine blk_alloc ?_ _)); exact BK344.out), (by (with_reducible repeat (first | refine blk_drewN ?_ _ | refine blk_drew ?_ | refine blk_alloc ?_ _)); exact BK345.out), (by (with_reducible repeat (first | refine blk_drewN ?_ _ | refine blk_drew ?_ | refine blk_alloc ?_ _)); exact BK350.out), GW350.out, GE350.out, NB344_350.out, NB350_344.out, NB345_350.out, NB350_345.out, (by repeat (first | (with_reducible first | exact HB.out | apply below_alloc | apply pw_below_drewN | apply below_drew1 | refine below_set ?_ GE344.out | refine below_set ?_ GE345.out | refine below_set ?_ GE350.out) | exact HB.out))⟩)
                    · skip
                      refine box_step ?hg (N := 6) ?hd (cs := #[.int .u64 0, .int .i64 0]) (t := 24) ?hr ?_; (case hd => rfl); (case hg => rfl); (case hr => first | (go_simp; done) | (go_simp; rfl))
                      intro gb351 hg w13 hbox hb
                      have n0_ := Aside0.mk (blk_below (g := gb344) (o := .cells #[.int .u64 a0_0, .int .i64 a0_1] 24 (0, 0)) (by (with_reducible repeat (first | refine blk_drewN ?_ _ | refine blk_drew ?_ | refine blk_alloc ?_ _)); exact BK344.out) hb)
                      have n1_ := Aside0.mk (blk_below (g := gb345) (o := .cells #[.int .u64 a1_0, .int .i64 a1_1] 24 (0, 0)) (by (with_reducible repeat (first | refine blk_drewN ?_ _ | refine blk_drew ?_ | refine blk_alloc ?_ _)); exact BK345.out) hb)
                      have n2_ := Aside0.mk (below_step (by repeat (first | (with_reducible first | exact HB.out | apply below_alloc | apply pw_below_drewN | apply below_drew1 | refine below_set ?_ GE344.out | refine below_set ?_ GE345.out) | exact HB.out)) hb)
                      have n3_ := Aside0.mk (hbox)
                      have n4_ := Aside0.mk ((by rw [hg]; exact (below_size (by repeat (first | (with_reducible first | exact HB.out | apply below_alloc | apply pw_below_drewN | apply below_drew1 | refine below_set ?_ GE344.out | refine below_set ?_ GE345.out) | exact HB.out))) : w.heap.size ≤ gb351))
                      have n5_ := Aside0.mk ((by rw [hg]; exact (below_size (by repeat (first | (with_reducible first | exact HB.out | apply below_alloc | apply pw_below_drewN | apply below_drew1 | refine below_set ?_ GE344.out | refine below_set ?_ GE345.out) | exact HB.out))) : w.heap.size ≤ gb351))
                      have n6_ := Aside0.mk ((by rw [hg]; exact Nat.ne_of_lt (blk_lt (g := gb344) (o := .cells #[.int .u64 a0_0, .int .i64 a0_1] 24 (0, 0)) (by (with_reducible repeat (first | refine blk_drewN ?_ _ | refine blk_drew ?_ | refine blk_alloc ?_ _)); exact BK344.out)) : gb344 ≠ gb351))
                      have n7_ := Aside0.mk ((by rw [hg]; exact Nat.ne_of_gt (blk_lt (g := gb344) (o := .cells #[.int .u64 a0_0, .int .i64 a0_1] 24 (0, 0)) (by (with_reducible repeat (first | refine blk_drewN ?_ _ | refine blk_drew ?_ | refine blk_alloc ?_ _)); exact BK344.out)) : gb351 ≠ gb344))
                      have n8_ := Aside0.mk ((by rw [hg]; exact Nat.ne_of_lt (blk_lt (g := gb345) (o := .cells #[.int .u64 a1_0, .int .i64 a1_1] 24 (0, 0)) (by (with_reducible repeat (first | refine blk_drewN ?_ _ | refine blk_drew ?_ | refine blk_alloc ?_ _)); exact BK345.out)) : gb345 ≠ gb351))
                      have n9_ := Aside0.mk ((by rw [hg]; exact Nat.ne_of_gt (blk_lt (g := gb345) (o := .cells #[.int .u64 a1_0, .int .i64 a1_1] 24 (0, 0)) (by (with_reducible repeat (first | refine blk_drewN ?_ _ | refine blk_drew ?_ | refine blk_alloc ?_ _)); exact BK345.out)) : gb351 ≠ gb345))
                      clear BK344
                      clear BK345
                      clear HB
                      have BK344 := n0_
                      have BK345 := n1_
                      have HB := n2_
                      have BK351 := n3_
                      have GW351 := n4_
                      have GE351 := n5_
                      have NB344_351 := n6_
                      have NB351_344 := n7_
                      have NB345_351 := n8_
                      have NB351_345 := n9_
                      clear n0_ n1_ n2_ n3_ n4_ n5_ n6_ n7_ n8_ n9_
                      clear hb hbox hg
                      refine hK.out _ _ ⟨(blk_cell BK344.out 0).trans rfl, (blk_cell BK344.out 1).trans rfl, (blk_cell BK345.out 0).trans rfl, (blk_cell BK345.out 1).trans rfl⟩ (fun hHeld => ?_)
                      clear hK K
                      refine norm_ (a' := ?_) ?_ ?_
                      rotate_left
                      · show Act.put _ (some 6) _ = _
                        simp only [Act.put, List.setIfInBounds_toArray, List.set_cons_zero, List.set_cons_succ, i64_w, i32_w]
                        rfl
                      exact norm_ (by first | (simp only [putAll, Act.put, List.setIfInBounds_toArray, List.set_cons_zero, List.set_cons_succ]; done) | (simp only [putAll, Act.put, List.setIfInBounds_toArray, List.set_cons_zero, List.set_cons_succ]; rfl)) (hJ4_11 (gb351) _ ⟨hHeld, (by (with_reducible repeat (first | refine blk_drewN ?_ _ | refine blk_drew ?_ | refine blk_alloc ?_ _)); exact BK344.out), (by (with_reducible repeat (first | refine blk_drewN ?_ _ | refine blk_drew ?_ | refine blk_alloc ?_ _)); exact BK345.out), (by (with_reducible repeat (first | refine blk_drewN ?_ _ | refine blk_drew ?_ | refine blk_alloc ?_ _)); exact BK351.out), GW351.out, GE351.out, NB344_351.out, NB351_344.out, NB345_351.out, NB351_345.out, (by repeat (first | (with_reducible first | exact HB.out | apply below_alloc | apply pw_below_drewN | apply below_drew1 | refine below_set ?_ GE344.out | refine below_set ?_ GE345.out | refine below_set ?_ GE351.out) | exact HB.out))⟩)
                · skip
                  rintro ⟨gb350, gb351⟩ w13 ⟨hS_, h0_, h1_, h2_, h3_, h4_, h5_, h6_, h7_, h8_, h9_, h10_, h11_, h12_, h13_, h14_, h15_, h16_, h17_, h18_⟩
                  have n0_ : Aside0 (w13.heap[gb344]? = some (.cells #[.int .u64 a0_0, .int .i64 a0_1] 24 (0, 0))) := ⟨h0_⟩
                  have n1_ : Aside0 (w13.heap[gb345]? = some (.cells #[.int .u64 a1_0, .int .i64 a1_1] 24 (0, 0))) := ⟨h1_⟩
                  have n2_ : Aside0 (w13.heap[gb350]? = some (.cells #[.int .u64 0, .int .i64 0] 24 (0, 0))) := ⟨h2_⟩
                  have n3_ : Aside0 (w13.heap[gb351]? = some (.cells #[.int .u64 0, .int .i64 0] 24 (0, 0))) := ⟨h3_⟩
                  have n4_ : Aside0 (w.heap.size ≤ gb350) := ⟨h4_⟩
                  have n5_ : Aside0 (w.heap.size ≤ gb350) := ⟨h5_⟩
                  have n6_ : Aside0 (gb344 ≠ gb350) := ⟨h6_⟩
                  have n7_ : Aside0 (gb350 ≠ gb344) := ⟨h7_⟩
                  have n8_ : Aside0 (gb345 ≠ gb350) := ⟨h8_⟩
                  have n9_ : Aside0 (gb350 ≠ gb345) := ⟨h9_⟩
                  have n10_ : Aside0 (gb351 ≠ gb350) := ⟨h10_⟩
                  have n11_ : Aside0 (gb350 ≠ gb351) := ⟨h11_⟩
                  have n12_ : Aside0 (w.heap.size ≤ gb351) := ⟨h12_⟩
                  have n13_ : Aside0 (w.heap.size ≤ gb351) := ⟨h13_⟩
                  have n14_ : Aside0 (gb344 ≠ gb351) := ⟨h14_⟩
                  have n15_ : Aside0 (gb351 ≠ gb344) := ⟨h15_⟩
                  have n16_ : Aside0 (gb345 ≠ gb351) := ⟨h16_⟩
                  have n17_ : Aside0 (gb351 ≠ gb345) := ⟨h17_⟩
                  have n18_ : Aside0 (Below w.heap.size w w13) := ⟨h18_⟩
                  clear BK344
                  clear BK345
                  clear HB
                  clear h0_ h1_ h2_ h3_ h4_ h5_ h6_ h7_ h8_ h9_ h10_ h11_ h12_ h13_ h14_ h15_ h16_ h17_ h18_
                  have BK344 := n0_
                  have BK345 := n1_
                  have BK350 := n2_
                  have BK351 := n3_
                  have GW350 := n4_
                  have GE350 := n5_
                  have NB344_350 := n6_
                  have NB350_344 := n7_
                  have NB345_350 := n8_
                  have NB350_345 := n9_
                  have NB351_350 := n10_
                  have NB350_351 := n11_
                  have GW351 := n12_
                  have GE351 := n13_
                  have NB344_351 := n14_
                  have NB351_344 := n15_
                  have NB345_351 := n16_
                  have NB351_345 := n17_
                  have HB := n18_
                  clear n0_ n1_ n2_ n3_ n4_ n5_ n6_ n7_ n8_ n9_ n10_ n11_ n12_ n13_ n14_ n15_ n16_ n17_ n18_
                  have hHeld : w13.cell? ⟨gb344, 0, none⟩ = some (.int .u64 a0_0) ∧ w13.cell? ⟨gb344, 1, none⟩ = some (.int .i64 a0_1) ∧ w13.cell? ⟨gb345, 0, none⟩ = some (.int .u64 a1_0) ∧ w13.cell? ⟨gb345, 1, none⟩ = some (.int .i64 a1_1) := hS_
                  refine norm_ (a' := ?_) ?_ ?_
                  rotate_left
                  · simp only [putAll, Act.put, List.setIfInBounds_toArray, List.set_cons_zero, List.set_cons_succ]
                    rfl
                  refine one_ (i := 4) (N := some 19) #[true, true, true, true, true, true, true, true, true, false, true, true, false, false] rfl rfl (one_of HT_.out (by kernel_rfl)) (by decide) (fun K hK => ?_)
                  refine goes_ Try.func17 (by kernel_rfl) rfl #[.int .u64 a0_0, .int .i64 a0_1, .int .i64 524288] (by rfl) rfl rfl (by (try simp only [List.map_toArray, List.map_cons, List.map_nil]); first | done | rfl | (simp only [List.length_drop, List.length_take]; rfl)) ?_
                  with_reducible refine (stockyardlaw22_made.calls a0_0 a0_1 524288 t346 t347 _ A3.out).mono ?_
                  rintro e w14 ⟨rfl, hb⟩
                  refine ⟨_, rfl, ?_⟩
                  have n0_ := Aside0.mk (blk_below (g := gb344) (o := .cells #[.int .u64 a0_0, .int .i64 a0_1] 24 (0, 0)) (by (with_reducible repeat (first | refine blk_drewN ?_ _ | refine blk_drew ?_ | refine blk_alloc ?_ _)); exact BK344.out) hb)
                  have n1_ := Aside0.mk (blk_below (g := gb345) (o := .cells #[.int .u64 a1_0, .int .i64 a1_1] 24 (0, 0)) (by (with_reducible repeat (first | refine blk_drewN ?_ _ | refine blk_drew ?_ | refine blk_alloc ?_ _)); exact BK345.out) hb)
                  have n2_ := Aside0.mk (blk_below (g := gb350) (o := .cells #[.int .u64 0, .int .i64 0] 24 (0, 0)) (by (with_reducible repeat (first | refine blk_drewN ?_ _ | refine blk_drew ?_ | refine blk_alloc ?_ _)); exact BK350.out) hb)
                  have n3_ := Aside0.mk (blk_below (g := gb351) (o := .cells #[.int .u64 0, .int .i64 0] 24 (0, 0)) (by (with_reducible repeat (first | refine blk_drewN ?_ _ | refine blk_drew ?_ | refine blk_alloc ?_ _)); exact BK351.out) hb)
                  have n4_ := Aside0.mk (below_step (by repeat (first | (with_reducible first | exact HB.out | apply below_alloc | apply pw_below_drewN | apply below_drew1 | refine below_set ?_ GE344.out | refine below_set ?_ GE345.out | refine below_set ?_ GE350.out | refine below_set ?_ GE351.out) | exact HB.out)) hb)
                  clear BK344
                  clear BK345
                  clear BK350
                  clear BK351
                  clear HB
                  have BK344 := n0_
                  have BK345 := n1_
                  have BK350 := n2_
                  have BK351 := n3_
                  have HB := n4_
                  clear n0_ n1_ n2_ n3_ n4_
                  (try clear hb)
                  (try clear hb2)
                  (try clear hk)
                  (try clear hi)
                  refine hK.out _ _ ⟨(blk_cell BK344.out 0).trans rfl, (blk_cell BK344.out 1).trans rfl, (blk_cell BK345.out 0).trans rfl, (blk_cell BK345.out 1).trans rfl⟩ (fun hHeld => ?_)
                  clear hK K
                  refine norm_ (a' := ?_) ?_ ?_
                  rotate_left
                  · show Act.put _ (some 19) _ = _
                    simp only [Act.put, List.setIfInBounds_toArray, List.set_cons_zero, List.set_cons_succ, i64_w, i32_w]
                    rfl
                  exact norm_ (by first | (simp only [putAll, Act.put, List.setIfInBounds_toArray, List.set_cons_zero, List.set_cons_succ]; done) | (simp only [putAll, Act.put, List.setIfInBounds_toArray, List.set_cons_zero, List.set_cons_succ]; rfl)) (hJ4_10_11 (gb350, gb351) _ ⟨hHeld, (by (with_reducible repeat (first | refine blk_drewN ?_ _ | refine blk_drew ?_ | refine blk_alloc ?_ _)); exact BK344.out), (by (with_reducible repeat (first | refine blk_drewN ?_ _ | refine blk_drew ?_ | refine blk_alloc ?_ _)); exact BK345.out), (by (with_reducible repeat (first | refine blk_drewN ?_ _ | refine blk_drew ?_ | refine blk_alloc ?_ _)); exact BK350.out), (by (with_reducible repeat (first | refine blk_drewN ?_ _ | refine blk_drew ?_ | refine blk_alloc ?_ _)); exact BK351.out), GW350.out, GE350.out, NB344_350.out, NB350_344.out, NB345_350.out, NB350_345.out, NB351_350.out, NB350_351.out, GW351.out, GE351.out, NB344_351.out, NB351_344.out, NB345_351.out, NB351_345.out, (by repeat (first | (with_reducible first | exact HB.out | apply below_alloc | apply pw_below_drewN | apply below_drew1 | refine below_set ?_ GE344.out | refine below_set ?_ GE345.out | refine below_set ?_ GE350.out | refine below_set ?_ GE351.out) | exact HB.out))⟩)
              · skip
                rintro gb351 w13 ⟨hS_, h0_, h1_, h2_, h3_, h4_, h5_, h6_, h7_, h8_, h9_⟩
                have n0_ : Aside0 (w13.heap[gb344]? = some (.cells #[.int .u64 a0_0, .int .i64 a0_1] 24 (0, 0))) := ⟨h0_⟩
                have n1_ : Aside0 (w13.heap[gb345]? = some (.cells #[.int .u64 a1_0, .int .i64 a1_1] 24 (0, 0))) := ⟨h1_⟩
                have n2_ : Aside0 (w13.heap[gb351]? = some (.cells #[.int .u64 0, .int .i64 0] 24 (0, 0))) := ⟨h2_⟩
                have n3_ : Aside0 (w.heap.size ≤ gb351) := ⟨h3_⟩
                have n4_ : Aside0 (w.heap.size ≤ gb351) := ⟨h4_⟩
                have n5_ : Aside0 (gb344 ≠ gb351) := ⟨h5_⟩
                have n6_ : Aside0 (gb351 ≠ gb344) := ⟨h6_⟩
                have n7_ : Aside0 (gb345 ≠ gb351) := ⟨h7_⟩
                have n8_ : Aside0 (gb351 ≠ gb345) := ⟨h8_⟩
                have n9_ : Aside0 (Below w.heap.size w w13) := ⟨h9_⟩
                clear BK344
                clear BK345
                clear HB
                clear h0_ h1_ h2_ h3_ h4_ h5_ h6_ h7_ h8_ h9_
                have BK344 := n0_
                have BK345 := n1_
                have BK351 := n2_
                have GW351 := n3_
                have GE351 := n4_
                have NB344_351 := n5_
                have NB351_344 := n6_
                have NB345_351 := n7_
                have NB351_345 := n8_
                have HB := n9_
                clear n0_ n1_ n2_ n3_ n4_ n5_ n6_ n7_ n8_ n9_
                have hHeld : w13.cell? ⟨gb344, 0, none⟩ = some (.int .u64 a0_0) ∧ w13.cell? ⟨gb344, 1, none⟩ = some (.int .i64 a0_1) ∧ w13.cell? ⟨gb345, 0, none⟩ = some (.int .u64 a1_0) ∧ w13.cell? ⟨gb345, 1, none⟩ = some (.int .i64 a1_1) := hS_
                refine norm_ (a' := ?_) ?_ ?_
                rotate_left
                · simp only [putAll, Act.put, List.setIfInBounds_toArray, List.set_cons_zero, List.set_cons_succ]
                  rfl
                refine two_ (i := 9) (j := 10) (Ni := some 24) (Nj := some 5) #[true, true, true, true, true, true, true, true, true, true, false, true, false, false] #[true, true, true, true, true, true, true, true, true, false, true, true, false, false] rfl rfl rfl rfl (two_of HT_.out (by kernel_rfl)) (by decide) (by decide) (fun K hK => ?_) (fun K hK => ?_)
                · skip
                  refine goes_ Try.func17 (by kernel_rfl) rfl #[.int .u64 a1_0, .int .i64 a1_1, .int .i64 524288] (by rfl) rfl rfl (by (try simp only [List.map_toArray, List.map_cons, List.map_nil]); first | done | rfl | (simp only [List.length_drop, List.length_take]; rfl)) ?_
                  with_reducible refine (stockyardlaw22_made.calls a1_0 a1_1 524288 t348 t349 _ A4.out).mono ?_
                  rintro e w14 ⟨rfl, hb⟩
                  refine ⟨_, rfl, ?_⟩
                  have n0_ := Aside0.mk (blk_below (g := gb344) (o := .cells #[.int .u64 a0_0, .int .i64 a0_1] 24 (0, 0)) (by (with_reducible repeat (first | refine blk_drewN ?_ _ | refine blk_drew ?_ | refine blk_alloc ?_ _)); exact BK344.out) hb)
                  have n1_ := Aside0.mk (blk_below (g := gb345) (o := .cells #[.int .u64 a1_0, .int .i64 a1_1] 24 (0, 0)) (by (with_reducible repeat (first | refine blk_drewN ?_ _ | refine blk_drew ?_ | refine blk_alloc ?_ _)); exact BK345.out) hb)
                  have n2_ := Aside0.mk (blk_below (g := gb351) (o := .cells #[.int .u64 0, .int .i64 0] 24 (0, 0)) (by (with_reducible repeat (first | refine blk_drewN ?_ _ | refine blk_drew ?_ | refine blk_alloc ?_ _)); exact BK351.out) hb)
                  have n3_ := Aside0.mk (below_step (by repeat (first | (with_reducible first | exact HB.out | apply below_alloc | apply pw_below_drewN | apply below_drew1 | refine below_set ?_ GE344.out | refine below_set ?_ GE345.out | refine below_set ?_ GE351.out) | exact HB.out)) hb)
                  clear BK344
                  clear BK345
                  clear BK351
                  clear HB
                  have BK344 := n0_
                  have BK345 := n1_
                  have BK351 := n2_
                  have HB := n3_
                  clear n0_ n1_ n2_ n3_
                  (try clear hb)
                  (try clear hb2)
                  (try clear hk)
                  (try clear hi)
                  refine hK.out _ _ ⟨(blk_cell BK344.out 0).trans rfl, (blk_cell BK344.out 1).trans rfl, (blk_cell BK345.out 0).trans rfl, (blk_cell BK345.out 1).trans rfl⟩ (fun hHeld => ?_)
                  clear hK K
                  refine norm_ (a' := ?_) ?_ ?_
                  rotate_left
                  · show Act.put _ (some 24) _ = _
                    simp only [Act.put, List.setIfInBounds_toArray, List.set_cons_zero, List.set_cons_succ, i64_w, i32_w]
                    rfl
                  exact norm_ (by first | (simp only [putAll, Act.put, List.setIfInBounds_toArray, List.set_cons_zero, List.set_cons_succ]; done) | (simp only [putAll, Act.put, List.setIfInBounds_toArray, List.set_cons_zero, List.set_cons_succ]; rfl)) (hJ4_9_11 (gb351) _ ⟨hHeld, (by (with_reducible repeat (first | refine blk_drewN ?_ _ | refine blk_drew ?_ | refine blk_alloc ?_ _)); exact BK344.out), (by (with_reducible repeat (first | refine blk_drewN ?_ _ | refine blk_drew ?_ | refine blk_alloc ?_ _)); exact BK345.out), (by (with_reducible repeat (first | refine blk_drewN ?_ _ | refine blk_drew ?_ | refine blk_alloc ?_ _)); exact BK351.out), GW351.out, GE351.out, NB344_351.out, NB351_344.out, NB345_351.out, NB351_345.out, (by repeat (first | (with_reducible first | exact HB.out | apply below_alloc | apply pw_below_drewN | apply below_drew1 | refine below_set ?_ GE344.out | refine below_set ?_ GE345.out | refine below_set ?_ GE351.out) | exact HB.out))⟩)
                · skip
                  refine box_step ?hg (N := 5) ?hd (cs := #[.int .u64 0, .int .i64 0]) (t := 24) ?hr ?_; (case hd => rfl); (case hg => rfl); (case hr => first | (go_simp; done) | (go_simp; rfl))
                  intro gb350 hg w14 hbox hb
                  have n0_ := Aside0.mk (blk_below (g := gb344) (o := .cells #[.int .u64 a0_0, .int .i64 a0_1] 24 (0, 0)) (by (with_reducible repeat (first | refine blk_drewN ?_ _ | refine blk_drew ?_ | refine blk_alloc ?_ _)); exact BK344.out) hb)
                  have n1_ := Aside0.mk (blk_below (g := gb345) (o := .cells #[.int .u64 a1_0, .int .i64 a1_1] 24 (0, 0)) (by (with_reducible repeat (first | refine blk_drewN ?_ _ | refine blk_drew ?_ | refine blk_alloc ?_ _)); exact BK345.out) hb)
                  have n2_ := Aside0.mk (blk_below (g := gb351) (o := .cells #[.int .u64 0, .int .i64 0] 24 (0, 0)) (by (with_reducible repeat (first | refine blk_drewN ?_ _ | refine blk_drew ?_ | refine blk_alloc ?_ _)); exact BK351.out) hb)
                  have n3_ := Aside0.mk (below_step (by repeat (first | (with_reducible first | exact HB.out | apply below_alloc | apply pw_below_drewN | apply below_drew1 | refine below_set ?_ GE344.out | refine below_set ?_ GE345.out | refine below_set ?_ GE351.out) | exact HB.out)) hb)
                  have n4_ := Aside0.mk (hbox)
                  have n5_ := Aside0.mk ((by rw [hg]; exact (below_size (by repeat (first | (with_reducible first | exact HB.out | apply below_alloc | apply pw_below_drewN | apply below_drew1 | refine below_set ?_ GE344.out | refine below_set ?_ GE345.out | refine below_set ?_ GE351.out) | exact HB.out))) : w.heap.size ≤ gb350))
                  have n6_ := Aside0.mk ((by rw [hg]; exact (below_size (by repeat (first | (with_reducible first | exact HB.out | apply below_alloc | apply pw_below_drewN | apply below_drew1 | refine below_set ?_ GE344.out | refine below_set ?_ GE345.out | refine below_set ?_ GE351.out) | exact HB.out))) : w.heap.size ≤ gb350))
                  have n7_ := Aside0.mk ((by rw [hg]; exact Nat.ne_of_lt (blk_lt (g := gb344) (o := .cells #[.int .u64 a0_0, .int .i64 a0_1] 24 (0, 0)) (by (with_reducible repeat (first | refine blk_drewN ?_ _ | refine blk_drew ?_ | refine blk_alloc ?_ _)); exact BK344.out)) : gb344 ≠ gb350))
                  have n8_ := Aside0.mk ((by rw [hg]; exact Nat.ne_of_gt (blk_lt (g := gb344) (o := .cells #[.int .u64 a0_0, .int .i64 a0_1] 24 (0, 0)) (by (with_reducible repeat (first | refine blk_drewN ?_ _ | refine blk_drew ?_ | refine blk_alloc ?_ _)); exact BK344.out)) : gb350 ≠ gb344))
                  have n9_ := Aside0.mk ((by rw [hg]; exact Nat.ne_of_lt (blk_lt (g := gb345) (o := .cells #[.int .u64 a1_0, .int .i64 a1_1] 24 (0, 0)) (by (with_reducible repeat (first | refine blk_drewN ?_ _ | refine blk_drew ?_ | refine blk_alloc ?_ _)); exact BK345.out)) : gb345 ≠ gb350))
                  have n10_ := Aside0.mk ((by rw [hg]; exact Nat.ne_of_gt (blk_lt (g := gb345) (o := .cells #[.int .u64 a1_0, .int .i64 a1_1] 24 (0, 0)) (by (with_reducible repeat (first | refine blk_drewN ?_ _ | refine blk_drew ?_ | refine blk_alloc ?_ _)); exact BK345.out)) : gb350 ≠ gb345))
                  have n11_ := Aside0.mk ((by rw [hg]; exact Nat.ne_of_lt (blk_lt (g := gb351) (o := .cells #[.int .u64 0, .int .i64 0] 24 (0, 0)) (by (with_reducible repeat (first | refine blk_drewN ?_ _ | refine blk_drew ?_ | refine blk_alloc ?_ _)); exact BK351.out)) : gb351 ≠ gb350))
                  have n12_ := Aside0.mk ((by rw [hg]; exact Nat.ne_of_gt (blk_lt (g := gb351) (o := .cells #[.int .u64 0, .int .i64 0] 24 (0, 0)) (by (with_reducible repeat (first | refine blk_drewN ?_ _ | refine blk_drew ?_ | refine blk_alloc ?_ _)); exact BK351.out)) : gb350 ≠ gb351))
                  clear BK344
                  clear BK345
                  clear BK351
                  clear HB
                  have BK344 := n0_
                  have BK345 := n1_
                  have BK351 := n2_
                  have HB := n3_
                  have BK350 := n4_
                  have GW350 := n5_
                  have GE350 := n6_
                  have NB344_350 := n7_
                  have NB350_344 := n8_
                  have NB345_350 := n9_
                  have NB350_345 := n10_
                  have NB351_350 := n11_
                  have NB350_351 := n12_
                  clear n0_ n1_ n2_ n3_ n4_ n5_ n6_ n7_ n8_ n9_ n10_ n11_ n12_
                  clear hb hbox hg
                  refine hK.out _ _ ⟨(blk_cell BK344.out 0).trans rfl, (blk_cell BK344.out 1).trans rfl, (blk_cell BK345.out 0).trans rfl, (blk_cell BK345.out 1).trans rfl⟩ (fun hHeld => ?_)
                  clear hK K
                  refine norm_ (a' := ?_) ?_ ?_
                  rotate_left
                  · show Act.put _ (some 5) _ = _
                    simp only [Act.put, List.setIfInBounds_toArray, List.set_cons_zero, List.set_cons_succ, i64_w, i32_w]
                    rfl
                  exact norm_ (by first | (simp only [putAll, Act.put, List.setIfInBounds_toArray, List.set_cons_zero, List.set_cons_succ]; done) | (simp only [putAll, Act.put, List.setIfInBounds_toArray, List.set_cons_zero, List.set_cons_succ]; rfl)) (hJ4_10_11 (gb350, gb351) _ ⟨hHeld, (by (with_reducible repeat (first | refine blk_drewN ?_ _ | refine blk_drew ?_ | refine blk_alloc ?_ _)); exact BK344.out), (by (with_reducible repeat (first | refine blk_drewN ?_ _ | refine blk_drew ?_ | refine blk_alloc ?_ _)); exact BK345.out), (by (with_reducible repeat (first | refine blk_drewN ?_ _ | refine blk_drew ?_ | refine blk_alloc ?_ _)); exact BK350.out), (by (with_reducible repeat (first | refine blk_drewN ?_ _ | refine blk_drew ?_ | refine blk_alloc ?_ _)); exact BK351.out), GW350.out, GE350.out, NB344_350.out, NB350_344.out, NB345_350.out, NB350_345.out, NB351_350.out, NB350_351.out, GW351.out, GE351.out, NB344_351.out, NB351_344.out, NB345_351.out, NB351_345.out, (by repeat (first | (with_reducible first | exact HB.out | apply below_alloc | apply pw_below_drewN | apply below_drew1 | refine below_set ?_ GE344.out | refine below_set ?_ GE345.out | refine below_set ?_ GE351.out | refine below_set ?_ GE350.out) | exact HB.out))⟩)
            · skip
              rintro gb350 w13 ⟨hS_, h0_, h1_, h2_, h3_, h4_, h5_, h6_, h7_, h8_, h9_⟩
              have n0_ : Aside0 (w13.heap[gb344]? = some (.cells #[.int .u64 a0_0, .int .i64 a0_1] 24 (0, 0))) := ⟨h0_⟩
              have n1_ : Aside0 (w13.heap[gb345]? = some (.cells #[.int .u64 a1_0, .int .i64 a1_1] 24 (0, 0))) := ⟨h1_⟩
              have n2_ : Aside0 (w13.heap[gb350]? = some (.cells #[.int .u64 0, .int .i64 0] 24 (0, 0))) := ⟨h2_⟩
              have n3_ : Aside0 (w.heap.size ≤ gb350) := ⟨h3_⟩
              have n4_ : Aside0 (w.heap.size ≤ gb350) := ⟨h4_⟩
              have n5_ : Aside0 (gb344 ≠ gb350) := ⟨h5_⟩
              have n6_ : Aside0 (gb350 ≠ gb344) := ⟨h6_⟩
              have n7_ : Aside0 (gb345 ≠ gb350) := ⟨h7_⟩
              have n8_ : Aside0 (gb350 ≠ gb345) := ⟨h8_⟩
              have n9_ : Aside0 (Below w.heap.size w w13) := ⟨h9_⟩
              clear BK344
              clear BK345
              clear HB
              clear h0_ h1_ h2_ h3_ h4_ h5_ h6_ h7_ h8_ h9_
              have BK344 := n0_
              have BK345 := n1_
              have BK350 := n2_
              have GW350 := n3_
              have GE350 := n4_
              have NB344_350 := n5_
              have NB350_344 := n6_
              have NB345_350 := n7_
              have NB350_345 := n8_
              have HB := n9_
              clear n0_ n1_ n2_ n3_ n4_ n5_ n6_ n7_ n8_ n9_
              have hHeld : w13.cell? ⟨gb344, 0, none⟩ = some (.int .u64 a0_0) ∧ w13.cell? ⟨gb344, 1, none⟩ = some (.int .i64 a0_1) ∧ w13.cell? ⟨gb345, 0, none⟩ = some (.int .u64 a1_0) ∧ w13.cell? ⟨gb345, 1, none⟩ = some (.int .i64 a1_1) := hS_
              refine norm_ (a' := ?_) ?_ ?_
              rotate_left
              · simp only [putAll, Act.put, List.setIfInBounds_toArray, List.set_cons_zero, List.set_cons_succ]
                rfl
              refine two_ (i := 9) (j := 11) (Ni := some 24) (Nj := some 6) #[true, true, true, true, true, true, true, true, true, true, true, false, false, false] #[true, true, true, true, true, true, true, true, true, false, true, true, false, false] rfl rfl rfl rfl (two_of HT_.out (by kernel_rfl)) (by decide) (by decide) (fun K hK => ?_) (fun K hK => ?_)
              · skip
                refine goes_ Try.func17 (by kernel_rfl) rfl #[.int .u64 a1_0, .int .i64 a1_1, .int .i64 524288] (by rfl) rfl rfl (by (try simp only [List.map_toArray, List.map_cons, List.map_nil]); first | done | rfl | (simp only [List.length_drop, List.length_take]; rfl)) ?_
                with_reducible refine (stockyardlaw22_made.calls a1_0 a1_1 524288 t348 t349 _ A4.out).mono ?_
                rintro e w14 ⟨rfl, hb⟩
                refine ⟨_, rfl, ?_⟩
                have n0_ := Aside0.mk (blk_below (g := gb344) (o := .cells #[.int .u64 a0_0, .int .i64 a0_1] 24 (0, 0)) (by (with_reducible repeat (first | refine blk_drewN ?_ _ | refine blk_drew ?_ | refine blk_alloc ?_ _)); exact BK344.out) hb)
                have n1_ := Aside0.mk (blk_below (g := gb345) (o := .cells #[.int .u64 a1_0, .int .i64 a1_1] 24 (0, 0)) (by (with_reducible repeat (first | refine blk_drewN ?_ _ | refine blk_drew ?_ | refine blk_alloc ?_ _)); exact BK345.out) hb)
                have n2_ := Aside0.mk (blk_below (g := gb350) (o := .cells #[.int .u64 0, .int .i64 0] 24 (0, 0)) (by (with_reducible repeat (first | refine blk_drewN ?_ _ | refine blk_drew ?_ | refine blk_alloc ?_ _)); exact BK350.out) hb)
                have n3_ := Aside0.mk (below_step (by repeat (first | (with_reducible first | exact HB.out | apply below_alloc | apply pw_below_drewN | apply below_drew1 | refine below_set ?_ GE344.out | refine below_set ?_ GE345.out | refine below_set ?_ GE350.out) | exact HB.out)) hb)
                clear BK344
                clear BK345
                clear BK350
                clear HB
                have BK344 := n0_
                have BK345 := n1_
                have BK350 := n2_
                have HB := n3_
                clear n0_ n1_ n2_ n3_
                (try clear hb)
                (try clear hb2)
                (try clear hk)
                (try clear hi)
                refine hK.out _ _ ⟨(blk_cell BK344.out 0).trans rfl, (blk_cell BK344.out 1).trans rfl, (blk_cell BK345.out 0).trans rfl, (blk_cell BK345.out 1).trans rfl⟩ (fun hHeld => ?_)
                clear hK K
                refine norm_ (a' := ?_) ?_ ?_
                rotate_left
                · show Act.put _ (some 24) _ = _
                  simp only [Act.put, List.setIfInBounds_toArray, List.set_cons_zero, List.set_cons_succ, i64_w, i32_w]
                  rfl
                exact norm_ (by first | (simp only [putAll, Act.put, List.setIfInBounds_toArray, List.set_cons_zero, List.set_cons_succ]; done) | (simp only [putAll, Act.put, List.setIfInBounds_toArray, List.set_cons_zero, List.set_cons_succ]; rfl)) (hJ4_9_10 (gb350) _ ⟨hHeld, (by (with_reducible repeat (first | refine blk_drewN ?_ _ | refine blk_drew ?_ | refine blk_alloc ?_ _)); exact BK344.out), (by (with_reducible repeat (first | refine blk_drewN ?_ _ | refine blk_drew ?_ | refine blk_alloc ?_ _)); exact BK345.out), (by (with_reducible repeat (first | refine blk_drewN ?_ _ | refine blk_drew ?_ | refine blk_alloc ?_ _)); exact BK350.out), GW350.out, GE350.out, NB344_350.out, NB350_344.out, NB345_350.out, NB350_345.out, (by repeat (first | (with_reducible first | exact HB.out | apply below_alloc | apply pw_below_drewN | apply below_drew1 | refine below_set ?_ GE344.out | refine below_set ?_ GE345.out | refine below_set ?_ GE350.out) | exact HB.out))⟩)
              · skip
                refine box_step ?hg (N := 6) ?hd (cs := #[.int .u64 0, .int .i64 0]) (t := 24) ?hr ?_; (case hd => rfl); (case hg => rfl); (case hr => first | (go_simp; done) | (go_simp; rfl))
                intro gb351 hg w14 hbox hb
                have n0_ := Aside0.mk (blk_below (g := gb344) (o := .cells #[.int .u64 a0_0, .int .i64 a0_1] 24 (0, 0)) (by (with_reducible repeat (first | refine blk_drewN ?_ _ | refine blk_drew ?_ | refine blk_alloc ?_ _)); exact BK344.out) hb)
                have n1_ := Aside0.mk (blk_below (g := gb345) (o := .cells #[.int .u64 a1_0, .int .i64 a1_1] 24 (0, 0)) (by (with_reducible repeat (first | refine blk_drewN ?_ _ | refine blk_drew ?_ | refine blk_alloc ?_ _)); exact BK345.out) hb)
                have n2_ := Aside0.mk (blk_below (g := gb350) (o := .cells #[.int .u64 0, .int .i64 0] 24 (0, 0)) (by (with_reducible repeat (first | refine blk_drewN ?_ _ | refine blk_drew ?_ | refine blk_alloc ?_ _)); exact BK350.out) hb)
                have n3_ := Aside0.mk (below_step (by repeat (first | (with_reducible first | exact HB.out | apply below_alloc | apply pw_below_drewN | apply below_drew1 | refine below_set ?_ GE344.out | refine below_set ?_ GE345.out | refine below_set ?_ GE350.out) | exact HB.out)) hb)
                have n4_ := Aside0.mk (hbox)
                have n5_ := Aside0.mk ((by rw [hg]; exact (below_size (by repeat (first | (with_reducible first | exact HB.out | apply below_alloc | apply pw_below_drewN | apply below_drew1 | refine below_set ?_ GE344.out | refine below_set ?_ GE345.out | refine below_set ?_ GE350.out) | exact HB.out))) : w.heap.size ≤ gb351))
                have n6_ := Aside0.mk ((by rw [hg]; exact (below_size (by repeat (first | (with_reducible first | exact HB.out | apply below_alloc | apply pw_below_drewN | apply below_drew1 | refine below_set ?_ GE344.out | refine below_set ?_ GE345.out | refine below_set ?_ GE350.out) | exact HB.out))) : w.heap.size ≤ gb351))
                have n7_ := Aside0.mk ((by rw [hg]; exact Nat.ne_of_lt (blk_lt (g := gb344) (o := .cells #[.int .u64 a0_0, .int .i64 a0_1] 24 (0, 0)) (by (with_reducible repeat (first | refine blk_drewN ?_ _ | refine blk_drew ?_ | refine blk_alloc ?_ _)); exact BK344.out)) : gb344 ≠ gb351))
                have n8_ := Aside0.mk ((by rw [hg]; exact Nat.ne_of_gt (blk_lt (g := gb344) (o := .cells #[.int .u64 a0_0, .int .i64 a0_1] 24 (0, 0)) (by (with_reducible repeat (first | refine blk_drewN ?_ _ | refine blk_drew ?_ | refine blk_alloc ?_ _)); exact BK344.out)) : gb351 ≠ gb344))
                have n9_ := Aside0.mk ((by rw [hg]; exact Nat.ne_of_lt (blk_lt (g := gb345) (o := .cells #[.int .u64 a1_0, .int .i64 a1_1] 24 (0, 0)) (by (with_reducible repeat (first | refine blk_drewN ?_ _ | refine blk_drew ?_ | refine blk_alloc ?_ _)); exact BK345.out)) : gb345 ≠ gb351))
                have n10_ := Aside0.mk ((by rw [hg]; exact Nat.ne_of_gt (blk_lt (g := gb345) (o := .cells #[.int .u64 a1_0, .int .i64 a1_1] 24 (0, 0)) (by (with_reducible repeat (first | refine blk_drewN ?_ _ | refine blk_drew ?_ | refine blk_alloc ?_ _)); exact BK345.out)) : gb351 ≠ gb345))
                have n11_ := Aside0.mk ((by rw [hg]; exact Nat.ne_of_lt (blk_lt (g := gb350) (o := .cells #[.int .u64 0, .int .i64 0] 24 (0, 0)) (by (with_reducible repeat (first | refine blk_drewN ?_ _ | refine blk_drew ?_ | refine blk_alloc ?_ _)); exact BK350.out)) : gb350 ≠ gb351))
                have n12_ := Aside0.mk ((by rw [hg]; exact Nat.ne_of_gt (blk_lt (g := gb350) (o := .cells #[.int .u64 0, .int .i64 0] 24 (0, 0)) (by (with_reducible repeat (first | refine blk_drewN ?_ _ | refine blk_drew ?_ | refine blk_alloc ?_ _)); exact BK350.out)) : gb351 ≠ gb350))
                clear BK344
                clear BK345
                clear BK350
                clear HB
                have BK344 := n0_
                have BK345 := n1_
                have BK350 := n2_
                have HB := n3_
                have BK351 := n4_
                have GW351 := n5_
                have GE351 := n6_
                have NB344_351 := n7_
                have NB351_344 := n8_
                have NB345_351 := n9_
                have NB351_345 := n10_
                have NB350_351 := n11_
                have NB351_350 := n12_
                clear n0_ n1_ n2_ n3_ n4_ n5_ n6_ n7_ n8_ n9_ n10_ n11_ n12_
                clear hb hbox hg
                refine hK.out _ _ ⟨(blk_cell BK344.out 0).trans rfl, (blk_cell BK344.out 1).trans rfl, (blk_cell BK345.out 0).trans rfl, (blk_cell BK345.out 1).trans rfl⟩ (fun hHeld => ?_)
                clear hK K
                refine norm_ (a' := ?_) ?_ ?_
                rotate_left
                · show Act.put _ (some 6) _ = _
                  simp only [Act.put, List.setIfInBounds_toArray, List.set_cons_zero, List.set_cons_succ, i64_w, i32_w]
                  rfl
                exact norm_ (by first | (simp only [putAll, Act.put, List.setIfInBounds_toArray, List.set_cons_zero, List.set_cons_succ]; done) | (simp only [putAll, Act.put, List.setIfInBounds_toArray, List.set_cons_zero, List.set_cons_succ]; rfl)) (hJ4_10_11 (gb350, gb351) _ ⟨hHeld, (by (with_reducible repeat (first | refine blk_drewN ?_ _ | refine blk_drew ?_ | refine blk_alloc ?_ _)); exact BK344.out), (by (with_reducible repeat (first | refine blk_drewN ?_ _ | refine blk_drew ?_ | refine blk_alloc ?_ _)); exact BK345.out), (by (with_reducible repeat (first | refine blk_drewN ?_ _ | refine blk_drew ?_ | refine blk_alloc ?_ _)); exact BK350.out), (by (with_reducible repeat (first | refine blk_drewN ?_ _ | refine blk_drew ?_ | refine blk_alloc ?_ _)); exact BK351.out), GW350.out, GE350.out, NB344_350.out, NB350_344.out, NB345_350.out, NB350_345.out, NB351_350.out, NB350_351.out, GW351.out, GE351.out, NB344_351.out, NB351_344.out, NB345_351.out, NB351_345.out, (by repeat (first | (with_reducible first | exact HB.out | apply below_alloc | apply pw_below_drewN | apply below_drew1 | refine below_set ?_ GE344.out | refine below_set ?_ GE345.out | refine below_set ?_ GE350.out | refine below_set ?_ GE351.out) | exact HB.out))⟩)
          · skip
            rintro _ w13 ⟨hS_, h0_, h1_, h2_⟩
            have n0_ : Aside0 (w13.heap[gb344]? = some (.cells #[.int .u64 a0_0, .int .i64 a0_1] 24 (0, 0))) := ⟨h0_⟩
            have n1_ : Aside0 (w13.heap[gb345]? = some (.cells #[.int .u64 a1_0, .int .i64 a1_1] 24 (0, 0))) := ⟨h1_⟩
            have n2_ : Aside0 (Below w.heap.size w w13) := ⟨h2_⟩
            clear BK344
            clear BK345
            clear HB
            clear h0_ h1_ h2_
            have BK344 := n0_
            have BK345 := n1_
            have HB := n2_
            clear n0_ n1_ n2_
            have hHeld : w13.cell? ⟨gb344, 0, none⟩ = some (.int .u64 a0_0) ∧ w13.cell? ⟨gb344, 1, none⟩ = some (.int .i64 a0_1) ∧ w13.cell? ⟨gb345, 0, none⟩ = some (.int .u64 a1_0) ∧ w13.cell? ⟨gb345, 1, none⟩ = some (.int .i64 a1_1) := hS_
            refine norm_ (a' := ?_) ?_ ?_
            rotate_left
            · simp only [putAll, Act.put, List.setIfInBounds_toArray, List.set_cons_zero, List.set_cons_succ]
              rfl
            refine two_ (i := 10) (j := 11) (Ni := some 5) (Nj := some 6) #[true, true, true, true, true, true, true, true, true, true, true, false, false, false] #[true, true, true, true, true, true, true, true, true, true, false, true, false, false] rfl rfl rfl rfl (two_of HT_.out (by kernel_rfl)) (by decide) (by decide) (fun K hK => ?_) (fun K hK => ?_)
            · skip
              refine box_step ?hg (N := 5) ?hd (cs := #[.int .u64 0, .int .i64 0]) (t := 24) ?hr ?_; (case hd => rfl); (case hg => rfl); (case hr => first | (go_simp; done) | (go_simp; rfl))
              intro gb350 hg w14 hbox hb
              have n0_ := Aside0.mk (blk_below (g := gb344) (o := .cells #[.int .u64 a0_0, .int .i64 a0_1] 24 (0, 0)) (by (with_reducible repeat (first | refine blk_drewN ?_ _ | refine blk_drew ?_ | refine blk_alloc ?_ _)); exact BK344.out) hb)
              have n1_ := Aside0.mk (blk_below (g := gb345) (o := .cells #[.int .u64 a1_0, .int .i64 a1_1] 24 (0, 0)) (by (with_reducible repeat (first | refine blk_drewN ?_ _ | refine blk_drew ?_ | refine blk_alloc ?_ _)); exact BK345.out) hb)
              have n2_ := Aside0.mk (below_step (by repeat (first | (with_reducible first | exact HB.out | apply below_alloc | apply pw_below_drewN | apply below_drew1 | refine below_set ?_ GE344.out | refine below_set ?_ GE345.out) | exact HB.out)) hb)
              have n3_ := Aside0.mk (hbox)
              have n4_ := Aside0.mk ((by rw [hg]; exact (below_size (by repeat (first | (with_reducible first | exact HB.out | apply below_alloc | apply pw_below_drewN | apply below_drew1 | refine below_set ?_ GE344.out | refine below_set ?_ GE345.out) | exact HB.out))) : w.heap.size ≤ gb350))
              have n5_ := Aside0.mk ((by rw [hg]; exact (below_size (by repeat (first | (with_reducible first | exact HB.out | apply below_alloc | apply pw_below_drewN | apply below_drew1 | refine below_set ?_ GE344.out | refine below_set ?_ GE345.out) | exact HB.out))) : w.heap.size ≤ gb350))
              have n6_ := Aside0.mk ((by rw [hg]; exact Nat.ne_of_lt (blk_lt (g := gb344) (o := .cells #[.int .u64 a0_0, .int .i64 a0_1] 24 (0, 0)) (by (with_reducible repeat (first | refine blk_drewN ?_ _ | refine blk_drew ?_ | refine blk_alloc ?_ _)); exact BK344.out)) : gb344 ≠ gb350))
              have n7_ := Aside0.mk ((by rw [hg]; exact Nat.ne_of_gt (blk_lt (g := gb344) (o := .cells #[.int .u64 a0_0, .int .i64 a0_1] 24 (0, 0)) (by (with_reducible repeat (first | refine blk_drewN ?_ _ | refine blk_drew ?_ | refine blk_alloc ?_ _)); exact BK344.out)) : gb350 ≠ gb344))
              have n8_ := Aside0.mk ((by rw [hg]; exact Nat.ne_of_lt (blk_lt (g := gb345) (o := .cells #[.int .u64 a1_0, .int .i64 a1_1] 24 (0, 0)) (by (with_reducible repeat (first | refine blk_drewN ?_ _ | refine blk_drew ?_ | refine blk_alloc ?_ _)); exact BK345.out)) : gb345 ≠ gb350))
              have n9_ := Aside0.mk ((by rw [hg]; exact Nat.ne_of_gt (blk_lt (g := gb345) (o := .cells #[.int .u64 a1_0, .int .i64 a1_1] 24 (0, 0)) (by (with_reducible repeat (first | refine blk_drewN ?_ _ | refine blk_drew ?_ | refine blk_alloc ?_ _)); exact BK345.out)) : gb350 ≠ gb345))
              clear BK344
              clear BK345
              clear HB
              have BK344 := n0_
              have BK345 := n1_
              have HB := n2_
              have BK350 := n3_
              have GW350 := n4_
              have GE350 := n5_
              have NB344_350 := n6_
              have NB350_344 := n7_
              have NB345_350 := n8_
              have NB350_345 := n9_
              clear n0_ n1_ n2_ n3_ n4_ n5_ n6_ n7_ n8_ n9_
              clear hb hbox hg
              refine hK.out _ _ ⟨(blk_cell BK344.out 0).trans rfl, (blk_cell BK344.out 1).trans rfl, (blk_cell BK345.out 0).trans rfl, (blk_cell BK345.out 1).trans rfl⟩ (fun hHeld => ?_)
              clear hK K
              refine norm_ (a' := ?_) ?_ ?_
              rotate_left
              · show Act.put _ (some 5) _ = _
                simp only [Act.put, List.setIfInBounds_toArray, List.set_cons_zero, List.set_cons_succ, i64_w, i32_w]
                rfl
              exact norm_ (by first | (simp only [putAll, Act.put, List.setIfInBounds_toArray, List.set_cons_zero, List.set_cons_succ]; done) | (simp only [putAll, Act.put, List.setIfInBounds_toArray, List.set_cons_zero, List.set_cons_succ]; rfl)) (hJ4_9_10 (gb350) _ ⟨hHeld, (by (with_reducible repeat (first | refine blk_drewN ?_ _ | refine blk_drew ?_ | refine blk_alloc ?_ _)); exact BK344.out), (by (with_reducible repeat (first | refine blk_drewN ?_ _ | refine blk_drew ?_ | refine blk_alloc ?_ _)); exact BK345.out), (by (with_reducible repeat (first | refine blk_drewN ?_ _ | refine blk_drew ?_ | refine blk_alloc ?_ _)); exact BK350.out), GW350.out, GE350.out, NB344_350.out, NB350_344.out, NB345_350.out, NB350_345.out, (by repeat (first | (with_reducible first | exact HB.out | apply below_alloc | apply pw_below_drewN | apply below_drew1 | refine below_set ?_ GE344.out | refine below_set ?_ GE345.out | refine below_set ?_ GE350.out) | exact HB.out))⟩)
            · skip
              refine box_step ?hg (N := 6) ?hd (cs := #[.int .u64 0, .int .i64 0]) (t := 24) ?hr ?_; (case hd => rfl); (case hg => rfl); (case hr => first | (go_simp; done) | (go_simp; rfl))
              intro gb351 hg w14 hbox hb
              have n0_ := Aside0.mk (blk_below (g := gb344) (o := .cells #[.int .u64 a0_0, .int .i64 a0_1] 24 (0, 0)) (by (with_reducible repeat (first | refine blk_drewN ?_ _ | refine blk_drew ?_ | refine blk_alloc ?_ _)); exact BK344.out) hb)
              have n1_ := Aside0.mk (blk_below (g := gb345) (o := .cells #[.int .u64 a1_0, .int .i64 a1_1] 24 (0, 0)) (by (with_reducible repeat (first | refine blk_drewN ?_ _ | refine blk_drew ?_ | refine blk_alloc ?_ _)); exact BK345.out) hb)
              have n2_ := Aside0.mk (below_step (by repeat (first | (with_reducible first | exact HB.out | apply below_alloc | apply pw_below_drewN | apply below_drew1 | refine below_set ?_ GE344.out | refine below_set ?_ GE345.out) | exact HB.out)) hb)
              have n3_ := Aside0.mk (hbox)
              have n4_ := Aside0.mk ((by rw [hg]; exact (below_size (by repeat (first | (with_reducible first | exact HB.out | apply below_alloc | apply pw_below_drewN | apply below_drew1 | refine below_set ?_ GE344.out | refine below_set ?_ GE345.out) | exact HB.out))) : w.heap.size ≤ gb351))
              have n5_ := Aside0.mk ((by rw [hg]; exact (below_size (by repeat (first | (with_reducible first | exact HB.out | apply below_alloc | apply pw_below_drewN | apply below_drew1 | refine below_set ?_ GE344.out | refine below_set ?_ GE345.out) | exact HB.out))) : w.heap.size ≤ gb351))
              have n6_ := Aside0.mk ((by rw [hg]; exact Nat.ne_of_lt (blk_lt (g := gb344) (o := .cells #[.int .u64 a0_0, .int .i64 a0_1] 24 (0, 0)) (by (with_reducible repeat (first | refine blk_drewN ?_ _ | refine blk_drew ?_ | refine blk_alloc ?_ _)); exact BK344.out)) : gb344 ≠ gb351))
              have n7_ := Aside0.mk ((by rw [hg]; exact Nat.ne_of_gt (blk_lt (g := gb344) (o := .cells #[.int .u64 a0_0, .int .i64 a0_1] 24 (0, 0)) (by (with_reducible repeat (first | refine blk_drewN ?_ _ | refine blk_drew ?_ | refine blk_alloc ?_ _)); exact BK344.out)) : gb351 ≠ gb344))
              have n8_ := Aside0.mk ((by rw [hg]; exact Nat.ne_of_lt (blk_lt (g := gb345) (o := .cells #[.int .u64 a1_0, .int .i64 a1_1] 24 (0, 0)) (by (with_reducible repeat (first | refine blk_drewN ?_ _ | refine blk_drew ?_ | refine blk_alloc ?_ _)); exact BK345.out)) : gb345 ≠ gb351))
              have n9_ := Aside0.mk ((by rw [hg]; exact Nat.ne_of_gt (blk_lt (g := gb345) (o := .cells #[.int .u64 a1_0, .int .i64 a1_1] 24 (0, 0)) (by (with_reducible repeat (first | refine blk_drewN ?_ _ | refine blk_drew ?_ | refine blk_alloc ?_ _)); exact BK345.out)) : gb351 ≠ gb345))
              clear BK344
              clear BK345
              clear HB
              have BK344 := n0_
              have BK345 := n1_
              have HB := n2_
              have BK351 := n3_
              have GW351 := n4_
              have GE351 := n5_
              have NB344_351 := n6_
              have NB351_344 := n7_
              have NB345_351 := n8_
              have NB351_345 := n9_
              clear n0_ n1_ n2_ n3_ n4_ n5_ n6_ n7_ n8_ n9_
              clear hb hbox hg
              refine hK.out _ _ ⟨(blk_cell BK344.out 0).trans rfl, (blk_cell BK344.out 1).trans rfl, (blk_cell BK345.out 0).trans rfl, (blk_cell BK345.out 1).trans rfl⟩ (fun hHeld => ?_)
              clear hK K
              refine norm_ (a' := ?_) ?_ ?_
              rotate_left
              · show Act.put _ (some 6) _ = _
                simp only [Act.put, List.setIfInBounds_toArray, List.set_cons_zero, List.set_cons_succ, i64_w, i32_w]
                rfl
              exact norm_ (by first | (simp only [putAll, Act.put, List.setIfInBounds_toArray, List.set_cons_zero, List.set_cons_succ]; done) | (simp only [putAll, Act.put, List.setIfInBounds_toArray, List.set_cons_zero, List.set_cons_succ]; rfl)) (hJ4_9_11 (gb351) _ ⟨hHeld, (by (with_reducible repeat (first | refine blk_drewN ?_ _ | refine blk_drew ?_ | refine blk_alloc ?_ _)); exact BK344.out), (by (with_reducible repeat (first | refine blk_drewN ?_ _ | refine blk_drew ?_ | refine blk_alloc ?_ _)); exact BK345.out), (by (with_reducible repeat (first | refine blk_drewN ?_ _ | refine blk_drew ?_ | refine blk_alloc ?_ _)); exact BK351.out), GW351.out, GE351.out, NB344_351.out, NB351_344.out, NB345_351.out, NB351_345.out, (by repeat (first | (with_reducible first | exact HB.out | apply below_alloc | apply pw_below_drewN | apply below_drew1 | refine below_set ?_ GE344.out | refine below_set ?_ GE345.out | refine below_set ?_ GE351.out) | exact HB.out))⟩)
        · skip
          rintro ⟨gb350, gb351⟩ w14 ⟨hS_, h0_, h1_, h2_, h3_, h4_, h5_, h6_, h7_, h8_, h9_, h10_, h11_, h12_, h13_, h14_, h15_, h16_, h17_, h18_⟩
          have n0_ : Aside0 (w14.heap[gb344]? = some (.cells #[.int .u64 a0_0, .int .i64 a0_1] 24 (0, 0))) := ⟨h0_⟩
          have n1_ : Aside0 (w14.heap[gb345]? = some (.cells #[.int .u64 a1_0, .int .i64 a1_1] 24 (0, 0))) := ⟨h1_⟩
          have n2_ : Aside0 (w14.heap[gb350]? = some (.cells #[.int .u64 0, .int .i64 0] 24 (0, 0))) := ⟨h2_⟩
          have n3_ : Aside0 (w14.heap[gb351]? = some (.cells #[.int .u64 0, .int .i64 0] 24 (0, 0))) := ⟨h3_⟩
          have n4_ : Aside0 (w.heap.size ≤ gb350) := ⟨h4_⟩
          have n5_ : Aside0 (w.heap.size ≤ gb350) := ⟨h5_⟩
          have n6_ : Aside0 (gb344 ≠ gb350) := ⟨h6_⟩
          have n7_ : Aside0 (gb350 ≠ gb344) := ⟨h7_⟩
          have n8_ : Aside0 (gb345 ≠ gb350) := ⟨h8_⟩
          have n9_ : Aside0 (gb350 ≠ gb345) := ⟨h9_⟩
          have n10_ : Aside0 (gb351 ≠ gb350) := ⟨h10_⟩
          have n11_ : Aside0 (gb350 ≠ gb351) := ⟨h11_⟩
          have n12_ : Aside0 (w.heap.size ≤ gb351) := ⟨h12_⟩
          have n13_ : Aside0 (w.heap.size ≤ gb351) := ⟨h13_⟩
          have n14_ : Aside0 (gb344 ≠ gb351) := ⟨h14_⟩
          have n15_ : Aside0 (gb351 ≠ gb344) := ⟨h15_⟩
          have n16_ : Aside0 (gb345 ≠ gb351) := ⟨h16_⟩
          have n17_ : Aside0 (gb351 ≠ gb345) := ⟨h17_⟩
          have n18_ : Aside0 (Below w.heap.size w w14) := ⟨h18_⟩
          clear BK344
          clear BK345
          clear HB
          clear h0_ h1_ h2_ h3_ h4_ h5_ h6_ h7_ h8_ h9_ h10_ h11_ h12_ h13_ h14_ h15_ h16_ h17_ h18_
          have BK344 := n0_
          have BK345 := n1_
          have BK350 := n2_
          have BK351 := n3_
          have GW350 := n4_
          have GE350 := n5_
          have NB344_350 := n6_
          have NB350_344 := n7_
          have NB345_350 := n8_
          have NB350_345 := n9_
          have NB351_350 := n10_
          have NB350_351 := n11_
          have GW351 := n12_
          have GE351 := n13_
          have NB344_351 := n14_
          have NB351_344 := n15_
          have NB345_351 := n16_
          have NB351_345 := n17_
          have HB := n18_
          clear n0_ n1_ n2_ n3_ n4_ n5_ n6_ n7_ n8_ n9_ n10_ n11_ n12_ n13_ n14_ n15_ n16_ n17_ n18_
          have hHeld : w14.cell? ⟨gb344, 0, none⟩ = some (.int .u64 a0_0) ∧ w14.cell? ⟨gb344, 1, none⟩ = some (.int .i64 a0_1) ∧ w14.cell? ⟨gb345, 0, none⟩ = some (.int .u64 a1_0) ∧ w14.cell? ⟨gb345, 1, none⟩ = some (.int .i64 a1_1) := hS_
          refine norm_ (a' := ?_) ?_ ?_
          rotate_left
          · simp only [putAll, Act.put, List.setIfInBounds_toArray, List.set_cons_zero, List.set_cons_succ]
            rfl
          refine one_ (i := 9) (N := some 24) #[true, true, true, true, true, true, true, true, true, true, true, true, false, false] rfl rfl (one_of HT_.out (by kernel_rfl)) (by decide) (fun K hK => ?_)
          refine goes_ Try.func17 (by kernel_rfl) rfl #[.int .u64 a1_0, .int .i64 a1_1, .int .i64 524288] (by rfl) rfl rfl (by (try simp only [List.map_toArray, List.map_cons, List.map_nil]); first | done | rfl | (simp only [List.length_drop, List.length_take]; rfl)) ?_
          with_reducible refine (stockyardlaw22_made.calls a1_0 a1_1 524288 t348 t349 _ A4.out).mono ?_
          rintro e w15 ⟨rfl, hb⟩
          refine ⟨_, rfl, ?_⟩
          have n0_ := Aside0.mk (blk_below (g := gb344) (o := .cells #[.int .u64 a0_0, .int .i64 a0_1] 24 (0, 0)) (by (with_reducible repeat (first | refine blk_drewN ?_ _ | refine blk_drew ?_ | refine blk_alloc ?_ _)); exact BK344.out) hb)
          have n1_ := Aside0.mk (blk_below (g := gb345) (o := .cells #[.int .u64 a1_0, .int .i64 a1_1] 24 (0, 0)) (by (with_reducible repeat (first | refine blk_drewN ?_ _ | refine blk_drew ?_ | refine blk_alloc ?_ _)); exact BK345.out) hb)
          have n2_ := Aside0.mk (blk_below (g := gb350) (o := .cells #[.int .u64 0, .int .i64 0] 24 (0, 0)) (by (with_reducible repeat (first | refine blk_drewN ?_ _ | refine blk_drew ?_ | refine blk_alloc ?_ _)); exact BK350.out) hb)
          have n3_ := Aside0.mk (blk_below (g := gb351) (o := .cells #[.int .u64 0, .int .i64 0] 24 (0, 0)) (by (with_reducible repeat (first | refine blk_drewN ?_ _ | refine blk_drew ?_ | refine blk_alloc ?_ _)); exact BK351.out) hb)
          have n4_ := Aside0.mk (below_step (by repeat (first | (with_reducible first | exact HB.out | apply below_alloc | apply pw_below_drewN | apply below_drew1 | refine below_set ?_ GE344.out | refine below_set ?_ GE345.out | refine below_set ?_ GE350.out | refine below_set ?_ GE351.out) | exact HB.out)) hb)
          clear BK344
          clear BK345
          clear BK350
          clear BK351
          clear HB
          have BK344 := n0_
          have BK345 := n1_
          have BK350 := n2_
          have BK351 := n3_
          have HB := n4_
          clear n0_ n1_ n2_ n3_ n4_
          (try clear hb)
          (try clear hb2)
          (try clear hk)
          (try clear hi)
          refine hK.out _ _ ⟨(blk_cell BK344.out 0).trans rfl, (blk_cell BK344.out 1).trans rfl, (blk_cell BK345.out 0).trans rfl, (blk_cell BK345.out 1).trans rfl⟩ (fun hHeld => ?_)
          clear hK K
          refine norm_ (a' := ?_) ?_ ?_
          rotate_left
          · show Act.put _ (some 24) _ = _
            simp only [Act.put, List.setIfInBounds_toArray, List.set_cons_zero, List.set_cons_succ, i64_w, i32_w]
            rfl
          exact norm_ (by first | (simp only [putAll, Act.put, List.setIfInBounds_toArray, List.set_cons_zero, List.set_cons_succ]; done) | (simp only [putAll, Act.put, List.setIfInBounds_toArray, List.set_cons_zero, List.set_cons_succ]; rfl)) (hJ4_9_10_11 (gb350, gb351) _ ⟨hHeld, (by (with_reducible repeat (first | refine blk_drewN ?_ _ | refine blk_drew ?_ | refine blk_alloc ?_ _)); exact BK344.out), (by (with_reducible repeat (first | refine blk_drewN ?_ _ | refine blk_drew ?_ | refine blk_alloc ?_ _)); exact BK345.out), (by (with_reducible repeat (first | refine blk_drewN ?_ _ | refine blk_drew ?_ | refine blk_alloc ?_ _)); exact BK350.out), (by (with_reducible repeat (first | refine blk_drewN ?_ _ | refine blk_drew ?_ | refine blk_alloc ?_ _)); exact BK351.out), GW350.out, GE350.out, NB344_350.out, NB350_344.out, NB345_350.out, NB350_345.out, NB351_350.out, NB350_351.out, GW351.out, GE351.out, NB344_351.out, NB351_344.out, NB345_351.out, NB351_345.out, (by repeat (first | (with_reducible first | exact HB.out | apply below_alloc | apply pw_below_drewN | apply below_drew1 | refine below_set ?_ GE344.out | refine below_set ?_ GE345.out | refine below_set ?_ GE350.out | refine below_set ?_ GE351.out) | exact HB.out))⟩)
      · skip
        rintro gb351 w14 ⟨hS_, h0_, h1_, h2_, h3_, h4_, h5_, h6_, h7_, h8_, h9_⟩
        have n0_ : Aside0 (w14.heap[gb344]? = some (.cells #[.int .u64 a0_0, .int .i64 a0_1] 24 (0, 0))) := ⟨h0_⟩
        have n1_ : Aside0 (w14.heap[gb345]? = some (.cells #[.int .u64 a1_0, .int .i64 a1_1] 24 (0, 0))) := ⟨h1_⟩
        have n2_ : Aside0 (w14.heap[gb351]? = some (.cells #[.int .u64 0, .int .i64 0] 24 (0, 0))) := ⟨h2_⟩
        have n3_ : Aside0 (w.heap.size ≤ gb351) := ⟨h3_⟩
        have n4_ : Aside0 (w.heap.size ≤ gb351) := ⟨h4_⟩
        have n5_ : Aside0 (gb344 ≠ gb351) := ⟨h5_⟩
        have n6_ : Aside0 (gb351 ≠ gb344) := ⟨h6_⟩
        have n7_ : Aside0 (gb345 ≠ gb351) := ⟨h7_⟩
        have n8_ : Aside0 (gb351 ≠ gb345) := ⟨h8_⟩
        have n9_ : Aside0 (Below w.heap.size w w14) := ⟨h9_⟩
        clear BK344
        clear BK345
        clear HB
        clear h0_ h1_ h2_ h3_ h4_ h5_ h6_ h7_ h8_ h9_
        have BK344 := n0_
        have BK345 := n1_
        have BK351 := n2_
        have GW351 := n3_
        have GE351 := n4_
        have NB344_351 := n5_
        have NB351_344 := n6_
        have NB345_351 := n7_
        have NB351_345 := n8_
        have HB := n9_
        clear n0_ n1_ n2_ n3_ n4_ n5_ n6_ n7_ n8_ n9_
        have hHeld : w14.cell? ⟨gb344, 0, none⟩ = some (.int .u64 a0_0) ∧ w14.cell? ⟨gb344, 1, none⟩ = some (.int .i64 a0_1) ∧ w14.cell? ⟨gb345, 0, none⟩ = some (.int .u64 a1_0) ∧ w14.cell? ⟨gb345, 1, none⟩ = some (.int .i64 a1_1) := hS_
        refine norm_ (a' := ?_) ?_ ?_
        rotate_left
        · simp only [putAll, Act.put, List.setIfInBounds_toArray, List.set_cons_zero, List.set_cons_succ]
          rfl
        refine one_ (i := 10) (N := some 5) #[true, true, true, true, true, true, true, true, true, true, true, true, false, false] rfl rfl (one_of HT_.out (by kernel_rfl)) (by decide) (fun K hK => ?_)
        refine box_step ?hg (N := 5) ?hd (cs := #[.int .u64 0, .int .i64 0]) (t := 24) ?hr ?_; (case hd => rfl); (case hg => rfl); (case hr => first | (go_simp; done) | (go_simp; rfl))
        intro gb350 hg w15 hbox hb
        have n0_ := Aside0.mk (blk_below (g := gb344) (o := .cells #[.int .u64 a0_0, .int .i64 a0_1] 24 (0, 0)) (by (with_reducible repeat (first | refine blk_drewN ?_ _ | refine blk_drew ?_ | refine blk_alloc ?_ _)); exact BK344.out) hb)
        have n1_ := Aside0.mk (blk_below (g := gb345) (o := .cells #[.int .u64 a1_0, .int .i64 a1_1] 24 (0, 0)) (by (with_reducible repeat (first | refine blk_drewN ?_ _ | refine blk_drew ?_ | refine blk_alloc ?_ _)); exact BK345.out) hb)
        have n2_ := Aside0.mk (blk_below (g := gb351) (o := .cells #[.int .u64 0, .int .i64 0] 24 (0, 0)) (by (with_reducible repeat (first | refine blk_drewN ?_ _ | refine blk_drew ?_ | refine blk_alloc ?_ _)); exact BK351.out) hb)
        have n3_ := Aside0.mk (below_step (by repeat (first | (with_reducible first | exact HB.out | apply below_alloc | apply pw_below_drewN | apply below_drew1 | refine below_set ?_ GE344.out | refine below_set ?_ GE345.out | refine below_set ?_ GE351.out) | exact HB.out)) hb)
        have n4_ := Aside0.mk (hbox)
        have n5_ := Aside0.mk ((by rw [hg]; exact (below_size (by repeat (first | (with_reducible first | exact HB.out | apply below_alloc | apply pw_below_drewN | apply below_drew1 | refine below_set ?_ GE344.out | refine below_set ?_ GE345.out | refine below_set ?_ GE351.out) | exact HB.out))) : w.heap.size ≤ gb350))
        have n6_ := Aside0.mk ((by rw [hg]; exact (below_size (by repeat (first | (with_reducible first | exact HB.out | apply below_alloc | apply pw_below_drewN | apply below_drew1 | refine below_set ?_ GE344.out | refine below_set ?_ GE345.out | refine below_set ?_ GE351.out) | exact HB.out))) : w.heap.size ≤ gb350))
        have n7_ := Aside0.mk ((by rw [hg]; exact Nat.ne_of_lt (blk_lt (g := gb344) (o := .cells #[.int .u64 a0_0, .int .i64 a0_1] 24 (0, 0)) (by (with_reducible repeat (first | refine blk_drewN ?_ _ | refine blk_drew ?_ | refine blk_alloc ?_ _)); exact BK344.out)) : gb344 ≠ gb350))
        have n8_ := Aside0.mk ((by rw [hg]; exact Nat.ne_of_gt (blk_lt (g := gb344) (o := .cells #[.int .u64 a0_0, .int .i64 a0_1] 24 (0, 0)) (by (with_reducible repeat (first | refine blk_drewN ?_ _ | refine blk_drew ?_ | refine blk_alloc ?_ _)); exact BK344.out)) : gb350 ≠ gb344))
        have n9_ := Aside0.mk ((by rw [hg]; exact Nat.ne_of_lt (blk_lt (g := gb345) (o := .cells #[.int .u64 a1_0, .int .i64 a1_1] 24 (0, 0)) (by (with_reducible repeat (first | refine blk_drewN ?_ _ | refine blk_drew ?_ | refine blk_alloc ?_ _)); exact BK345.out)) : gb345 ≠ gb350))
        have n10_ := Aside0.mk ((by rw [hg]; exact Nat.ne_of_gt (blk_lt (g := gb345) (o := .cells #[.int .u64 a1_0, .int .i64 a1_1] 24 (0, 0)) (by (with_reducible repeat (first | refine blk_drewN ?_ _ | refine blk_drew ?_ | refine blk_alloc ?_ _)); exact BK345.out)) : gb350 ≠ gb345))
        have n11_ := Aside0.mk ((by rw [hg]; exact Nat.ne_of_lt (blk_lt (g := gb351) (o := .cells #[.int .u64 0, .int .i64 0] 24 (0, 0)) (by (with_reducible repeat (first | refine blk_drewN ?_ _ | refine blk_drew ?_ | refine blk_alloc ?_ _)); exact BK351.out)) : gb351 ≠ gb350))
        have n12_ := Aside0.mk ((by rw [hg]; exact Nat.ne_of_gt (blk_lt (g := gb351) (o := .cells #[.int .u64 0, .int .i64 0] 24 (0, 0)) (by (with_reducible repeat (first | refine blk_drewN ?_ _ | refine blk_drew ?_ | refine blk_alloc ?_ _)); exact BK351.out)) : gb350 ≠ gb351))
        clear BK344
        clear BK345
        clear BK351
        clear HB
        have BK344 := n0_
        have BK345 := n1_
        have BK351 := n2_
        have HB := n3_
        have BK350 := n4_
        have GW350 := n5_
        have GE350 := n6_
        have NB344_350 := n7_
        have NB350_344 := n8_
        have NB345_350 := n9_
        have NB350_345 := n10_
        have NB351_350 := n11_
        have NB350_351 := n12_
        clear n0_ n1_ n2_ n3_ n4_ n5_ n6_ n7_ n8_ n9_ n10_ n11_ n12_
        clear hb hbox hg
        refine hK.out _ _ ⟨(blk_cell BK344.out 0).trans rfl, (blk_cell BK344.out 1).trans rfl, (blk_cell BK345.out 0).trans rfl, (blk_cell BK345.out 1).trans rfl⟩ (fun hHeld => ?_)
        clear hK K
        refine norm_ (a' := ?_) ?_ ?_
        rotate_left
        · show Act.put _ (some 5) _ = _
          simp only [Act.put, List.setIfInBounds_toArray, List.set_cons_zero, List.set_cons_succ, i64_w, i32_w]
          rfl
        exact norm_ (by first | (simp only [putAll, Act.put, List.setIfInBounds_toArray, List.set_cons_zero, List.set_cons_succ]; done) | (simp only [putAll, Act.put, List.setIfInBounds_toArray, List.set_cons_zero, List.set_cons_succ]; rfl)) (hJ4_9_10_11 (gb350, gb351) _ ⟨hHeld, (by (with_reducible repeat (first | refine blk_drewN ?_ _ | refine blk_drew ?_ | refine blk_alloc ?_ _)); exact BK344.out), (by (with_reducible repeat (first | refine blk_drewN ?_ _ | refine blk_drew ?_ | refine blk_alloc ?_ _)); exact BK345.out), (by (with_reducible repeat (first | refine blk_drewN ?_ _ | refine blk_drew ?_ | refine blk_alloc ?_ _)); exact BK350.out), (by (with_reducible repeat (first | refine blk_drewN ?_ _ | refine blk_drew ?_ | refine blk_alloc ?_ _)); exact BK351.out), GW350.out, GE350.out, NB344_350.out, NB350_344.out, NB345_350.out, NB350_345.out, NB351_350.out, NB350_351.out, GW351.out, GE351.out, NB344_351.out, NB351_344.out, NB345_351.out, NB351_345.out, (by repeat (first | (with_reducible first | exact HB.out | apply below_alloc | apply pw_below_drewN | apply below_drew1 | refine below_set ?_ GE344.out | refine below_set ?_ GE345.out | refine below_set ?_ GE351.out | refine below_set ?_ GE350.out) | exact HB.out))⟩)
    · skip
      rintro gb350 w14 ⟨hS_, h0_, h1_, h2_, h3_, h4_, h5_, h6_, h7_, h8_, h9_⟩
      have n0_ : Aside0 (w14.heap[gb344]? = some (.cells #[.int .u64 a0_0, .int .i64 a0_1] 24 (0, 0))) := ⟨h0_⟩
      have n1_ : Aside0 (w14.heap[gb345]? = some (.cells #[.int .u64 a1_0, .int .i64 a1_1] 24 (0, 0))) := ⟨h1_⟩
      have n2_ : Aside0 (w14.heap[gb350]? = some (.cells #[.int .u64 0, .int .i64 0] 24 (0, 0))) := ⟨h2_⟩
      have n3_ : Aside0 (w.heap.size ≤ gb350) := ⟨h3_⟩
      have n4_ : Aside0 (w.heap.size ≤ gb350) := ⟨h4_⟩
      have n5_ : Aside0 (gb344 ≠ gb350) := ⟨h5_⟩
      have n6_ : Aside0 (gb350 ≠ gb344) := ⟨h6_⟩
      have n7_ : Aside0 (gb345 ≠ gb350) := ⟨h7_⟩
      have n8_ : Aside0 (gb350 ≠ gb345) := ⟨h8_⟩
      have n9_ : Aside0 (Below w.heap.size w w14) := ⟨h9_⟩
      clear BK344
      clear BK345
      clear HB
      clear h0_ h1_ h2_ h3_ h4_ h5_ h6_ h7_ h8_ h9_
      have BK344 := n0_
      have BK345 := n1_
      have BK350 := n2_
      have GW350 := n3_
      have GE350 := n4_
      have NB344_350 := n5_
      have NB350_344 := n6_
      have NB345_350 := n7_
      have NB350_345 := n8_
      have HB := n9_
      clear n0_ n1_ n2_ n3_ n4_ n5_ n6_ n7_ n8_ n9_
      have hHeld : w14.cell? ⟨gb344, 0, none⟩ = some (.int .u64 a0_0) ∧ w14.cell? ⟨gb344, 1, none⟩ = some (.int .i64 a0_1) ∧ w14.cell? ⟨gb345, 0, none⟩ = some (.int .u64 a1_0) ∧ w14.cell? ⟨gb345, 1, none⟩ = some (.int .i64 a1_1) := hS_
      refine norm_ (a' := ?_) ?_ ?_
      rotate_left
      · simp only [putAll, Act.put, List.setIfInBounds_toArray, List.set_cons_zero, List.set_cons_succ]
        rfl
      refine one_ (i := 11) (N := some 6) #[true, true, true, true, true, true, true, true, true, true, true, true, false, false] rfl rfl (one_of HT_.out (by kernel_rfl)) (by decide) (fun K hK => ?_)
      refine box_step ?hg (N := 6) ?hd (cs := #[.int .u64 0, .int .i64 0]) (t := 24) ?hr ?_; (case hd => rfl); (case hg => rfl); (case hr => first | (go_simp; done) | (go_simp; rfl))
      intro gb351 hg w15 hbox hb
      have n0_ := Aside0.mk (blk_below (g := gb344) (o := .cells #[.int .u64 a0_0, .int .i64 a0_1] 24 (0, 0)) (by (with_reducible repeat (first | refine blk_drewN ?_ _ | refine blk_drew ?_ | refine blk_alloc ?_ _)); exact BK344.out) hb)
      have n1_ := Aside0.mk (blk_below (g := gb345) (o := .cells #[.int .u64 a1_0, .int .i64 a1_1] 24 (0, 0)) (by (with_reducible repeat (first | refine blk_drewN ?_ _ | refine blk_drew ?_ | refine blk_alloc ?_ _)); exact BK345.out) hb)
      have n2_ := Aside0.mk (blk_below (g := gb350) (o := .cells #[.int .u64 0, .int .i64 0] 24 (0, 0)) (by (with_reducible repeat (first | refine blk_drewN ?_ _ | refine blk_drew ?_ | refine blk_alloc ?_ _)); exact BK350.out) hb)
      have n3_ := Aside0.mk (below_step (by repeat (first | (with_reducible first | exact HB.out | apply below_alloc | apply pw_below_drewN | apply below_drew1 | refine below_set ?_ GE344.out | refine below_set ?_ GE345.out | refine below_set ?_ GE350.out) | exact HB.out)) hb)
      have n4_ := Aside0.mk (hbox)
      have n5_ := Aside0.mk ((by rw [hg]; exact (below_size (by repeat (first | (with_reducible first | exact HB.out | apply below_alloc | apply pw_below_drewN | apply below_drew1 | refine below_set ?_ GE344.out | refine below_set ?_ GE345.out | refine below_set ?_ GE350.out) | exact HB.out))) : w.heap.size ≤ gb351))
      have n6_ := Aside0.mk ((by rw [hg]; exact (below_size (by repeat (first | (with_reducible first | exact HB.out | apply below_alloc | apply pw_below_drewN | apply below_drew1 | refine below_set ?_ GE344.out | refine below_set ?_ GE345.out | refine below_set ?_ GE350.out) | exact HB.out))) : w.heap.size ≤ gb351))
      have n7_ := Aside0.mk ((by rw [hg]; exact Nat.ne_of_lt (blk_lt (g := gb344) (o := .cells #[.int .u64 a0_0, .int .i64 a0_1] 24 (0, 0)) (by (with_reducible repeat (first | refine blk_drewN ?_ _ | refine blk_drew ?_ | refine blk_alloc ?_ _)); exact BK344.out)) : gb344 ≠ gb351))
      have n8_ := Aside0.mk ((by rw [hg]; exact Nat.ne_of_gt (blk_lt (g := gb344) (o := .cells #[.int .u64 a0_0, .int .i64 a0_1] 24 (0, 0)) (by (with_reducible repeat (first | refine blk_drewN ?_ _ | refine blk_drew ?_ | refine blk_alloc ?_ _)); exact BK344.out)) : gb351 ≠ gb344))
      have n9_ := Aside0.mk ((by rw [hg]; exact Nat.ne_of_lt (blk_lt (g := gb345) (o := .cells #[.int .u64 a1_0, .int .i64 a1_1] 24 (0, 0)) (by (with_reducible repeat (first | refine blk_drewN ?_ _ | refine blk_drew ?_ | refine blk_alloc ?_ _)); exact BK345.out)) : gb345 ≠ gb351))
      have n10_ := Aside0.mk ((by rw [hg]; exact Nat.ne_of_gt (blk_lt (g := gb345) (o := .cells #[.int .u64 a1_0, .int .i64 a1_1] 24 (0, 0)) (by (with_reducible repeat (first | refine blk_drewN ?_ _ | refine blk_drew ?_ | refine blk_alloc ?_ _)); exact BK345.out)) : gb351 ≠ gb345))
      have n11_ := Aside0.mk ((by rw [hg]; exact Nat.ne_of_lt (blk_lt (g := gb350) (o := .cells #[.int .u64 0, .int .i64 0] 24 (0, 0)) (by (with_reducible repeat (first | refine blk_drewN ?_ _ | refine blk_drew ?_ | refine blk_alloc ?_ _)); exact BK350.out)) : gb350 ≠ gb351))
      have n12_ := Aside0.mk ((by rw [hg]; exact Nat.ne_of_gt (blk_lt (g := gb350) (o := .cells #[.int .u64 0, .int .i64 0] 24 (0, 0)) (by (with_reducible repeat (first | refine blk_drewN ?_ _ | refine blk_drew ?_ | refine blk_alloc ?_ _)); exact BK350.out)) : gb351 ≠ gb350))
      clear BK344
      clear BK345
      clear BK350
      clear HB
      have BK344 := n0_
      have BK345 := n1_
      have BK350 := n2_
      have HB := n3_
      have BK351 := n4_
      have GW351 := n5_
      have GE351 := n6_
      have NB344_351 := n7_
      have NB351_344 := n8_
      have NB345_351 := n9_
      have NB351_345 := n10_
      have NB350_351 := n11_
      have NB351_350 := n12_
      clear n0_ n1_ n2_ n3_ n4_ n5_ n6_ n7_ n8_ n9_ n10_ n11_ n12_
      clear hb hbox hg
      refine hK.out _ _ ⟨(blk_cell BK344.out 0).trans rfl, (blk_cell BK344.out 1).trans rfl, (blk_cell BK345.out 0).trans rfl, (blk_cell BK345.out 1).trans rfl⟩ (fun hHeld => ?_)
      clear hK K
      refine norm_ (a' := ?_) ?_ ?_
      rotate_left
      · show Act.put _ (some 6) _ = _
        simp only [Act.put, List.setIfInBounds_toArray, List.set_cons_zero, List.set_cons_succ, i64_w, i32_w]
        rfl
      exact norm_ (by first | (simp only [putAll, Act.put, List.setIfInBounds_toArray, List.set_cons_zero, List.set_cons_succ]; done) | (simp only [putAll, Act.put, List.setIfInBounds_toArray, List.set_cons_zero, List.set_cons_succ]; rfl)) (hJ4_9_10_11 (gb350, gb351) _ ⟨hHeld, (by (with_reducible repeat (first | refine blk_drewN ?_ _ | refine blk_drew ?_ | refine blk_alloc ?_ _)); exact BK344.out), (by (with_reducible repeat (first | refine blk_drewN ?_ _ | refine blk_drew ?_ | refine blk_alloc ?_ _)); exact BK345.out), (by (with_reducible repeat (first | refine blk_drewN ?_ _ | refine blk_drew ?_ | refine blk_alloc ?_ _)); exact BK350.out), (by (with_reducible repeat (first | refine blk_drewN ?_ _ | refine blk_drew ?_ | refine blk_alloc ?_ _)); exact BK351.out), GW350.out, GE350.out, NB344_350.out, NB350_344.out, NB345_350.out, NB350_345.out, NB351_350.out, NB350_351.out, GW351.out, GE351.out, NB344_351.out, NB351_344.out, NB345_351.out, NB351_345.out, (by repeat (first | (with_reducible first | exact HB.out | apply below_alloc | apply pw_below_drewN | apply below_drew1 | refine below_set ?_ GE344.out | refine below_set ?_ GE345.out | refine below_set ?_ GE350.out | refine below_set ?_ GE351.out) | exact HB.out))⟩)
  rintro ⟨gb350, gb351⟩ w15 ⟨hS_, h0_, h1_, h2_, h3_, h4_, h5_, h6_, h7_, h8_, h9_, h10_, h11_, h12_, h13_, h14_, h15_, h16_, h17_, h18_⟩
  have n0_ : Aside0 (w15.heap[gb344]? = some (.cells #[.int .u64 a0_0, .int .i64 a0_1] 24 (0, 0))) := ⟨h0_⟩
  have n1_ : Aside0 (w15.heap[gb345]? = some (.cells #[.int .u64 a1_0, .int .i64 a1_1] 24 (0, 0))) := ⟨h1_⟩
  have n2_ : Aside0 (w15.heap[gb350]? = some (.cells #[.int .u64 0, .int .i64 0] 24 (0, 0))) := ⟨h2_⟩
  have n3_ : Aside0 (w15.heap[gb351]? = some (.cells #[.int .u64 0, .int .i64 0] 24 (0, 0))) := ⟨h3_⟩
  have n4_ : Aside0 (w.heap.size ≤ gb350) := ⟨h4_⟩
  have n5_ : Aside0 (w.heap.size ≤ gb350) := ⟨h5_⟩
  have n6_ : Aside0 (gb344 ≠ gb350) := ⟨h6_⟩
  have n7_ : Aside0 (gb350 ≠ gb344) := ⟨h7_⟩
  have n8_ : Aside0 (gb345 ≠ gb350) := ⟨h8_⟩
  have n9_ : Aside0 (gb350 ≠ gb345) := ⟨h9_⟩
  have n10_ : Aside0 (gb351 ≠ gb350) := ⟨h10_⟩
  have n11_ : Aside0 (gb350 ≠ gb351) := ⟨h11_⟩
  have n12_ : Aside0 (w.heap.size ≤ gb351) := ⟨h12_⟩
  have n13_ : Aside0 (w.heap.size ≤ gb351) := ⟨h13_⟩
  have n14_ : Aside0 (gb344 ≠ gb351) := ⟨h14_⟩
  have n15_ : Aside0 (gb351 ≠ gb344) := ⟨h15_⟩
  have n16_ : Aside0 (gb345 ≠ gb351) := ⟨h16_⟩
  have n17_ : Aside0 (gb351 ≠ gb345) := ⟨h17_⟩
  have n18_ : Aside0 (Below w.heap.size w w15) := ⟨h18_⟩
  clear BK344
  clear BK345
  clear HB
  clear h0_ h1_ h2_ h3_ h4_ h5_ h6_ h7_ h8_ h9_ h10_ h11_ h12_ h13_ h14_ h15_ h16_ h17_ h18_
  have BK344 := n0_
  have BK345 := n1_
  have BK350 := n2_
  have BK351 := n3_
  have GW350 := n4_
  have GE350 := n5_
  have NB344_350 := n6_
  have NB350_344 := n7_
  have NB345_350 := n8_
  have NB350_345 := n9_
  have NB351_350 := n10_
  have NB350_351 := n11_
  have GW351 := n12_
  have GE351 := n13_
  have NB344_351 := n14_
  have NB351_344 := n15_
  have NB345_351 := n16_
  have NB351_345 := n17_
  have HB := n18_
  clear n0_ n1_ n2_ n3_ n4_ n5_ n6_ n7_ n8_ n9_ n10_ n11_ n12_ n13_ n14_ n15_ n16_ n17_ n18_
  have hHeld : w15.cell? ⟨gb344, 0, none⟩ = some (.int .u64 a0_0) ∧ w15.cell? ⟨gb344, 1, none⟩ = some (.int .i64 a0_1) ∧ w15.cell? ⟨gb345, 0, none⟩ = some (.int .u64 a1_0) ∧ w15.cell? ⟨gb345, 1, none⟩ = some (.int .i64 a1_1) := hS_
  refine norm_ (a' := ?_) ?_ ?_
  rotate_left
  · simp only [putAll, Act.put, List.setIfInBounds_toArray, List.set_cons_zero, List.set_cons_succ]
    rfl
  refine one_ (i := 12) (N := none) #[true, true, true, true, true, true, true, true, true, true, true, true, true, false] rfl rfl (one_of HT_.out (by kernel_rfl)) (by decide) (fun K hK => ?_)
  have hs16 : w15.cell? ⟨gb350, 0, none⟩ = some (.int .u64 0) := (blk_cell BK350.out 0).trans rfl
  have hfs16 := blk_frozen BK350.out 0
  have hns16_0 := NB344_350.out
  have hns16_1 := NB345_350.out
  have hns16_3 := NB351_350.out
  have hms16_0 := NB350_344.out
  have hms16_1 := NB350_345.out
  have hms16_3 := NB350_351.out
  have hs17 : w15.cell? ⟨gb350, 1, none⟩ = some (.int .i64 0) := (blk_cell BK350.out 1).trans rfl
  have hfs17 := blk_frozen BK350.out 1
  have hns17_0 := NB344_350.out
  have hns17_1 := NB345_350.out
  have hns17_3 := NB351_350.out
  have hms17_0 := NB350_344.out
  have hms17_1 := NB350_345.out
  have hms17_3 := NB350_351.out
  refine skip_ (w1 := ?_) (by rfl) rfl ?_ ?_
  rotate_left
  · go_simp
    rfl
  refine hK.out _ _ ⟨((cell_far (p := ⟨gb350, _, none⟩) NB344_350.out _).trans (((cell_far (p := ⟨gb350, _, none⟩) NB344_350.out _).trans (hHeld.1)))), ((cell_far (p := ⟨gb350, _, none⟩) NB344_350.out _).trans (((cell_far (p := ⟨gb350, _, none⟩) NB344_350.out _).trans (hHeld.2.1)))), ((cell_far (p := ⟨gb350, _, none⟩) NB345_350.out _).trans (((cell_far (p := ⟨gb350, _, none⟩) NB345_350.out _).trans (hHeld.2.2.1)))), ((cell_far (p := ⟨gb350, _, none⟩) NB345_350.out _).trans (((cell_far (p := ⟨gb350, _, none⟩) NB345_350.out _).trans (hHeld.2.2.2))))⟩ (fun hHeld => ?_)
  clear hK K
  refine one_ (i := 13) (N := none) #[true, true, true, true, true, true, true, true, true, true, true, true, true, true] rfl rfl (one_of HT_.out (by kernel_rfl)) (by decide) (fun K hK => ?_)
  have hs18 : w15.cell? ⟨gb351, 0, none⟩ = some (.int .u64 0) := (blk_cell BK351.out 0).trans rfl
  have hfs18 := blk_frozen BK351.out 0
  have hns18_0 := NB344_351.out
  have hns18_1 := NB345_351.out
  have hns18_2 := NB350_351.out
  have hms18_0 := NB351_344.out
  have hms18_1 := NB351_345.out
  have hms18_2 := NB351_350.out
  have hs19 : w15.cell? ⟨gb351, 1, none⟩ = some (.int .i64 0) := (blk_cell BK351.out 1).trans rfl
  have hfs19 := blk_frozen BK351.out 1
  have hns19_0 := NB344_351.out
  have hns19_1 := NB345_351.out
  have hns19_2 := NB350_351.out
  have hms19_0 := NB351_344.out
  have hms19_1 := NB351_345.out
  have hms19_2 := NB351_350.out
  refine skip_ (w1 := ?_) (by rfl) rfl ?_ ?_
  rotate_left
  · go_simp
    rfl
  refine hK.out _ _ ⟨((cell_far (p := ⟨gb351, _, none⟩) NB344_351.out _).trans (((cell_far (p := ⟨gb351, _, none⟩) NB344_351.out _).trans (hHeld.1)))), ((cell_far (p := ⟨gb351, _, none⟩) NB344_351.out _).trans (((cell_far (p := ⟨gb351, _, none⟩) NB344_351.out _).trans (hHeld.2.1)))), ((cell_far (p := ⟨gb351, _, none⟩) NB345_351.out _).trans (((cell_far (p := ⟨gb351, _, none⟩) NB345_351.out _).trans (hHeld.2.2.1)))), ((cell_far (p := ⟨gb351, _, none⟩) NB345_351.out _).trans (((cell_far (p := ⟨gb351, _, none⟩) NB345_351.out _).trans (hHeld.2.2.2))))⟩ (fun hHeld => ?_)
  clear hK K
  refine done_ (done_of HT_.out (by kernel_rfl)) ?_
  have hnb20 := NB350_344.out
  have hnc20 := NB344_350.out
  have hnb21 := NB350_345.out
  have hnc21 := NB345_350.out
  have hnb22 := NB350_351.out
  have hnc22 := NB351_350.out
  have hcz23_0 : w15.cell? ⟨gb350, 0, none⟩ = some (.int .u64 0) := (blk_cell BK350.out 0).trans rfl
  have hcz23_1 : w15.cell? ⟨gb350, 1, none⟩ = some (.int .i64 0) := (blk_cell BK350.out 1).trans rfl
  have hfz23_0 := blk_frozen BK350.out 0
  have hfz23_1 := blk_frozen BK350.out 1
  have hnb24 := NB351_344.out
  have hnc24 := NB344_351.out
  have hnb25 := NB351_345.out
  have hnc25 := NB345_351.out
  have hcz26_0 : w15.cell? ⟨gb351, 0, none⟩ = some (.int .u64 0) := (blk_cell BK351.out 0).trans rfl
  have hcz26_1 : w15.cell? ⟨gb351, 1, none⟩ = some (.int .i64 0) := (blk_cell BK351.out 1).trans rfl
  have hfz26_0 := blk_frozen BK351.out 0
  have hfz26_1 := blk_frozen BK351.out 1
  go_upto_region 4 with (first | ((with_reducible refine gate_callee (f := 26) rfl ?_); refine goesL_ (some 28) rfl rfl Try.func26 (by kernel_rfl) rfl #[.agg #[.int .u64 t346, .int .i64 t347], .agg #[.int .u64 t348, .int .i64 t349]] rfl (by (try simp only [List.map_toArray, List.map_cons, List.map_nil]); first | done | rfl | (simp only [List.length_drop, List.length_take]; rfl)) ?_; (with_reducible refine (fingerprint_Join.calls k t346 t347 t348 t349 t352 t353 t354 _ A5.out).mono ?_); rintro e w27 ⟨rfl, hb⟩; refine ⟨_, rfl, ?_⟩; have n0_ := Aside0.mk (blk_below (g := gb344) (o := .cells #[.int .u64 a0_0, .int .i64 a0_1] 24 (0, 0)) (by (with_reducible repeat (first | refine blk_drewN ?_ _ | refine blk_drew ?_ | refine blk_alloc ?_ _)); refine blk_far ?_ NB344_351.out _; (with_reducible repeat (first | refine blk_drewN ?_ _ | refine blk_drew ?_ | refine blk_alloc ?_ _)); refine blk_far ?_ NB344_351.out _; (with_reducible repeat (first | refine blk_drewN ?_ _ | refine blk_drew ?_ | refine blk_alloc ?_ _)); refine blk_far ?_ NB344_350.out _; (with_reducible repeat (first | refine blk_drewN ?_ _ | refine blk_drew ?_ | refine blk_alloc ?_ _)); refine blk_far ?_ NB344_350.out _; (with_reducible repeat (first | refine blk_drewN ?_ _ | refine blk_drew ?_ | refine blk_alloc ?_ _)); exact BK344.out) hb); have n1_ := Aside0.mk (blk_below (g := gb345) (o := .cells #[.int .u64 a1_0, .int .i64 a1_1] 24 (0, 0)) (by (with_reducible repeat (first | refine blk_drewN ?_ _ | refine blk_drew ?_ | refine blk_alloc ?_ _)); refine blk_far ?_ NB345_351.out _; (with_reducible repeat (first | refine blk_drewN ?_ _ | refine blk_drew ?_ | refine blk_alloc ?_ _)); refine blk_far ?_ NB345_351.out _; (with_reducible repeat (first | refine blk_drewN ?_ _ | refine blk_drew ?_ | refine blk_alloc ?_ _)); refine blk_far ?_ NB345_350.out _; (with_reducible repeat (first | refine blk_drewN ?_ _ | refine blk_drew ?_ | refine blk_alloc ?_ _)); refine blk_far ?_ NB345_350.out _; (with_reducible repeat (first | refine blk_drewN ?_ _ | refine blk_drew ?_ | refine blk_alloc ?_ _)); exact BK345.out) hb); have n2_ := Aside0.mk (blk_below (g := gb350) (o := .cells #[.int .u64 t346, .int .i64 t347] 24 (0, 0)) (by (with_reducible repeat (first | refine blk_drewN ?_ _ | refine blk_drew ?_ | refine blk_alloc ?_ _)); refine blk_far ?_ NB350_351.out _; (with_reducible repeat (first | refine blk_drewN ?_ _ | refine blk_drew ?_ | refine blk_alloc ?_ _)); refine blk_far ?_ NB350_351.out _; (with_reducible repeat (first | refine blk_drewN ?_ _ | refine blk_drew ?_ | refine blk_alloc ?_ _)); refine blk_put (cs := #[.int .u64 t346, .int .i64 0]) ?_ 1 _ rfl; (with_reducible repeat (first | refine blk_drewN ?_ _ | refine blk_drew ?_ | refine blk_alloc ?_ _)); refine blk_put (cs := #[.int .u64 0, .int .i64 0]) ?_ 0 _ rfl; (with_reducible repeat (first | refine blk_drewN ?_ _ | refine blk_drew ?_ | refine blk_alloc ?_ _)); exact BK350.out) hb); have n3_ := Aside0.mk (blk_below (g := gb351) (o := .cells #[.int .u64 t348, .int .i64 t349] 24 (0, 0)) (by (with_reducible repeat (first | refine blk_drewN ?_ _ | refine blk_drew ?_ | refine blk_alloc ?_ _)); refine blk_put (cs := #[.int .u64 t348, .int .i64 0]) ?_ 1 _ rfl; (with_reducible repeat (first | refine blk_drewN ?_ _ | refine blk_drew ?_ | refine blk_alloc ?_ _)); refine blk_put (cs := #[.int .u64 0, .int .i64 0]) ?_ 0 _ rfl; (with_reducible repeat (first | refine blk_drewN ?_ _ | refine blk_drew ?_ | refine blk_alloc ?_ _)); refine blk_far ?_ NB351_350.out _; (with_reducible repeat (first | refine blk_drewN ?_ _ | refine blk_drew ?_ | refine blk_alloc ?_ _)); refine blk_far ?_ NB351_350.out _; (with_reducible repeat (first | refine blk_drewN ?_ _ | refine blk_drew ?_ | refine blk_alloc ?_ _)); exact BK351.out) hb); have n4_ := Aside0.mk (below_step (by repeat (first | (with_reducible first | exact HB.out | apply below_alloc | apply pw_below_drewN | apply below_drew1 | refine below_set ?_ GE344.out | refine below_set ?_ GE345.out | refine below_set ?_ GE350.out | refine below_set ?_ GE351.out) | exact HB.out)) hb); clear BK344; clear BK345; clear BK350; clear BK351; clear HB; have BK344 := n0_; have BK345 := n1_; have BK350 := n2_; have BK351 := n3_; have HB := n4_; clear n0_ n1_ n2_ n3_ n4_; (try clear hb); (try clear hb2); (try clear hk); (try clear hi)) | ((with_reducible refine gate_dst (N := 7) rfl ?_); refine box_event ?hg (N := 7) ?hd (cs := #[.int .u64 0, .int .i64 0]) (t := 24) ?hr ?_; (case hd => rfl); (case hg => rfl); (case hr => first | (go_simp; done) | (go_simp; rfl)); intro gb355 hg w28 hbox hb; have n0_ := Aside0.mk (blk_below (g := gb344) (o := .cells #[.int .u64 a0_0, .int .i64 a0_1] 24 (0, 0)) (by (with_reducible repeat (first | refine blk_drewN ?_ _ | refine blk_drew ?_ | refine blk_alloc ?_ _)); exact BK344.out) hb); have n1_ := Aside0.mk (blk_below (g := gb345) (o := .cells #[.int .u64 a1_0, .int .i64 a1_1] 24 (0, 0)) (by (with_reducible repeat (first | refine blk_drewN ?_ _ | refine blk_drew ?_ | refine blk_alloc ?_ _)); exact BK345.out) hb); have n2_ := Aside0.mk (blk_below (g := gb350) (o := .cells #[.int .u64 t346, .int .i64 t347] 24 (0, 0)) (by (with_reducible repeat (first | refine blk_drewN ?_ _ | refine blk_drew ?_ | refine blk_alloc ?_ _)); exact BK350.out) hb); have n3_ := Aside0.mk (blk_below (g := gb351) (o := .cells #[.int .u64 t348, .int .i64 t349] 24 (0, 0)) (by (with_reducible repeat (first | refine blk_drewN ?_ _ | refine blk_drew ?_ | refine blk_alloc ?_ _)); exact BK351.out) hb); have n4_ := Aside0.mk (below_step (by repeat (first | (with_reducible first | exact HB.out | apply below_alloc | apply pw_below_drewN | apply below_drew1 | refine below_set ?_ GE344.out | refine below_set ?_ GE345.out | refine below_set ?_ GE350.out | refine below_set ?_ GE351.out) | exact HB.out)) hb); have n5_ := Aside0.mk (hbox); have n6_ := Aside0.mk ((by rw [hg]; exact (below_size (by repeat (first | (with_reducible first | exact HB.out | apply below_alloc | apply pw_below_drewN | apply below_drew1 | refine below_set ?_ GE344.out | refine below_set ?_ GE345.out | refine below_set ?_ GE350.out | refine below_set ?_ GE351.out) | exact HB.out))) : w.heap.size ≤ gb355)); have n7_ := Aside0.mk ((by rw [hg]; exact (below_size (by repeat (first | (with_reducible first | exact HB.out | apply below_alloc | apply pw_below_drewN | apply below_drew1 | refine below_set ?_ GE344.out | refine below_set ?_ GE345.out | refine below_set ?_ GE350.out | refine below_set ?_ GE351.out) | exact HB.out))) : w.heap.size ≤ gb355)); have n8_ := Aside0.mk ((by rw [hg]; exact Nat.ne_of_lt (blk_lt (g := gb344) (o := .cells #[.int .u64 a0_0, .int .i64 a0_1] 24 (0, 0)) (by (with_reducible repeat (first | refine blk_drewN ?_ _ | refine blk_drew ?_ | refine blk_alloc ?_ _)); exact BK344.out)) : gb344 ≠ gb355)); have n9_ := Aside0.mk ((by rw [hg]; exact Nat.ne_of_gt (blk_lt (g := gb344) (o := .cells #[.int .u64 a0_0, .int .i64 a0_1] 24 (0, 0)) (by (with_reducible repeat (first | refine blk_drewN ?_ _ | refine blk_drew ?_ | refine blk_alloc ?_ _)); exact BK344.out)) : gb355 ≠ gb344)); have n10_ := Aside0.mk ((by rw [hg]; exact Nat.ne_of_lt (blk_lt (g := gb345) (o := .cells #[.int .u64 a1_0, .int .i64 a1_1] 24 (0, 0)) (by (with_reducible repeat (first | refine blk_drewN ?_ _ | refine blk_drew ?_ | refine blk_alloc ?_ _)); exact BK345.out)) : gb345 ≠ gb355)); have n11_ := Aside0.mk ((by rw [hg]; exact Nat.ne_of_gt (blk_lt (g := gb345) (o := .cells #[.int .u64 a1_0, .int .i64 a1_1] 24 (0, 0)) (by (with_reducible repeat (first | refine blk_drewN ?_ _ | refine blk_drew ?_ | refine blk_alloc ?_ _)); exact BK345.out)) : gb355 ≠ gb345)); have n12_ := Aside0.mk ((by rw [hg]; exact Nat.ne_of_lt (blk_lt (g := gb350) (o := .cells #[.int .u64 t346, .int .i64 t347] 24 (0, 0)) (by (with_reducible repeat (first | refine blk_drewN ?_ _ | refine blk_drew ?_ | refine blk_alloc ?_ _)); exact BK350.out)) : gb350 ≠ gb355)); have n13_ := Aside0.mk ((by rw [hg]; exact Nat.ne_of_gt (blk_lt (g := gb350) (o := .cells #[.int .u64 t346, .int .i64 t347] 24 (0, 0)) (by (with_reducible repeat (first | refine blk_drewN ?_ _ | refine blk_drew ?_ | refine blk_alloc ?_ _)); exact BK350.out)) : gb355 ≠ gb350)); have n14_ := Aside0.mk ((by rw [hg]; exact Nat.ne_of_lt (blk_lt (g := gb351) (o := .cells #[.int .u64 t348, .int .i64 t349] 24 (0, 0)) (by (with_reducible repeat (first | refine blk_drewN ?_ _ | refine blk_drew ?_ | refine blk_alloc ?_ _)); exact BK351.out)) : gb351 ≠ gb355)); have n15_ := Aside0.mk ((by rw [hg]; exact Nat.ne_of_gt (blk_lt (g := gb351) (o := .cells #[.int .u64 t348, .int .i64 t349] 24 (0, 0)) (by (with_reducible repeat (first | refine blk_drewN ?_ _ | refine blk_drew ?_ | refine blk_alloc ?_ _)); exact BK351.out)) : gb355 ≠ gb351)); clear BK344; clear BK345; clear BK350; clear BK351; clear HB; have BK344 := n0_; have BK345 := n1_; have BK350 := n2_; have BK351 := n3_; have HB := n4_; have BK355 := n5_; have GW355 := n6_; have GE355 := n7_; have NB344_355 := n8_; have NB355_344 := n9_; have NB345_355 := n10_; have NB355_345 := n11_; have NB350_355 := n12_; have NB355_350 := n13_; have NB351_355 := n14_; have NB355_351 := n15_; clear n0_ n1_ n2_ n3_ n4_ n5_ n6_ n7_ n8_ n9_ n10_ n11_ n12_ n13_ n14_ n15_; clear hb hbox hg; have hnb29 := NB355_344.out; have hnc29 := NB344_355.out; have hnb30 := NB355_345.out; have hnc30 := NB345_355.out; have hnb31 := NB355_350.out; have hnc31 := NB350_355.out; have hnb32 := NB355_351.out; have hnc32 := NB351_355.out; have hcz33_0 : w28.cell? ⟨gb355, 0, none⟩ = some (.int .u64 0) := (blk_cell BK355.out 0).trans rfl; have hcz33_1 : w28.cell? ⟨gb355, 1, none⟩ = some (.int .i64 0) := (blk_cell BK355.out 1).trans rfl; have hfz33_0 := blk_frozen BK355.out 0; have hfz33_1 := blk_frozen BK355.out 1; have hcz34_0 : w28.cell? ⟨gb350, 0, none⟩ = some (.int .u64 t346) := (blk_cell BK350.out 0).trans rfl; have hcz34_1 : w28.cell? ⟨gb350, 1, none⟩ = some (.int .i64 t347) := (blk_cell BK350.out 1).trans rfl; have hfz34_0 := blk_frozen BK350.out 0; have hfz34_1 := blk_frozen BK350.out 1) | ((with_reducible refine gate_callee (f := 33) rfl ?_); refine goesL_ (some 34) rfl rfl Try.func33 (by kernel_rfl) rfl #[.agg #[.int .u64 t352, .int .i64 t353], .agg #[.int .u64 t346, .int .i64 t347]] rfl (by (try simp only [List.map_toArray, List.map_cons, List.map_nil]); first | done | rfl | (simp only [List.length_drop, List.length_take]; rfl)) ?_; (with_reducible refine (fingerprint_Rest.calls k t352 t353 t346 t347 t356 t357 t358 _ A6.out).mono ?_); rintro e w35 ⟨rfl, hb⟩; refine ⟨_, rfl, ?_⟩; have n0_ := Aside0.mk (blk_below (g := gb344) (o := .cells #[.int .u64 a0_0, .int .i64 a0_1] 24 (0, 0)) (by (with_reducible repeat (first | refine blk_drewN ?_ _ | refine blk_drew ?_ | refine blk_alloc ?_ _)); refine blk_far ?_ NB344_355.out _; (with_reducible repeat (first | refine blk_drewN ?_ _ | refine blk_drew ?_ | refine blk_alloc ?_ _)); refine blk_far ?_ NB344_355.out _; (with_reducible repeat (first | refine blk_drewN ?_ _ | refine blk_drew ?_ | refine blk_alloc ?_ _)); exact BK344.out) hb); have n1_ := Aside0.mk (blk_below (g := gb345) (o := .cells #[.int .u64 a1_0, .int .i64 a1_1] 24 (0, 0)) (by (with_reducible repeat (first | refine blk_drewN ?_ _ | refine blk_drew ?_ | refine blk_alloc ?_ _)); refine blk_far ?_ NB345_355.out _; (with_reducible repeat (first | refine blk_drewN ?_ _ | refine blk_drew ?_ | refine blk_alloc ?_ _)); refine blk_far ?_ NB345_355.out _; (with_reducible repeat (first | refine blk_drewN ?_ _ | refine blk_drew ?_ | refine blk_alloc ?_ _)); exact BK345.out) hb); have n2_ := Aside0.mk (blk_below (g := gb350) (o := .cells #[.int .u64 t346, .int .i64 t347] 24 (0, 0)) (by (with_reducible repeat (first | refine blk_drewN ?_ _ | refine blk_drew ?_ | refine blk_alloc ?_ _)); refine blk_far ?_ NB350_355.out _; (with_reducible repeat (first | refine blk_drewN ?_ _ | refine blk_drew ?_ | refine blk_alloc ?_ _)); refine blk_far ?_ NB350_355.out _; (with_reducible repeat (first | refine blk_drewN ?_ _ | refine blk_drew ?_ | refine blk_alloc ?_ _)); exact BK350.out) hb); have n3_ := Aside0.mk (blk_below (g := gb351) (o := .cells #[.int .u64 t348, .int .i64 t349] 24 (0, 0)) (by (with_reducible repeat (first | refine blk_drewN ?_ _ | refine blk_drew ?_ | refine blk_alloc ?_ _)); refine blk_far ?_ NB351_355.out _; (with_reducible repeat (first | refine blk_drewN ?_ _ | refine blk_drew ?_ | refine blk_alloc ?_ _)); refine blk_far ?_ NB351_355.out _; (with_reducible repeat (first | refine blk_drewN ?_ _ | refine blk_drew ?_ | refine blk_alloc ?_ _)); exact BK351.out) hb); have n4_ := Aside0.mk (blk_below (g := gb355) (o := .cells #[.int .u64 t352, .int .i64 t353] 24 (0, 0)) (by (with_reducible repeat (first | refine blk_drewN ?_ _ | refine blk_drew ?_ | refine blk_alloc ?_ _)); refine blk_put (cs := #[.int .u64 t352, .int .i64 0]) ?_ 1 _ rfl; (with_reducible repeat (first | refine blk_drewN ?_ _ | refine blk_drew ?_ | refine blk_alloc ?_ _)); refine blk_put (cs := #[.int .u64 0, .int .i64 0]) ?_ 0 _ rfl; (with_reducible repeat (first | refine blk_drewN ?_ _ | refine blk_drew ?_ | refine blk_alloc ?_ _)); exact BK355.out) hb); have n5_ := Aside0.mk (below_step (by repeat (first | (with_reducible first | exact HB.out | apply below_alloc | apply pw_below_drewN | apply below_drew1 | refine below_set ?_ GE344.out | refine below_set ?_ GE345.out | refine below_set ?_ GE350.out | refine below_set ?_ GE351.out | refine below_set ?_ GE355.out) | exact HB.out)) hb); clear BK344; clear BK345; clear BK350; clear BK351; clear BK355; clear HB; have BK344 := n0_; have BK345 := n1_; have BK350 := n2_; have BK351 := n3_; have BK355 := n4_; have HB := n5_; clear n0_ n1_ n2_ n3_ n4_ n5_; (try clear hb); (try clear hb2); (try clear hk); (try clear hi)) | ((with_reducible refine gate_dst (N := 9) rfl ?_); refine box_event ?hg (N := 9) ?hd (cs := #[.int .u64 0, .int .i64 0]) (t := 24) ?hr ?_; (case hd => rfl); (case hg => rfl); (case hr => first | (go_simp; done) | (go_simp; rfl)); intro gb359 hg w36 hbox hb; have n0_ := Aside0.mk (blk_below (g := gb344) (o := .cells #[.int .u64 a0_0, .int .i64 a0_1] 24 (0, 0)) (by (with_reducible repeat (first | refine blk_drewN ?_ _ | refine blk_drew ?_ | refine blk_alloc ?_ _)); exact BK344.out) hb); have n1_ := Aside0.mk (blk_below (g := gb345) (o := .cells #[.int .u64 a1_0, .int .i64 a1_1] 24 (0, 0)) (by (with_reducible repeat (first | refine blk_drewN ?_ _ | refine blk_drew ?_ | refine blk_alloc ?_ _)); exact BK345.out) hb); have n2_ := Aside0.mk (blk_below (g := gb350) (o := .cells #[.int .u64 t346, .int .i64 t347] 24 (0, 0)) (by (with_reducible repeat (first | refine blk_drewN ?_ _ | refine blk_drew ?_ | refine blk_alloc ?_ _)); exact BK350.out) hb); have n3_ := Aside0.mk (blk_below (g := gb351) (o := .cells #[.int .u64 t348, .int .i64 t349] 24 (0, 0)) (by (with_reducible repeat (first | refine blk_drewN ?_ _ | refine blk_drew ?_ | refine blk_alloc ?_ _)); exact BK351.out) hb); have n4_ := Aside0.mk (blk_below (g := gb355) (o := .cells #[.int .u64 t352, .int .i64 t353] 24 (0, 0)) (by (with_reducible repeat (first | refine blk_drewN ?_ _ | refine blk_drew ?_ | refine blk_alloc ?_ _)); exact BK355.out) hb); have n5_ := Aside0.mk (below_step (by repeat (first | (with_reducible first | exact HB.out | apply below_alloc | apply pw_below_drewN | apply below_drew1 | refine below_set ?_ GE344.out | refine below_set ?_ GE345.out | refine below_set ?_ GE350.out | refine below_set ?_ GE351.out | refine below_set ?_ GE355.out) | exact HB.out)) hb); have n6_ := Aside0.mk (hbox); have n7_ := Aside0.mk ((by rw [hg]; exact (below_size (by repeat (first | (with_reducible first | exact HB.out | apply below_alloc | apply pw_below_drewN | apply below_drew1 | refine below_set ?_ GE344.out | refine below_set ?_ GE345.out | refine below_set ?_ GE350.out | refine below_set ?_ GE351.out | refine below_set ?_ GE355.out) | exact HB.out))) : w.heap.size ≤ gb359)); have n8_ := Aside0.mk ((by rw [hg]; exact (below_size (by repeat (first | (with_reducible first | exact HB.out | apply below_alloc | apply pw_below_drewN | apply below_drew1 | refine below_set ?_ GE344.out | refine below_set ?_ GE345.out | refine below_set ?_ GE350.out | refine below_set ?_ GE351.out | refine below_set ?_ GE355.out) | exact HB.out))) : w.heap.size ≤ gb359)); have n9_ := Aside0.mk ((by rw [hg]; exact Nat.ne_of_lt (blk_lt (g := gb344) (o := .cells #[.int .u64 a0_0, .int .i64 a0_1] 24 (0, 0)) (by (with_reducible repeat (first | refine blk_drewN ?_ _ | refine blk_drew ?_ | refine blk_alloc ?_ _)); exact BK344.out)) : gb344 ≠ gb359)); have n10_ := Aside0.mk ((by rw [hg]; exact Nat.ne_of_gt (blk_lt (g := gb344) (o := .cells #[.int .u64 a0_0, .int .i64 a0_1] 24 (0, 0)) (by (with_reducible repeat (first | refine blk_drewN ?_ _ | refine blk_drew ?_ | refine blk_alloc ?_ _)); exact BK344.out)) : gb359 ≠ gb344)); have n11_ := Aside0.mk ((by rw [hg]; exact Nat.ne_of_lt (blk_lt (g := gb345) (o := .cells #[.int .u64 a1_0, .int .i64 a1_1] 24 (0, 0)) (by (with_reducible repeat (first | refine blk_drewN ?_ _ | refine blk_drew ?_ | refine blk_alloc ?_ _)); exact BK345.out)) : gb345 ≠ gb359)); have n12_ := Aside0.mk ((by rw [hg]; exact Nat.ne_of_gt (blk_lt (g := gb345) (o := .cells #[.int .u64 a1_0, .int .i64 a1_1] 24 (0, 0)) (by (with_reducible repeat (first | refine blk_drewN ?_ _ | refine blk_drew ?_ | refine blk_alloc ?_ _)); exact BK345.out)) : gb359 ≠ gb345)); have n13_ := Aside0.mk ((by rw [hg]; exact Nat.ne_of_lt (blk_lt (g := gb350) (o := .cells #[.int .u64 t346, .int .i64 t347] 24 (0, 0)) (by (with_reducible repeat (first | refine blk_drewN ?_ _ | refine blk_drew ?_ | refine blk_alloc ?_ _)); exact BK350.out)) : gb350 ≠ gb359)); have n14_ := Aside0.mk ((by rw [hg]; exact Nat.ne_of_gt (blk_lt (g := gb350) (o := .cells #[.int .u64 t346, .int .i64 t347] 24 (0, 0)) (by (with_reducible repeat (first | refine blk_drewN ?_ _ | refine blk_drew ?_ | refine blk_alloc ?_ _)); exact BK350.out)) : gb359 ≠ gb350)); have n15_ := Aside0.mk ((by rw [hg]; exact Nat.ne_of_lt (blk_lt (g := gb351) (o := .cells #[.int .u64 t348, .int .i64 t349] 24 (0, 0)) (by (with_reducible repeat (first | refine blk_drewN ?_ _ | refine blk_drew ?_ | refine blk_alloc ?_ _)); exact BK351.out)) : gb351 ≠ gb359)); have n16_ := Aside0.mk ((by rw [hg]; exact Nat.ne_of_gt (blk_lt (g := gb351) (o := .cells #[.int .u64 t348, .int .i64 t349] 24 (0, 0)) (by (with_reducible repeat (first | refine blk_drewN ?_ _ | refine blk_drew ?_ | refine blk_alloc ?_ _)); exact BK351.out)) : gb359 ≠ gb351)); have n17_ := Aside0.mk ((by rw [hg]; exact Nat.ne_of_lt (blk_lt (g := gb355) (o := .cells #[.int .u64 t352, .int .i64 t353] 24 (0, 0)) (by (with_reducible repeat (first | refine blk_drewN ?_ _ | refine blk_drew ?_ | refine blk_alloc ?_ _)); exact BK355.out)) : gb355 ≠ gb359)); have n18_ := Aside0.mk ((by rw [hg]; exact Nat.ne_of_gt (blk_lt (g := gb355) (o := .cells #[.int .u64 t352, .int .i64 t353] 24 (0, 0)) (by (with_reducible repeat (first | refine blk_drewN ?_ _ | refine blk_drew ?_ | refine blk_alloc ?_ _)); exact BK355.out)) : gb359 ≠ gb355)); clear BK344; clear BK345; clear BK350; clear BK351; clear BK355; clear HB; have BK344 := n0_; have BK345 := n1_; have BK350 := n2_; have BK351 := n3_; have BK355 := n4_; have HB := n5_; have BK359 := n6_; have GW359 := n7_; have GE359 := n8_; have NB344_359 := n9_; have NB359_344 := n10_; have NB345_359 := n11_; have NB359_345 := n12_; have NB350_359 := n13_; have NB359_350 := n14_; have NB351_359 := n15_; have NB359_351 := n16_; have NB355_359 := n17_; have NB359_355 := n18_; clear n0_ n1_ n2_ n3_ n4_ n5_ n6_ n7_ n8_ n9_ n10_ n11_ n12_ n13_ n14_ n15_ n16_ n17_ n18_; clear hb hbox hg; have hnb37 := NB359_344.out; have hnc37 := NB344_359.out; have hnb38 := NB359_345.out; have hnc38 := NB345_359.out; have hnb39 := NB359_350.out; have hnc39 := NB350_359.out; have hnb40 := NB359_351.out; have hnc40 := NB351_359.out; have hnb41 := NB359_355.out; have hnc41 := NB355_359.out; have hcz42_0 : w36.cell? ⟨gb359, 0, none⟩ = some (.int .u64 0) := (blk_cell BK359.out 0).trans rfl; have hcz42_1 : w36.cell? ⟨gb359, 1, none⟩ = some (.int .i64 0) := (blk_cell BK359.out 1).trans rfl; have hfz42_0 := blk_frozen BK359.out 0; have hfz42_1 := blk_frozen BK359.out 1))
  (try simp only [Act.put, List.setIfInBounds_toArray, List.set_cons_zero, List.set_cons_succ])
  go_cut [51] (fun v51 wc => ∃ (kq : Nat) (x51_6 : Bool), v51 = .bool x51_6 ∧ Aside0 (stockyardlaw22_FingerprintInverse.j0 kq x51_6 t346 t347 t348 t349 = some r) ∧ Aside0 (kq ≤ k) ∧ Aside0 (wc.heap[gb344]? = some (.cells #[.int .u64 a0_0, .int .i64 a0_1] 24 (0, 0))) ∧ Aside0 (wc.heap[gb345]? = some (.cells #[.int .u64 a1_0, .int .i64 a1_1] 24 (0, 0))) ∧ Aside0 (wc.heap[gb350]? = some (.cells #[.int .u64 t346, .int .i64 t347] 24 (0, 0))) ∧ Aside0 (wc.heap[gb351]? = some (.cells #[.int .u64 t348, .int .i64 t349] 24 (0, 0))) ∧ Aside0 (wc.heap[gb355]? = some (.cells #[.int .u64 t352, .int .i64 t353] 24 (0, 0))) ∧ Aside0 (wc.heap[gb359]? = some (.cells #[.int .u64 t356, .int .i64 t357] 24 (0, 0))) ∧ Aside0 (Below w.heap.size w wc))
  case first =>
    have H := HC7.out
    clear HC7
    replace H := Option.bind_eq_some_iff.mp H
    obtain ⟨t360, A430, H⟩ := H
    replace H : (if t360 = true then (if t354 = 0 then (if t358 = 0 then (stockyardlaw22_FingerprintInverse.j0 k (!(t356 == t348) || (!(t357 == t349))) t346 t347 t348 t349) else (stockyardlaw22_FingerprintInverse.j0 k true t346 t347 t348 t349)) else (stockyardlaw22_FingerprintInverse.j0 k true t346 t347 t348 t349)) else (stockyardlaw22_FingerprintInverse.j0 k true t346 t347 t348 t349)) = some r := H
    have A43 := Aside0.mk A430
    clear A430
    by_cases c44 : t360 = true
    · subst c44
      have H1 : (if t354 = 0 then (if t358 = 0 then (stockyardlaw22_FingerprintInverse.j0 k (!(t356 == t348) || (!(t357 == t349))) t346 t347 t348 t349) else (stockyardlaw22_FingerprintInverse.j0 k true t346 t347 t348 t349)) else (stockyardlaw22_FingerprintInverse.j0 k true t346 t347 t348 t349)) = some r := by rw [if_pos rfl] at H; exact H
      clear H
      have H := H1
      clear H1
      by_cases c45 : t354 = 0
      · rw [if_pos c45] at H
        have c45b0 : (t354 == 0) = true := beq_iff_eq.mpr c45
        have c45b1 : (t354 != 0) = false := bne_eq_false_iff_eq.mpr c45
        clear c45
        (first | rw [c45b0] | (simp only [i64_w, i32_w]; rw [c45b0]) | skip)
        by_cases c46 : t358 = 0
        · rw [if_pos c46] at H
          have c46b0 : (t358 == 0) = true := beq_iff_eq.mpr c46
          have c46b1 : (t358 != 0) = false := bne_eq_false_iff_eq.mpr c46
          clear c46
          have H' := Aside0.mk H
          clear H
          go_wp2_with (first | ((with_reducible refine gate_callee (f := 18) rfl ?_); refine goesL_ (some 37) rfl rfl Try.func18 (by kernel_rfl) rfl #[] rfl (by (try simp only [List.map_toArray, List.map_cons, List.map_nil]); first | done | rfl | (simp only [List.length_drop, List.length_take]; rfl)) ?_; (with_reducible refine (stockyardlaw22_known.calls k  true _ A43.out).mono ?_); rintro e w47 ⟨rfl, hb⟩; refine ⟨_, rfl, ?_⟩; have n0_ := Aside0.mk (blk_below (g := gb344) (o := .cells #[.int .u64 a0_0, .int .i64 a0_1] 24 (0, 0)) (by (with_reducible repeat (first | refine blk_drewN ?_ _ | refine blk_drew ?_ | refine blk_alloc ?_ _)); refine blk_far ?_ NB344_359.out _; (with_reducible repeat (first | refine blk_drewN ?_ _ | refine blk_drew ?_ | refine blk_alloc ?_ _)); refine blk_far ?_ NB344_359.out _; (with_reducible repeat (first | refine blk_drewN ?_ _ | refine blk_drew ?_ | refine blk_alloc ?_ _)); exact BK344.out) hb); have n1_ := Aside0.mk (blk_below (g := gb345) (o := .cells #[.int .u64 a1_0, .int .i64 a1_1] 24 (0, 0)) (by (with_reducible repeat (first | refine blk_drewN ?_ _ | refine blk_drew ?_ | refine blk_alloc ?_ _)); refine blk_far ?_ NB345_359.out _; (with_reducible repeat (first | refine blk_drewN ?_ _ | refine blk_drew ?_ | refine blk_alloc ?_ _)); refine blk_far ?_ NB345_359.out _; (with_reducible repeat (first | refine blk_drewN ?_ _ | refine blk_drew ?_ | refine blk_alloc ?_ _)); exact BK345.out) hb); have n2_ := Aside0.mk (blk_below (g := gb350) (o := .cells #[.int .u64 t346, .int .i64 t347] 24 (0, 0)) (by (with_reducible repeat (first | refine blk_drewN ?_ _ | refine blk_drew ?_ | refine blk_alloc ?_ _)); refine blk_far ?_ NB350_359.out _; (with_reducible repeat (first | refine blk_drewN ?_ _ | refine blk_drew ?_ | refine blk_alloc ?_ _)); refine blk_far ?_ NB350_359.out _; (with_reducible repeat (first | refine blk_drewN ?_ _ | refine blk_drew ?_ | refine blk_alloc ?_ _)); exact BK350.out) hb); have n3_ := Aside0.mk (blk_below (g := gb351) (o := .cells #[.int .u64 t348, .int .i64 t349] 24 (0, 0)) (by (with_reducible repeat (first | refine blk_drewN ?_ _ | refine blk_drew ?_ | refine blk_alloc ?_ _)); refine blk_far ?_ NB351_359.out _; (with_reducible repeat (first | refine blk_drewN ?_ _ | refine blk_drew ?_ | refine blk_alloc ?_ _)); refine blk_far ?_ NB351_359.out _; (with_reducible repeat (first | refine blk_drewN ?_ _ | refine blk_drew ?_ | refine blk_alloc ?_ _)); exact BK351.out) hb); have n4_ := Aside0.mk (blk_below (g := gb355) (o := .cells #[.int .u64 t352, .int .i64 t353] 24 (0, 0)) (by (with_reducible repeat (first | refine blk_drewN ?_ _ | refine blk_drew ?_ | refine blk_alloc ?_ _)); refine blk_far ?_ NB355_359.out _; (with_reducible repeat (first | refine blk_drewN ?_ _ | refine blk_drew ?_ | refine blk_alloc ?_ _)); refine blk_far ?_ NB355_359.out _; (with_reducible repeat (first | refine blk_drewN ?_ _ | refine blk_drew ?_ | refine blk_alloc ?_ _)); exact BK355.out) hb); have n5_ := Aside0.mk (blk_below (g := gb359) (o := .cells #[.int .u64 t356, .int .i64 t357] 24 (0, 0)) (by (with_reducible repeat (first | refine blk_drewN ?_ _ | refine blk_drew ?_ | refine blk_alloc ?_ _)); refine blk_put (cs := #[.int .u64 t356, .int .i64 0]) ?_ 1 _ rfl; (with_reducible repeat (first | refine blk_drewN ?_ _ | refine blk_drew ?_ | refine blk_alloc ?_ _)); refine blk_put (cs := #[.int .u64 0, .int .i64 0]) ?_ 0 _ rfl; (with_reducible repeat (first | refine blk_drewN ?_ _ | refine blk_drew ?_ | refine blk_alloc ?_ _)); exact BK359.out) hb); have n6_ := Aside0.mk (below_step (by repeat (first | (with_reducible first | exact HB.out | apply below_alloc | apply pw_below_drewN | apply below_drew1 | refine below_set ?_ GE344.out | refine below_set ?_ GE345.out | refine below_set ?_ GE350.out | refine below_set ?_ GE351.out | refine below_set ?_ GE355.out | refine below_set ?_ GE359.out) | exact HB.out)) hb); clear BK344; clear BK345; clear BK350; clear BK351; clear BK355; clear BK359; clear HB; have BK344 := n0_; have BK345 := n1_; have BK350 := n2_; have BK351 := n3_; have BK355 := n4_; have BK359 := n5_; have HB := n6_; clear n0_ n1_ n2_ n3_ n4_ n5_ n6_; (try clear hb); (try clear hb2); (try clear hk); (try clear hi); have hnb48 := NB359_344.out; have hnc48 := NB344_359.out; have hnb49 := NB359_345.out; have hnc49 := NB345_359.out; have hnb50 := NB359_350.out; have hnc50 := NB350_359.out; have hnb51 := NB359_351.out; have hnc51 := NB351_359.out; have hnb52 := NB359_355.out; have hnc52 := NB355_359.out; have hcz53_0 : w47.cell? ⟨gb359, 0, none⟩ = some (.int .u64 t356) := (blk_cell BK359.out 0).trans rfl; have hcz53_1 : w47.cell? ⟨gb359, 1, none⟩ = some (.int .i64 t357) := (blk_cell BK359.out 1).trans rfl; have hfz53_0 := blk_frozen BK359.out 0; have hfz53_1 := blk_frozen BK359.out 1; have hnb54 := NB351_344.out; have hnc54 := NB344_351.out; have hnb55 := NB351_345.out; have hnc55 := NB345_351.out; have hnb56 := NB351_350.out; have hnc56 := NB350_351.out; have hnb57 := NB351_355.out; have hnc57 := NB355_351.out; have hcz58_0 : w47.cell? ⟨gb351, 0, none⟩ = some (.int .u64 t348) := (blk_cell BK351.out 0).trans rfl; have hcz58_1 : w47.cell? ⟨gb351, 1, none⟩ = some (.int .i64 t349) := (blk_cell BK351.out 1).trans rfl; have hfz58_0 := blk_frozen BK351.out 0; have hfz58_1 := blk_frozen BK351.out 1))
          go_meet
          case rel => exact ⟨_, ((!(t356 == t348) || (!(t357 == t349)))), (by first | rfl | (simp; done) | (simp [*]; done)), H', ⟨by first | omega | exact Nat.le_refl _⟩, ⟨by (with_reducible repeat (first | refine blk_drewN ?_ _ | refine blk_drew ?_ | refine blk_alloc ?_ _)); exact BK344.out⟩, ⟨by (with_reducible repeat (first | refine blk_drewN ?_ _ | refine blk_drew ?_ | refine blk_alloc ?_ _)); exact BK345.out⟩, ⟨by (with_reducible repeat (first | refine blk_drewN ?_ _ | refine blk_drew ?_ | refine blk_alloc ?_ _)); exact BK350.out⟩, ⟨by (with_reducible repeat (first | refine blk_drewN ?_ _ | refine blk_drew ?_ | refine blk_alloc ?_ _)); exact BK351.out⟩, ⟨by (with_reducible repeat (first | refine blk_drewN ?_ _ | refine blk_drew ?_ | refine blk_alloc ?_ _)); exact BK355.out⟩, ⟨by (with_reducible repeat (first | refine blk_drewN ?_ _ | refine blk_drew ?_ | refine blk_alloc ?_ _)); exact BK359.out⟩, ⟨by repeat (first | (with_reducible first | exact HB.out | apply below_alloc | apply pw_below_drewN | apply below_drew1 | refine below_set ?_ GE344.out | refine below_set ?_ GE345.out | refine below_set ?_ GE350.out | refine below_set ?_ GE351.out | refine below_set ?_ GE355.out | refine below_set ?_ GE359.out) | exact HB.out)⟩⟩
        · rw [if_neg c46] at H
          have c46b0 : (t358 == 0) = false := beq_eq_false_iff_ne.mpr c46
          have c46b1 : (t358 != 0) = true := bne_iff_ne.mpr c46
          have H' := Aside0.mk H
          clear H
          go_wp2_with (first | ((with_reducible refine gate_callee (f := 18) rfl ?_); refine goesL_ (some 37) rfl rfl Try.func18 (by kernel_rfl) rfl #[] rfl (by (try simp only [List.map_toArray, List.map_cons, List.map_nil]); first | done | rfl | (simp only [List.length_drop, List.length_take]; rfl)) ?_; (with_reducible refine (stockyardlaw22_known.calls k  true _ A43.out).mono ?_); rintro e w59 ⟨rfl, hb⟩; refine ⟨_, rfl, ?_⟩; have n0_ := Aside0.mk (blk_below (g := gb344) (o := .cells #[.int .u64 a0_0, .int .i64 a0_1] 24 (0, 0)) (by (with_reducible repeat (first | refine blk_drewN ?_ _ | refine blk_drew ?_ | refine blk_alloc ?_ _)); refine blk_far ?_ NB344_359.out _; (with_reducible repeat (first | refine blk_drewN ?_ _ | refine blk_drew ?_ | refine blk_alloc ?_ _)); refine blk_far ?_ NB344_359.out _; (with_reducible repeat (first | refine blk_drewN ?_ _ | refine blk_drew ?_ | refine blk_alloc ?_ _)); exact BK344.out) hb); have n1_ := Aside0.mk (blk_below (g := gb345) (o := .cells #[.int .u64 a1_0, .int .i64 a1_1] 24 (0, 0)) (by (with_reducible repeat (first | refine blk_drewN ?_ _ | refine blk_drew ?_ | refine blk_alloc ?_ _)); refine blk_far ?_ NB345_359.out _; (with_reducible repeat (first | refine blk_drewN ?_ _ | refine blk_drew ?_ | refine blk_alloc ?_ _)); refine blk_far ?_ NB345_359.out _; (with_reducible repeat (first | refine blk_drewN ?_ _ | refine blk_drew ?_ | refine blk_alloc ?_ _)); exact BK345.out) hb); have n2_ := Aside0.mk (blk_below (g := gb350) (o := .cells #[.int .u64 t346, .int .i64 t347] 24 (0, 0)) (by (with_reducible repeat (first | refine blk_drewN ?_ _ | refine blk_drew ?_ | refine blk_alloc ?_ _)); refine blk_far ?_ NB350_359.out _; (with_reducible repeat (first | refine blk_drewN ?_ _ | refine blk_drew ?_ | refine blk_alloc ?_ _)); refine blk_far ?_ NB350_359.out _; (with_reducible repeat (first | refine blk_drewN ?_ _ | refine blk_drew ?_ | refine blk_alloc ?_ _)); exact BK350.out) hb); have n3_ := Aside0.mk (blk_below (g := gb351) (o := .cells #[.int .u64 t348, .int .i64 t349] 24 (0, 0)) (by (with_reducible repeat (first | refine blk_drewN ?_ _ | refine blk_drew ?_ | refine blk_alloc ?_ _)); refine blk_far ?_ NB351_359.out _; (with_reducible repeat (first | refine blk_drewN ?_ _ | refine blk_drew ?_ | refine blk_alloc ?_ _)); refine blk_far ?_ NB351_359.out _; (with_reducible repeat (first | refine blk_drewN ?_ _ | refine blk_drew ?_ | refine blk_alloc ?_ _)); exact BK351.out) hb); have n4_ := Aside0.mk (blk_below (g := gb355) (o := .cells #[.int .u64 t352, .int .i64 t353] 24 (0, 0)) (by (with_reducible repeat (first | refine blk_drewN ?_ _ | refine blk_drew ?_ | refine blk_alloc ?_ _)); refine blk_far ?_ NB355_359.out _; (with_reducible repeat (first | refine blk_drewN ?_ _ | refine blk_drew ?_ | refine blk_alloc ?_ _)); refine blk_far ?_ NB355_359.out _; (with_reducible repeat (first | refine blk_drewN ?_ _ | refine blk_drew ?_ | refine blk_alloc ?_ _)); exact BK355.out) hb); have n5_ := Aside0.mk (blk_below (g := gb359) (o := .cells #[.int .u64 t356, .int .i64 t357] 24 (0, 0)) (by (with_reducible repeat (first | refine blk_drewN ?_ _ | refine blk_drew ?_ | refine blk_alloc ?_ _)); refine blk_put (cs := #[.int .u64 t356, .int .i64 0]) ?_ 1 _ rfl; (with_reducible repeat (first | refine blk_drewN ?_ _ | refine blk_drew ?_ | refine blk_alloc ?_ _)); refine blk_put (cs := #[.int .u64 0, .int .i64 0]) ?_ 0 _ rfl; (with_reducible repeat (first | refine blk_drewN ?_ _ | refine blk_drew ?_ | refine blk_alloc ?_ _)); exact BK359.out) hb); have n6_ := Aside0.mk (below_step (by repeat (first | (with_reducible first | exact HB.out | apply below_alloc | apply pw_below_drewN | apply below_drew1 | refine below_set ?_ GE344.out | refine below_set ?_ GE345.out | refine below_set ?_ GE350.out | refine below_set ?_ GE351.out | refine below_set ?_ GE355.out | refine below_set ?_ GE359.out) | exact HB.out)) hb); clear BK344; clear BK345; clear BK350; clear BK351; clear BK355; clear BK359; clear HB; have BK344 := n0_; have BK345 := n1_; have BK350 := n2_; have BK351 := n3_; have BK355 := n4_; have BK359 := n5_; have HB := n6_; clear n0_ n1_ n2_ n3_ n4_ n5_ n6_; (try clear hb); (try clear hb2); (try clear hk); (try clear hi)))
          go_meet
          case rel => exact ⟨_, (true), (by first | rfl | (simp; done) | (simp [*]; done)), H', ⟨by first | omega | exact Nat.le_refl _⟩, ⟨by (with_reducible repeat (first | refine blk_drewN ?_ _ | refine blk_drew ?_ | refine blk_alloc ?_ _)); exact BK344.out⟩, ⟨by (with_reducible repeat (first | refine blk_drewN ?_ _ | refine blk_drew ?_ | refine blk_alloc ?_ _)); exact BK345.out⟩, ⟨by (with_reducible repeat (first | refine blk_drewN ?_ _ | refine blk_drew ?_ | refine blk_alloc ?_ _)); exact BK350.out⟩, ⟨by (with_reducible repeat (first | refine blk_drewN ?_ _ | refine blk_drew ?_ | refine blk_alloc ?_ _)); exact BK351.out⟩, ⟨by (with_reducible repeat (first | refine blk_drewN ?_ _ | refine blk_drew ?_ | refine blk_alloc ?_ _)); exact BK355.out⟩, ⟨by (with_reducible repeat (first | refine blk_drewN ?_ _ | refine blk_drew ?_ | refine blk_alloc ?_ _)); exact BK359.out⟩, ⟨by repeat (first | (with_reducible first | exact HB.out | apply below_alloc | apply pw_below_drewN | apply below_drew1 | refine below_set ?_ GE344.out | refine below_set ?_ GE345.out | refine below_set ?_ GE350.out | refine below_set ?_ GE351.out | refine below_set ?_ GE355.out | refine below_set ?_ GE359.out) | exact HB.out)⟩⟩
      · rw [if_neg c45] at H
        have c45b0 : (t354 == 0) = false := beq_eq_false_iff_ne.mpr c45
        have c45b1 : (t354 != 0) = true := bne_iff_ne.mpr c45
        (first | rw [c45b0] | (simp only [i64_w, i32_w]; rw [c45b0]) | skip)
        have H' := Aside0.mk H
        clear H
        go_wp2_with (first | ((with_reducible refine gate_callee (f := 18) rfl ?_); refine goesL_ (some 37) rfl rfl Try.func18 (by kernel_rfl) rfl #[] rfl (by (try simp only [List.map_toArray, List.map_cons, List.map_nil]); first | done | rfl | (simp only [List.length_drop, List.length_take]; rfl)) ?_; (with_reducible refine (stockyardlaw22_known.calls k  true _ A43.out).mono ?_); rintro e w60 ⟨rfl, hb⟩; refine ⟨_, rfl, ?_⟩; have n0_ := Aside0.mk (blk_below (g := gb344) (o := .cells #[.int .u64 a0_0, .int .i64 a0_1] 24 (0, 0)) (by (with_reducible repeat (first | refine blk_drewN ?_ _ | refine blk_drew ?_ | refine blk_alloc ?_ _)); refine blk_far ?_ NB344_359.out _; (with_reducible repeat (first | refine blk_drewN ?_ _ | refine blk_drew ?_ | refine blk_alloc ?_ _)); refine blk_far ?_ NB344_359.out _; (with_reducible repeat (first | refine blk_drewN ?_ _ | refine blk_drew ?_ | refine blk_alloc ?_ _)); exact BK344.out) hb); have n1_ := Aside0.mk (blk_below (g := gb345) (o := .cells #[.int .u64 a1_0, .int .i64 a1_1] 24 (0, 0)) (by (with_reducible repeat (first | refine blk_drewN ?_ _ | refine blk_drew ?_ | refine blk_alloc ?_ _)); refine blk_far ?_ NB345_359.out _; (with_reducible repeat (first | refine blk_drewN ?_ _ | refine blk_drew ?_ | refine blk_alloc ?_ _)); refine blk_far ?_ NB345_359.out _; (with_reducible repeat (first | refine blk_drewN ?_ _ | refine blk_drew ?_ | refine blk_alloc ?_ _)); exact BK345.out) hb); have n2_ := Aside0.mk (blk_below (g := gb350) (o := .cells #[.int .u64 t346, .int .i64 t347] 24 (0, 0)) (by (with_reducible repeat (first | refine blk_drewN ?_ _ | refine blk_drew ?_ | refine blk_alloc ?_ _)); refine blk_far ?_ NB350_359.out _; (with_reducible repeat (first | refine blk_drewN ?_ _ | refine blk_drew ?_ | refine blk_alloc ?_ _)); refine blk_far ?_ NB350_359.out _; (with_reducible repeat (first | refine blk_drewN ?_ _ | refine blk_drew ?_ | refine blk_alloc ?_ _)); exact BK350.out) hb); have n3_ := Aside0.mk (blk_below (g := gb351) (o := .cells #[.int .u64 t348, .int .i64 t349] 24 (0, 0)) (by (with_reducible repeat (first | refine blk_drewN ?_ _ | refine blk_drew ?_ | refine blk_alloc ?_ _)); refine blk_far ?_ NB351_359.out _; (with_reducible repeat (first | refine blk_drewN ?_ _ | refine blk_drew ?_ | refine blk_alloc ?_ _)); refine blk_far ?_ NB351_359.out _; (with_reducible repeat (first | refine blk_drewN ?_ _ | refine blk_drew ?_ | refine blk_alloc ?_ _)); exact BK351.out) hb); have n4_ := Aside0.mk (blk_below (g := gb355) (o := .cells #[.int .u64 t352, .int .i64 t353] 24 (0, 0)) (by (with_reducible repeat (first | refine blk_drewN ?_ _ | refine blk_drew ?_ | refine blk_alloc ?_ _)); refine blk_far ?_ NB355_359.out _; (with_reducible repeat (first | refine blk_drewN ?_ _ | refine blk_drew ?_ | refine blk_alloc ?_ _)); refine blk_far ?_ NB355_359.out _; (with_reducible repeat (first | refine blk_drewN ?_ _ | refine blk_drew ?_ | refine blk_alloc ?_ _)); exact BK355.out) hb); have n5_ := Aside0.mk (blk_below (g := gb359) (o := .cells #[.int .u64 t356, .int .i64 t357] 24 (0, 0)) (by (with_reducible repeat (first | refine blk_drewN ?_ _ | refine blk_drew ?_ | refine blk_alloc ?_ _)); refine blk_put (cs := #[.int .u64 t356, .int .i64 0]) ?_ 1 _ rfl; (with_reducible repeat (first | refine blk_drewN ?_ _ | refine blk_drew ?_ | refine blk_alloc ?_ _)); refine blk_put (cs := #[.int .u64 0, .int .i64 0]) ?_ 0 _ rfl; (with_reducible repeat (first | refine blk_drewN ?_ _ | refine blk_drew ?_ | refine blk_alloc ?_ _)); exact BK359.out) hb); have n6_ := Aside0.mk (below_step (by repeat (first | (with_reducible first | exact HB.out | apply below_alloc | apply pw_below_drewN | apply below_drew1 | refine below_set ?_ GE344.out | refine below_set ?_ GE345.out | refine below_set ?_ GE350.out | refine below_set ?_ GE351.out | refine below_set ?_ GE355.out | refine below_set ?_ GE359.out) | exact HB.out)) hb); clear BK344; clear BK345; clear BK350; clear BK351; clear BK355; clear BK359; clear HB; have BK344 := n0_; have BK345 := n1_; have BK350 := n2_; have BK351 := n3_; have BK355 := n4_; have BK359 := n5_; have HB := n6_; clear n0_ n1_ n2_ n3_ n4_ n5_ n6_; (try clear hb); (try clear hb2); (try clear hk); (try clear hi)))
        go_meet
        case rel => exact ⟨_, (true), (by first | rfl | (simp; done) | (simp [*]; done)), H', ⟨by first | omega | exact Nat.le_refl _⟩, ⟨by (with_reducible repeat (first | refine blk_drewN ?_ _ | refine blk_drew ?_ | refine blk_alloc ?_ _)); exact BK344.out⟩, ⟨by (with_reducible repeat (first | refine blk_drewN ?_ _ | refine blk_drew ?_ | refine blk_alloc ?_ _)); exact BK345.out⟩, ⟨by (with_reducible repeat (first | refine blk_drewN ?_ _ | refine blk_drew ?_ | refine blk_alloc ?_ _)); exact BK350.out⟩, ⟨by (with_reducible repeat (first | refine blk_drewN ?_ _ | refine blk_drew ?_ | refine blk_alloc ?_ _)); exact BK351.out⟩, ⟨by (with_reducible repeat (first | refine blk_drewN ?_ _ | refine blk_drew ?_ | refine blk_alloc ?_ _)); exact BK355.out⟩, ⟨by (with_reducible repeat (first | refine blk_drewN ?_ _ | refine blk_drew ?_ | refine blk_alloc ?_ _)); exact BK359.out⟩, ⟨by repeat (first | (with_reducible first | exact HB.out | apply below_alloc | apply pw_below_drewN | apply below_drew1 | refine below_set ?_ GE344.out | refine below_set ?_ GE345.out | refine below_set ?_ GE350.out | refine below_set ?_ GE351.out | refine below_set ?_ GE355.out | refine below_set ?_ GE359.out) | exact HB.out)⟩⟩
    · replace c44 := Bool.eq_false_iff.mpr c44
      subst c44
      have H1 : (stockyardlaw22_FingerprintInverse.j0 k true t346 t347 t348 t349) = some r := by rw [if_neg (show ¬ (false = true) by decide)] at H; exact H
      clear H
      have H := H1
      clear H1
      have H' := Aside0.mk H
      clear H
      go_wp2_with (first | ((with_reducible refine gate_callee (f := 18) rfl ?_); refine goesL_ (some 37) rfl rfl Try.func18 (by kernel_rfl) rfl #[] rfl (by (try simp only [List.map_toArray, List.map_cons, List.map_nil]); first | done | rfl | (simp only [List.length_drop, List.length_take]; rfl)) ?_; (with_reducible refine (stockyardlaw22_known.calls k  false _ A43.out).mono ?_); rintro e w61 ⟨rfl, hb⟩; refine ⟨_, rfl, ?_⟩; have n0_ := Aside0.mk (blk_below (g := gb344) (o := .cells #[.int .u64 a0_0, .int .i64 a0_1] 24 (0, 0)) (by (with_reducible repeat (first | refine blk_drewN ?_ _ | refine blk_drew ?_ | refine blk_alloc ?_ _)); refine blk_far ?_ NB344_359.out _; (with_reducible repeat (first | refine blk_drewN ?_ _ | refine blk_drew ?_ | refine blk_alloc ?_ _)); refine blk_far ?_ NB344_359.out _; (with_reducible repeat (first | refine blk_drewN ?_ _ | refine blk_drew ?_ | refine blk_alloc ?_ _)); exact BK344.out) hb); have n1_ := Aside0.mk (blk_below (g := gb345) (o := .cells #[.int .u64 a1_0, .int .i64 a1_1] 24 (0, 0)) (by (with_reducible repeat (first | refine blk_drewN ?_ _ | refine blk_drew ?_ | refine blk_alloc ?_ _)); refine blk_far ?_ NB345_359.out _; (with_reducible repeat (first | refine blk_drewN ?_ _ | refine blk_drew ?_ | refine blk_alloc ?_ _)); refine blk_far ?_ NB345_359.out _; (with_reducible repeat (first | refine blk_drewN ?_ _ | refine blk_drew ?_ | refine blk_alloc ?_ _)); exact BK345.out) hb); have n2_ := Aside0.mk (blk_below (g := gb350) (o := .cells #[.int .u64 t346, .int .i64 t347] 24 (0, 0)) (by (with_reducible repeat (first | refine blk_drewN ?_ _ | refine blk_drew ?_ | refine blk_alloc ?_ _)); refine blk_far ?_ NB350_359.out _; (with_reducible repeat (first | refine blk_drewN ?_ _ | refine blk_drew ?_ | refine blk_alloc ?_ _)); refine blk_far ?_ NB350_359.out _; (with_reducible repeat (first | refine blk_drewN ?_ _ | refine blk_drew ?_ | refine blk_alloc ?_ _)); exact BK350.out) hb); have n3_ := Aside0.mk (blk_below (g := gb351) (o := .cells #[.int .u64 t348, .int .i64 t349] 24 (0, 0)) (by (with_reducible repeat (first | refine blk_drewN ?_ _ | refine blk_drew ?_ | refine blk_alloc ?_ _)); refine blk_far ?_ NB351_359.out _; (with_reducible repeat (first | refine blk_drewN ?_ _ | refine blk_drew ?_ | refine blk_alloc ?_ _)); refine blk_far ?_ NB351_359.out _; (with_reducible repeat (first | refine blk_drewN ?_ _ | refine blk_drew ?_ | refine blk_alloc ?_ _)); exact BK351.out) hb); have n4_ := Aside0.mk (blk_below (g := gb355) (o := .cells #[.int .u64 t352, .int .i64 t353] 24 (0, 0)) (by (with_reducible repeat (first | refine blk_drewN ?_ _ | refine blk_drew ?_ | refine blk_alloc ?_ _)); refine blk_far ?_ NB355_359.out _; (with_reducible repeat (first | refine blk_drewN ?_ _ | refine blk_drew ?_ | refine blk_alloc ?_ _)); refine blk_far ?_ NB355_359.out _; (with_reducible repeat (first | refine blk_drewN ?_ _ | refine blk_drew ?_ | refine blk_alloc ?_ _)); exact BK355.out) hb); have n5_ := Aside0.mk (blk_below (g := gb359) (o := .cells #[.int .u64 t356, .int .i64 t357] 24 (0, 0)) (by (with_reducible repeat (first | refine blk_drewN ?_ _ | refine blk_drew ?_ | refine blk_alloc ?_ _)); refine blk_put (cs := #[.int .u64 t356, .int .i64 0]) ?_ 1 _ rfl; (with_reducible repeat (first | refine blk_drewN ?_ _ | refine blk_drew ?_ | refine blk_alloc ?_ _)); refine blk_put (cs := #[.int .u64 0, .int .i64 0]) ?_ 0 _ rfl; (with_reducible repeat (first | refine blk_drewN ?_ _ | refine blk_drew ?_ | refine blk_alloc ?_ _)); exact BK359.out) hb); have n6_ := Aside0.mk (below_step (by repeat (first | (with_reducible first | exact HB.out | apply below_alloc | apply pw_below_drewN | apply below_drew1 | refine below_set ?_ GE344.out | refine below_set ?_ GE345.out | refine below_set ?_ GE350.out | refine below_set ?_ GE351.out | refine below_set ?_ GE355.out | refine below_set ?_ GE359.out) | exact HB.out)) hb); clear BK344; clear BK345; clear BK350; clear BK351; clear BK355; clear BK359; clear HB; have BK344 := n0_; have BK345 := n1_; have BK350 := n2_; have BK351 := n3_; have BK355 := n4_; have BK359 := n5_; have HB := n6_; clear n0_ n1_ n2_ n3_ n4_ n5_ n6_; (try clear hb); (try clear hb2); (try clear hk); (try clear hi)))
      go_meet
      case rel => exact ⟨_, (true), (by first | rfl | (simp; done) | (simp [*]; done)), H', ⟨by first | omega | exact Nat.le_refl _⟩, ⟨by (with_reducible repeat (first | refine blk_drewN ?_ _ | refine blk_drew ?_ | refine blk_alloc ?_ _)); exact BK344.out⟩, ⟨by (with_reducible repeat (first | refine blk_drewN ?_ _ | refine blk_drew ?_ | refine blk_alloc ?_ _)); exact BK345.out⟩, ⟨by (with_reducible repeat (first | refine blk_drewN ?_ _ | refine blk_drew ?_ | refine blk_alloc ?_ _)); exact BK350.out⟩, ⟨by (with_reducible repeat (first | refine blk_drewN ?_ _ | refine blk_drew ?_ | refine blk_alloc ?_ _)); exact BK351.out⟩, ⟨by (with_reducible repeat (first | refine blk_drewN ?_ _ | refine blk_drew ?_ | refine blk_alloc ?_ _)); exact BK355.out⟩, ⟨by (with_reducible repeat (first | refine blk_drewN ?_ _ | refine blk_drew ?_ | refine blk_alloc ?_ _)); exact BK359.out⟩, ⟨by repeat (first | (with_reducible first | exact HB.out | apply below_alloc | apply pw_below_drewN | apply below_drew1 | refine below_set ?_ GE344.out | refine below_set ?_ GE345.out | refine below_set ?_ GE350.out | refine below_set ?_ GE351.out | refine below_set ?_ GE355.out | refine below_set ?_ GE359.out) | exact HB.out)⟩⟩
  case rest =>
    clear HC7
    try clear c1
    try clear c2
    try clear p2
    try clear c3
    try clear c4
    try clear c5
    try clear c17
    try clear c18
    try clear c20
    try clear c21
    try clear c22
    try clear c24
    try clear c25
    try clear c26
    try clear c29
    try clear c30
    try clear c31
    try clear c32
    try clear c33
    try clear c37
    try clear c38
    try clear c39
    try clear c40
    try clear c41
    try clear c44
    try clear c45
    try clear c45b0
    try clear c45b1
    try clear c46
    try clear c46b0
    try clear c46b1
    try clear c48
    try clear c49
    try clear c50
    try clear c51
    try clear c52
    try clear c54
    try clear c55
    try clear c56
    try clear c57
    try clear hcz23_0
    try clear hcz23_1
    try clear hcz26_0
    try clear hcz26_1
    try clear hcz33_0
    try clear hcz33_1
    try clear hcz34_0
    try clear hcz34_1
    try clear hcz42_0
    try clear hcz42_1
    try clear hcz53_0
    try clear hcz53_1
    try clear hcz58_0
    try clear hcz58_1
    try clear hfz23_0
    try clear hfz23_1
    try clear hfz26_0
    try clear hfz26_1
    try clear hfz33_0
    try clear hfz33_1
    try clear hfz34_0
    try clear hfz34_1
    try clear hfz42_0
    try clear hfz42_1
    try clear hfz53_0
    try clear hfz53_1
    try clear hfz58_0
    try clear hfz58_1
    obtain ⟨kq, x51_6, rfl, HA, HJ6, BK344, BK345, BK350, BK351, BK355, BK359, HB⟩ := hcut
    cases kq with
    | zero => exact absurd HA.out (by simp [stockyardlaw22_FingerprintInverse.j0])
    | succ kj6 =>
      have H := HA.out
      clear HA
      simp only [stockyardlaw22_FingerprintInverse.j0] at H
      by_cases c62 : x51_6 = true
      · subst c62
        have H1 : (some false) = some r := by rw [if_pos rfl] at H; exact H
        clear H
        have H := H1
        clear H1
        exact absurd ((Option.some.inj H).trans HRT.out) (by decide)
      · replace c62 := Bool.eq_false_iff.mpr c62
        subst c62
        have H1 : (if t349 ≤ t347 then (some true) else ((fingerprint_Rest.f kj6 t348 t349 t346 t347).bind fun bt361 => ((fingerprint_Join.f kj6 t346 t347 bt361.1 bt361.2.1).bind fun bt365 => (if bt361.2.2 = 0 then (if bt365.2.2 = 0 then (some (bt365.1 == t348 && (bt365.2.1 == t349))) else (some false)) else (some false))))) = some r := by rw [if_neg (show ¬ (false = true) by decide)] at H; exact H
        clear H
        have H := H1
        clear H1
        by_cases c63 : t349 ≤ t347
        · rw [if_pos c63] at H
          have c63b0 : decide (t349 ≤ t347) = true := decide_eq_true c63
          clear c63
          obtain rfl := Option.some.inj H
          have hnb64 := NB351_344.out
          have hnc64 := NB344_351.out
          have hnb65 := NB351_345.out
          have hnc65 := NB345_351.out
          have hnb66 := NB351_350.out
          have hnc66 := NB350_351.out
          have hnb67 := NB351_355.out
          have hnc67 := NB355_351.out
          have hnb68 := NB351_359.out
          have hnc68 := NB359_351.out
          have hcz69_0 : wc.cell? ⟨gb351, 0, none⟩ = some (.int .u64 t348) := (blk_cell BK351.out 0).trans rfl
          have hcz69_1 : wc.cell? ⟨gb351, 1, none⟩ = some (.int .i64 t349) := (blk_cell BK351.out 1).trans rfl
          have hfz69_0 := blk_frozen BK351.out 0
          have hfz69_1 := blk_frozen BK351.out 1
          have hnb70 := NB350_344.out
          have hnc70 := NB344_350.out
          have hnb71 := NB350_345.out
          have hnc71 := NB345_350.out
          have hnb72 := NB350_355.out
          have hnc72 := NB355_350.out
          have hnb73 := NB350_359.out
          have hnc73 := NB359_350.out
          have hcz74_0 : wc.cell? ⟨gb350, 0, none⟩ = some (.int .u64 t346) := (blk_cell BK350.out 0).trans rfl
          have hcz74_1 : wc.cell? ⟨gb350, 1, none⟩ = some (.int .i64 t347) := (blk_cell BK350.out 1).trans rfl
          have hfz74_0 := blk_frozen BK350.out 0
          have hfz74_1 := blk_frozen BK350.out 1
          go_wp2
          go_ret
          exact ⟨by first | rfl | (simp [errW_none, errW_some] <;> rfl) | (simp [*, errW_none, errW_some] <;> rfl), by repeat (first | (with_reducible first | exact HB.out | apply below_alloc | apply pw_below_drewN | apply below_drew1 | refine below_set ?_ GE344.out | refine below_set ?_ GE345.out | refine below_set ?_ GE350.out | refine below_set ?_ GE351.out | refine below_set ?_ GE355.out | refine below_set ?_ GE359.out) | exact HB.out)⟩
        · rw [if_neg c63] at H
          have c63b0 : decide (t349 ≤ t347) = false := decide_eq_false c63
          clear c63
          replace H := Option.bind_eq_some_iff.mp H
          obtain ⟨⟨t361, t362, t363⟩, A750, H⟩ := H
          replace H : ((fingerprint_Join.f kj6 t346 t347 t361 t362).bind fun bt365 => (if t363 = 0 then (if bt365.2.2 = 0 then (some (bt365.1 == t348 && (bt365.2.1 == t349))) else (some false)) else (some false))) = some r := H
          have A75 := Aside0.mk A750
          clear A750
          replace H := Option.bind_eq_some_iff.mp H
          obtain ⟨⟨t365, t366, t367⟩, A760, H⟩ := H
          replace H : (if t363 = 0 then (if t367 = 0 then (some (t365 == t348 && (t366 == t349))) else (some false)) else (some false)) = some r := H
          have A76 := Aside0.mk A760
          clear A760
          by_cases c77 : t363 = 0
          · rw [if_pos c77] at H
            have c77b0 : (t363 == 0) = true := beq_iff_eq.mpr c77
            have c77b1 : (t363 != 0) = false := bne_eq_false_iff_eq.mpr c77
            clear c77
            by_cases c78 : t367 = 0
            · rw [if_pos c78] at H
              have c78b0 : (t367 == 0) = true := beq_iff_eq.mpr c78
              have c78b1 : (t367 != 0) = false := bne_eq_false_iff_eq.mpr c78
              clear c78
              obtain rfl := Option.some.inj H
              have hnb79 := NB351_344.out
              have hnc79 := NB344_351.out
              have hnb80 := NB351_345.out
              have hnc80 := NB345_351.out
              have hnb81 := NB351_350.out
              have hnc81 := NB350_351.out
              have hnb82 := NB351_355.out
              have hnc82 := NB355_351.out
              have hnb83 := NB351_359.out
              have hnc83 := NB359_351.out
              have hcz84_0 : wc.cell? ⟨gb351, 0, none⟩ = some (.int .u64 t348) := (blk_cell BK351.out 0).trans rfl
              have hcz84_1 : wc.cell? ⟨gb351, 1, none⟩ = some (.int .i64 t349) := (blk_cell BK351.out 1).trans rfl
              have hfz84_0 := blk_frozen BK351.out 0
              have hfz84_1 := blk_frozen BK351.out 1
              have hnb85 := NB350_344.out
              have hnc85 := NB344_350.out
              have hnb86 := NB350_345.out
              have hnc86 := NB345_350.out
              have hnb87 := NB350_355.out
              have hnc87 := NB355_350.out
              have hnb88 := NB350_359.out
              have hnc88 := NB359_350.out
              have hcz89_0 : wc.cell? ⟨gb350, 0, none⟩ = some (.int .u64 t346) := (blk_cell BK350.out 0).trans rfl
              have hcz89_1 : wc.cell? ⟨gb350, 1, none⟩ = some (.int .i64 t347) := (blk_cell BK350.out 1).trans rfl
              have hfz89_0 := blk_frozen BK350.out 0
              have hfz89_1 := blk_frozen BK350.out 1
              go_wp2_with (first | ((with_reducible refine gate_callee (f := 33) rfl ?_); refine goesL_ (some 60) rfl rfl Try.func33 (by kernel_rfl) rfl #[.agg #[.int .u64 t348, .int .i64 t349], .agg #[.int .u64 t346, .int .i64 t347]] rfl (by (try simp only [List.map_toArray, List.map_cons, List.map_nil]); first | done | rfl | (simp only [List.length_drop, List.length_take]; rfl)) ?_; (with_reducible refine (fingerprint_Rest.calls kj6 t348 t349 t346 t347 t361 t362 t363 _ A75.out).mono ?_); rintro e w90 ⟨rfl, hb⟩; refine ⟨_, rfl, ?_⟩; have n0_ := Aside0.mk (blk_below (g := gb344) (o := .cells #[.int .u64 a0_0, .int .i64 a0_1] 24 (0, 0)) (by (with_reducible repeat (first | refine blk_drewN ?_ _ | refine blk_drew ?_ | refine blk_alloc ?_ _)); exact BK344.out) hb); have n1_ := Aside0.mk (blk_below (g := gb345) (o := .cells #[.int .u64 a1_0, .int .i64 a1_1] 24 (0, 0)) (by (with_reducible repeat (first | refine blk_drewN ?_ _ | refine blk_drew ?_ | refine blk_alloc ?_ _)); exact BK345.out) hb); have n2_ := Aside0.mk (blk_below (g := gb350) (o := .cells #[.int .u64 t346, .int .i64 t347] 24 (0, 0)) (by (with_reducible repeat (first | refine blk_drewN ?_ _ | refine blk_drew ?_ | refine blk_alloc ?_ _)); exact BK350.out) hb); have n3_ := Aside0.mk (blk_below (g := gb351) (o := .cells #[.int .u64 t348, .int .i64 t349] 24 (0, 0)) (by (with_reducible repeat (first | refine blk_drewN ?_ _ | refine blk_drew ?_ | refine blk_alloc ?_ _)); exact BK351.out) hb); have n4_ := Aside0.mk (blk_below (g := gb355) (o := .cells #[.int .u64 t352, .int .i64 t353] 24 (0, 0)) (by (with_reducible repeat (first | refine blk_drewN ?_ _ | refine blk_drew ?_ | refine blk_alloc ?_ _)); exact BK355.out) hb); have n5_ := Aside0.mk (blk_below (g := gb359) (o := .cells #[.int .u64 t356, .int .i64 t357] 24 (0, 0)) (by (with_reducible repeat (first | refine blk_drewN ?_ _ | refine blk_drew ?_ | refine blk_alloc ?_ _)); exact BK359.out) hb); have n6_ := Aside0.mk (below_step (by repeat (first | (with_reducible first | exact HB.out | apply below_alloc | apply pw_below_drewN | apply below_drew1 | refine below_set ?_ GE344.out | refine below_set ?_ GE345.out | refine below_set ?_ GE350.out | refine below_set ?_ GE351.out | refine below_set ?_ GE355.out | refine below_set ?_ GE359.out) | exact HB.out)) hb); clear BK344; clear BK345; clear BK350; clear BK351; clear BK355; clear BK359; clear HB; have BK344 := n0_; have BK345 := n1_; have BK350 := n2_; have BK351 := n3_; have BK355 := n4_; have BK359 := n5_; have HB := n6_; clear n0_ n1_ n2_ n3_ n4_ n5_ n6_; (try clear hb); (try clear hb2); (try clear hk); (try clear hi)) | ((with_reducible refine gate_dst (N := 11) rfl ?_); refine box_event ?hg (N := 11) ?hd (cs := #[.int .u64 0, .int .i64 0]) (t := 24) ?hr ?_; (case hd => rfl); (case hg => rfl); (case hr => first | (go_simp; done) | (go_simp; rfl)); intro gb364 hg w91 hbox hb; have n0_ := Aside0.mk (blk_below (g := gb344) (o := .cells #[.int .u64 a0_0, .int .i64 a0_1] 24 (0, 0)) (by (with_reducible repeat (first | refine blk_drewN ?_ _ | refine blk_drew ?_ | refine blk_alloc ?_ _)); exact BK344.out) hb); have n1_ := Aside0.mk (blk_below (g := gb345) (o := .cells #[.int .u64 a1_0, .int .i64 a1_1] 24 (0, 0)) (by (with_reducible repeat (first | refine blk_drewN ?_ _ | refine blk_drew ?_ | refine blk_alloc ?_ _)); exact BK345.out) hb); have n2_ := Aside0.mk (blk_below (g := gb350) (o := .cells #[.int .u64 t346, .int .i64 t347] 24 (0, 0)) (by (with_reducible repeat (first | refine blk_drewN ?_ _ | refine blk_drew ?_ | refine blk_alloc ?_ _)); exact BK350.out) hb); have n3_ := Aside0.mk (blk_below (g := gb351) (o := .cells #[.int .u64 t348, .int .i64 t349] 24 (0, 0)) (by (with_reducible repeat (first | refine blk_drewN ?_ _ | refine blk_drew ?_ | refine blk_alloc ?_ _)); exact BK351.out) hb); have n4_ := Aside0.mk (blk_below (g := gb355) (o := .cells #[.int .u64 t352, .int .i64 t353] 24 (0, 0)) (by (with_reducible repeat (first | refine blk_drewN ?_ _ | refine blk_drew ?_ | refine blk_alloc ?_ _)); exact BK355.out) hb); have n5_ := Aside0.mk (blk_below (g := gb359) (o := .cells #[.int .u64 t356, .int .i64 t357] 24 (0, 0)) (by (with_reducible repeat (first | refine blk_drewN ?_ _ | refine blk_drew ?_ | refine blk_alloc ?_ _)); exact BK359.out) hb); have n6_ := Aside0.mk (below_step (by repeat (first | (with_reducible first | exact HB.out | apply below_alloc | apply pw_below_drewN | apply below_drew1 | refine below_set ?_ GE344.out | refine below_set ?_ GE345.out | refine below_set ?_ GE350.out | refine below_set ?_ GE351.out | refine below_set ?_ GE355.out | refine below_set ?_ GE359.out) | exact HB.out)) hb); have n7_ := Aside0.mk (hbox); have n8_ := Aside0.mk ((by rw [hg]; exact (below_size (by repeat (first | (with_reducible first | exact HB.out | apply below_alloc | apply pw_below_drewN | apply below_drew1 | refine below_set ?_ GE344.out | refine below_set ?_ GE345.out | refine below_set ?_ GE350.out | refine below_set ?_ GE351.out | refine below_set ?_ GE355.out | refine below_set ?_ GE359.out) | exact HB.out))) : w.heap.size ≤ gb364)); have n9_ := Aside0.mk ((by rw [hg]; exact (below_size (by repeat (first | (with_reducible first | exact HB.out | apply below_alloc | apply pw_below_drewN | apply below_drew1 | refine below_set ?_ GE344.out | refine below_set ?_ GE345.out | refine below_set ?_ GE350.out | refine below_set ?_ GE351.out | refine below_set ?_ GE355.out | refine below_set ?_ GE359.out) | exact HB.out))) : w.heap.size ≤ gb364)); have n10_ := Aside0.mk ((by rw [hg]; exact Nat.ne_of_lt (blk_lt (g := gb344) (o := .cells #[.int .u64 a0_0, .int .i64 a0_1] 24 (0, 0)) (by (with_reducible repeat (first | refine blk_drewN ?_ _ | refine blk_drew ?_ | refine blk_alloc ?_ _)); exact BK344.out)) : gb344 ≠ gb364)); have n11_ := Aside0.mk ((by rw [hg]; exact Nat.ne_of_gt (blk_lt (g := gb344) (o := .cells #[.int .u64 a0_0, .int .i64 a0_1] 24 (0, 0)) (by (with_reducible repeat (first | refine blk_drewN ?_ _ | refine blk_drew ?_ | refine blk_alloc ?_ _)); exact BK344.out)) : gb364 ≠ gb344)); have n12_ := Aside0.mk ((by rw [hg]; exact Nat.ne_of_lt (blk_lt (g := gb345) (o := .cells #[.int .u64 a1_0, .int .i64 a1_1] 24 (0, 0)) (by (with_reducible repeat (first | refine blk_drewN ?_ _ | refine blk_drew ?_ | refine blk_alloc ?_ _)); exact BK345.out)) : gb345 ≠ gb364)); have n13_ := Aside0.mk ((by rw [hg]; exact Nat.ne_of_gt (blk_lt (g := gb345) (o := .cells #[.int .u64 a1_0, .int .i64 a1_1] 24 (0, 0)) (by (with_reducible repeat (first | refine blk_drewN ?_ _ | refine blk_drew ?_ | refine blk_alloc ?_ _)); exact BK345.out)) : gb364 ≠ gb345)); have n14_ := Aside0.mk ((by rw [hg]; exact Nat.ne_of_lt (blk_lt (g := gb350) (o := .cells #[.int .u64 t346, .int .i64 t347] 24 (0, 0)) (by (with_reducible repeat (first | refine blk_drewN ?_ _ | refine blk_drew ?_ | refine blk_alloc ?_ _)); exact BK350.out)) : gb350 ≠ gb364)); have n15_ := Aside0.mk ((by rw [hg]; exact Nat.ne_of_gt (blk_lt (g := gb350) (o := .cells #[.int .u64 t346, .int .i64 t347] 24 (0, 0)) (by (with_reducible repeat (first | refine blk_drewN ?_ _ | refine blk_drew ?_ | refine blk_alloc ?_ _)); exact BK350.out)) : gb364 ≠ gb350)); have n16_ := Aside0.mk ((by rw [hg]; exact Nat.ne_of_lt (blk_lt (g := gb351) (o := .cells #[.int .u64 t348, .int .i64 t349] 24 (0, 0)) (by (with_reducible repeat (first | refine blk_drewN ?_ _ | refine blk_drew ?_ | refine blk_alloc ?_ _)); exact BK351.out)) : gb351 ≠ gb364)); have n17_ := Aside0.mk ((by rw [hg]; exact Nat.ne_of_gt (blk_lt (g := gb351) (o := .cells #[.int .u64 t348, .int .i64 t349] 24 (0, 0)) (by (with_reducible repeat (first | refine blk_drewN ?_ _ | refine blk_drew ?_ | refine blk_alloc ?_ _)); exact BK351.out)) : gb364 ≠ gb351)); have n18_ := Aside0.mk ((by rw [hg]; exact Nat.ne_of_lt (blk_lt (g := gb355) (o := .cells #[.int .u64 t352, .int .i64 t353] 24 (0, 0)) (by (with_reducible repeat (first | refine blk_drewN ?_ _ | refine blk_drew ?_ | refine blk_alloc ?_ _)); exact BK355.out)) : gb355 ≠ gb364)); have n19_ := Aside0.mk ((by rw [hg]; exact Nat.ne_of_gt (blk_lt (g := gb355) (o := .cells #[.int .u64 t352, .int .i64 t353] 24 (0, 0)) (by (with_reducible repeat (first | refine blk_drewN ?_ _ | refine blk_drew ?_ | refine blk_alloc ?_ _)); exact BK355.out)) : gb364 ≠ gb355)); have n20_ := Aside0.mk ((by rw [hg]; exact Nat.ne_of_lt (blk_lt (g := gb359) (o := .cells #[.int .u64 t356, .int .i64 t357] 24 (0, 0)) (by (with_reducible repeat (first | refine blk_drewN ?_ _ | refine blk_drew ?_ | refine blk_alloc ?_ _)); exact BK359.out)) : gb359 ≠ gb364)); have n21_ := Aside0.mk ((by rw [hg]; exact Nat.ne_of_gt (blk_lt (g := gb359) (o := .cells #[.int .u64 t356, .int .i64 t357] 24 (0, 0)) (by (with_reducible repeat (first | refine blk_drewN ?_ _ | refine blk_drew ?_ | refine blk_alloc ?_ _)); exact BK359.out)) : gb364 ≠ gb359)); clear BK344; clear BK345; clear BK350; clear BK351; clear BK355; clear BK359; clear HB; have BK344 := n0_; have BK345 := n1_; have BK350 := n2_; have BK351 := n3_; have BK355 := n4_; have BK359 := n5_; have HB := n6_; have BK364 := n7_; have GW364 := n8_; have GE364 := n9_; have NB344_364 := n10_; have NB364_344 := n11_; have NB345_364 := n12_; have NB364_345 := n13_; have NB350_364 := n14_; have NB364_350 := n15_; have NB351_364 := n16_; have NB364_351 := n17_; have NB355_364 := n18_; have NB364_355 := n19_; have NB359_364 := n20_; have NB364_359 := n21_; clear n0_ n1_ n2_ n3_ n4_ n5_ n6_ n7_ n8_ n9_ n10_ n11_ n12_ n13_ n14_ n15_ n16_ n17_ n18_ n19_ n20_ n21_; clear hb hbox hg; have hnb92 := NB364_344.out; have hnc92 := NB344_364.out; have hnb93 := NB364_345.out; have hnc93 := NB345_364.out; have hnb94 := NB364_350.out; have hnc94 := NB350_364.out; have hnb95 := NB364_351.out; have hnc95 := NB351_364.out; have hnb96 := NB364_355.out; have hnc96 := NB355_364.out; have hnb97 := NB364_359.out; have hnc97 := NB359_364.out; have hcz98_0 : w91.cell? ⟨gb364, 0, none⟩ = some (.int .u64 0) := (blk_cell BK364.out 0).trans rfl; have hcz98_1 : w91.cell? ⟨gb364, 1, none⟩ = some (.int .i64 0) := (blk_cell BK364.out 1).trans rfl; have hfz98_0 := blk_frozen BK364.out 0; have hfz98_1 := blk_frozen BK364.out 1; have hcz99_0 : w91.cell? ⟨gb350, 0, none⟩ = some (.int .u64 t346) := (blk_cell BK350.out 0).trans rfl; have hcz99_1 : w91.cell? ⟨gb350, 1, none⟩ = some (.int .i64 t347) := (blk_cell BK350.out 1).trans rfl; have hfz99_0 := blk_frozen BK350.out 0; have hfz99_1 := blk_frozen BK350.out 1) | ((with_reducible refine gate_callee (f := 26) rfl ?_); refine goesL_ (some 66) rfl rfl Try.func26 (by kernel_rfl) rfl #[.agg #[.int .u64 t346, .int .i64 t347], .agg #[.int .u64 t361, .int .i64 t362]] rfl (by (try simp only [List.map_toArray, List.map_cons, List.map_nil]); first | done | rfl | (simp only [List.length_drop, List.length_take]; rfl)) ?_; (with_reducible refine (fingerprint_Join.calls kj6 t346 t347 t361 t362 t365 t366 t367 _ A76.out).mono ?_); rintro e w100 ⟨rfl, hb⟩; refine ⟨_, rfl, ?_⟩; have n0_ := Aside0.mk (blk_below (g := gb344) (o := .cells #[.int .u64 a0_0, .int .i64 a0_1] 24 (0, 0)) (by (with_reducible repeat (first | refine blk_drewN ?_ _ | refine blk_drew ?_ | refine blk_alloc ?_ _)); refine blk_far ?_ NB344_364.out _; (with_reducible repeat (first | refine blk_drewN ?_ _ | refine blk_drew ?_ | refine blk_alloc ?_ _)); refine blk_far ?_ NB344_364.out _; (with_reducible repeat (first | refine blk_drewN ?_ _ | refine blk_drew ?_ | refine blk_alloc ?_ _)); exact BK344.out) hb); have n1_ := Aside0.mk (blk_below (g := gb345) (o := .cells #[.int .u64 a1_0, .int .i64 a1_1] 24 (0, 0)) (by (with_reducible repeat (first | refine blk_drewN ?_ _ | refine blk_drew ?_ | refine blk_alloc ?_ _)); refine blk_far ?_ NB345_364.out _; (with_reducible repeat (first | refine blk_drewN ?_ _ | refine blk_drew ?_ | refine blk_alloc ?_ _)); refine blk_far ?_ NB345_364.out _; (with_reducible repeat (first | refine blk_drewN ?_ _ | refine blk_drew ?_ | refine blk_alloc ?_ _)); exact BK345.out) hb); have n2_ := Aside0.mk (blk_below (g := gb350) (o := .cells #[.int .u64 t346, .int .i64 t347] 24 (0, 0)) (by (with_reducible repeat (first | refine blk_drewN ?_ _ | refine blk_drew ?_ | refine blk_alloc ?_ _)); refine blk_far ?_ NB350_364.out _; (with_reducible repeat (first | refine blk_drewN ?_ _ | refine blk_drew ?_ | refine blk_alloc ?_ _)); refine blk_far ?_ NB350_364.out _; (with_reducible repeat (first | refine blk_drewN ?_ _ | refine blk_drew ?_ | refine blk_alloc ?_ _)); exact BK350.out) hb); have n3_ := Aside0.mk (blk_below (g := gb351) (o := .cells #[.int .u64 t348, .int .i64 t349] 24 (0, 0)) (by (with_reducible repeat (first | refine blk_drewN ?_ _ | refine blk_drew ?_ | refine blk_alloc ?_ _)); refine blk_far ?_ NB351_364.out _; (with_reducible repeat (first | refine blk_drewN ?_ _ | refine blk_drew ?_ | refine blk_alloc ?_ _)); refine blk_far ?_ NB351_364.out _; (with_reducible repeat (first | refine blk_drewN ?_ _ | refine blk_drew ?_ | refine blk_alloc ?_ _)); exact BK351.out) hb); have n4_ := Aside0.mk (blk_below (g := gb355) (o := .cells #[.int .u64 t352, .int .i64 t353] 24 (0, 0)) (by (with_reducible repeat (first | refine blk_drewN ?_ _ | refine blk_drew ?_ | refine blk_alloc ?_ _)); refine blk_far ?_ NB355_364.out _; (with_reducible repeat (first | refine blk_drewN ?_ _ | refine blk_drew ?_ | refine blk_alloc ?_ _)); refine blk_far ?_ NB355_364.out _; (with_reducible repeat (first | refine blk_drewN ?_ _ | refine blk_drew ?_ | refine blk_alloc ?_ _)); exact BK355.out) hb); have n5_ := Aside0.mk (blk_below (g := gb359) (o := .cells #[.int .u64 t356, .int .i64 t357] 24 (0, 0)) (by (with_reducible repeat (first | refine blk_drewN ?_ _ | refine blk_drew ?_ | refine blk_alloc ?_ _)); refine blk_far ?_ NB359_364.out _; (with_reducible repeat (first | refine blk_drewN ?_ _ | refine blk_drew ?_ | refine blk_alloc ?_ _)); refine blk_far ?_ NB359_364.out _; (with_reducible repeat (first | refine blk_drewN ?_ _ | refine blk_drew ?_ | refine blk_alloc ?_ _)); exact BK359.out) hb); have n6_ := Aside0.mk (blk_below (g := gb364) (o := .cells #[.int .u64 t361, .int .i64 t362] 24 (0, 0)) (by (with_reducible repeat (first | refine blk_drewN ?_ _ | refine blk_drew ?_ | refine blk_alloc ?_ _)); refine blk_put (cs := #[.int .u64 t361, .int .i64 0]) ?_ 1 _ rfl; (with_reducible repeat (first | refine blk_drewN ?_ _ | refine blk_drew ?_ | refine blk_alloc ?_ _)); refine blk_put (cs := #[.int .u64 0, .int .i64 0]) ?_ 0 _ rfl; (with_reducible repeat (first | refine blk_drewN ?_ _ | refine blk_drew ?_ | refine blk_alloc ?_ _)); exact BK364.out) hb); have n7_ := Aside0.mk (below_step (by repeat (first | (with_reducible first | exact HB.out | apply below_alloc | apply pw_below_drewN | apply below_drew1 | refine below_set ?_ GE344.out | refine below_set ?_ GE345.out | refine below_set ?_ GE350.out | refine below_set ?_ GE351.out | refine below_set ?_ GE355.out | refine below_set ?_ GE359.out | refine below_set ?_ GE364.out) | exact HB.out)) hb); clear BK344; clear BK345; clear BK350; clear BK351; clear BK355; clear BK359; clear BK364; clear HB; have BK344 := n0_; have BK345 := n1_; have BK350 := n2_; have BK351 := n3_; have BK355 := n4_; have BK359 := n5_; have BK364 := n6_; have HB := n7_; clear n0_ n1_ n2_ n3_ n4_ n5_ n6_ n7_; (try clear hb); (try clear hb2); (try clear hk); (try clear hi)) | ((with_reducible refine gate_dst (N := 13) rfl ?_); refine box_event ?hg (N := 13) ?hd (cs := #[.int .u64 0, .int .i64 0]) (t := 24) ?hr ?_; (case hd => rfl); (case hg => rfl); (case hr => first | (go_simp; done) | (go_simp; rfl)); intro gb368 hg w101 hbox hb; have n0_ := Aside0.mk (blk_below (g := gb344) (o := .cells #[.int .u64 a0_0, .int .i64 a0_1] 24 (0, 0)) (by (with_reducible repeat (first | refine blk_drewN ?_ _ | refine blk_drew ?_ | refine blk_alloc ?_ _)); exact BK344.out) hb); have n1_ := Aside0.mk (blk_below (g := gb345) (o := .cells #[.int .u64 a1_0, .int .i64 a1_1] 24 (0, 0)) (by (with_reducible repeat (first | refine blk_drewN ?_ _ | refine blk_drew ?_ | refine blk_alloc ?_ _)); exact BK345.out) hb); have n2_ := Aside0.mk (blk_below (g := gb350) (o := .cells #[.int .u64 t346, .int .i64 t347] 24 (0, 0)) (by (with_reducible repeat (first | refine blk_drewN ?_ _ | refine blk_drew ?_ | refine blk_alloc ?_ _)); exact BK350.out) hb); have n3_ := Aside0.mk (blk_below (g := gb351) (o := .cells #[.int .u64 t348, .int .i64 t349] 24 (0, 0)) (by (with_reducible repeat (first | refine blk_drewN ?_ _ | refine blk_drew ?_ | refine blk_alloc ?_ _)); exact BK351.out) hb); have n4_ := Aside0.mk (blk_below (g := gb355) (o := .cells #[.int .u64 t352, .int .i64 t353] 24 (0, 0)) (by (with_reducible repeat (first | refine blk_drewN ?_ _ | refine blk_drew ?_ | refine blk_alloc ?_ _)); exact BK355.out) hb); have n5_ := Aside0.mk (blk_below (g := gb359) (o := .cells #[.int .u64 t356, .int .i64 t357] 24 (0, 0)) (by (with_reducible repeat (first | refine blk_drewN ?_ _ | refine blk_drew ?_ | refine blk_alloc ?_ _)); exact BK359.out) hb); have n6_ := Aside0.mk (blk_below (g := gb364) (o := .cells #[.int .u64 t361, .int .i64 t362] 24 (0, 0)) (by (with_reducible repeat (first | refine blk_drewN ?_ _ | refine blk_drew ?_ | refine blk_alloc ?_ _)); exact BK364.out) hb); have n7_ := Aside0.mk (below_step (by repeat (first | (with_reducible first | exact HB.out | apply below_alloc | apply pw_below_drewN | apply below_drew1 | refine below_set ?_ GE344.out | refine below_set ?_ GE345.out | refine below_set ?_ GE350.out | refine below_set ?_ GE351.out | refine below_set ?_ GE355.out | refine below_set ?_ GE359.out | refine below_set ?_ GE364.out) | exact HB.out)) hb); have n8_ := Aside0.mk (hbox); have n9_ := Aside0.mk ((by rw [hg]; exact (below_size (by repeat (first | (with_reducible first | exact HB.out | apply below_alloc | apply pw_below_drewN | apply below_drew1 | refine below_set ?_ GE344.out | refine below_set ?_ GE345.out | refine below_set ?_ GE350.out | refine below_set ?_ GE351.out | refine below_set ?_ GE355.out | refine below_set ?_ GE359.out | refine below_set ?_ GE364.out) | exact HB.out))) : w.heap.size ≤ gb368)); have n10_ := Aside0.mk ((by rw [hg]; exact (below_size (by repeat (first | (with_reducible first | exact HB.out | apply below_alloc | apply pw_below_drewN | apply below_drew1 | refine below_set ?_ GE344.out | refine below_set ?_ GE345.out | refine below_set ?_ GE350.out | refine below_set ?_ GE351.out | refine below_set ?_ GE355.out | refine below_set ?_ GE359.out | refine below_set ?_ GE364.out) | exact HB.out))) : w.heap.size ≤ gb368)); have n11_ := Aside0.mk ((by rw [hg]; exact Nat.ne_of_lt (blk_lt (g := gb344) (o := .cells #[.int .u64 a0_0, .int .i64 a0_1] 24 (0, 0)) (by (with_reducible repeat (first | refine blk_drewN ?_ _ | refine blk_drew ?_ | refine blk_alloc ?_ _)); exact BK344.out)) : gb344 ≠ gb368)); have n12_ := Aside0.mk ((by rw [hg]; exact Nat.ne_of_gt (blk_lt (g := gb344) (o := .cells #[.int .u64 a0_0, .int .i64 a0_1] 24 (0, 0)) (by (with_reducible repeat (first | refine blk_drewN ?_ _ | refine blk_drew ?_ | refine blk_alloc ?_ _)); exact BK344.out)) : gb368 ≠ gb344)); have n13_ := Aside0.mk ((by rw [hg]; exact Nat.ne_of_lt (blk_lt (g := gb345) (o := .cells #[.int .u64 a1_0, .int .i64 a1_1] 24 (0, 0)) (by (with_reducible repeat (first | refine blk_drewN ?_ _ | refine blk_drew ?_ | refine blk_alloc ?_ _)); exact BK345.out)) : gb345 ≠ gb368)); have n14_ := Aside0.mk ((by rw [hg]; exact Nat.ne_of_gt (blk_lt (g := gb345) (o := .cells #[.int .u64 a1_0, .int .i64 a1_1] 24 (0, 0)) (by (with_reducible repeat (first | refine blk_drewN ?_ _ | refine blk_drew ?_ | refine blk_alloc ?_ _)); exact BK345.out)) : gb368 ≠ gb345)); have n15_ := Aside0.mk ((by rw [hg]; exact Nat.ne_of_lt (blk_lt (g := gb350) (o := .cells #[.int .u64 t346, .int .i64 t347] 24 (0, 0)) (by (with_reducible repeat (first | refine blk_drewN ?_ _ | refine blk_drew ?_ | refine blk_alloc ?_ _)); exact BK350.out)) : gb350 ≠ gb368)); have n16_ := Aside0.mk ((by rw [hg]; exact Nat.ne_of_gt (blk_lt (g := gb350) (o := .cells #[.int .u64 t346, .int .i64 t347] 24 (0, 0)) (by (with_reducible repeat (first | refine blk_drewN ?_ _ | refine blk_drew ?_ | refine blk_alloc ?_ _)); exact BK350.out)) : gb368 ≠ gb350)); have n17_ := Aside0.mk ((by rw [hg]; exact Nat.ne_of_lt (blk_lt (g := gb351) (o := .cells #[.int .u64 t348, .int .i64 t349] 24 (0, 0)) (by (with_reducible repeat (first | refine blk_drewN ?_ _ | refine blk_drew ?_ | refine blk_alloc ?_ _)); exact BK351.out)) : gb351 ≠ gb368)); have n18_ := Aside0.mk ((by rw [hg]; exact Nat.ne_of_gt (blk_lt (g := gb351) (o := .cells #[.int .u64 t348, .int .i64 t349] 24 (0, 0)) (by (with_reducible repeat (first | refine blk_drewN ?_ _ | refine blk_drew ?_ | refine blk_alloc ?_ _)); exact BK351.out)) : gb368 ≠ gb351)); have n19_ := Aside0.mk ((by rw [hg]; exact Nat.ne_of_lt (blk_lt (g := gb355) (o := .cells #[.int .u64 t352, .int .i64 t353] 24 (0, 0)) (by (with_reducible repeat (first | refine blk_drewN ?_ _ | refine blk_drew ?_ | refine blk_alloc ?_ _)); exact BK355.out)) : gb355 ≠ gb368)); have n20_ := Aside0.mk ((by rw [hg]; exact Nat.ne_of_gt (blk_lt (g := gb355) (o := .cells #[.int .u64 t352, .int .i64 t353] 24 (0, 0)) (by (with_reducible repeat (first | refine blk_drewN ?_ _ | refine blk_drew ?_ | refine blk_alloc ?_ _)); exact BK355.out)) : gb368 ≠ gb355)); have n21_ := Aside0.mk ((by rw [hg]; exact Nat.ne_of_lt (blk_lt (g := gb359) (o := .cells #[.int .u64 t356, .int .i64 t357] 24 (0, 0)) (by (with_reducible repeat (first | refine blk_drewN ?_ _ | refine blk_drew ?_ | refine blk_alloc ?_ _)); exact BK359.out)) : gb359 ≠ gb368)); have n22_ := Aside0.mk ((by rw [hg]; exact Nat.ne_of_gt (blk_lt (g := gb359) (o := .cells #[.int .u64 t356, .int .i64 t357] 24 (0, 0)) (by (with_reducible repeat (first | refine blk_drewN ?_ _ | refine blk_drew ?_ | refine blk_alloc ?_ _)); exact BK359.out)) : gb368 ≠ gb359)); have n23_ := Aside0.mk ((by rw [hg]; exact Nat.ne_of_lt (blk_lt (g := gb364) (o := .cells #[.int .u64 t361, .int .i64 t362] 24 (0, 0)) (by (with_reducible repeat (first | refine blk_drewN ?_ _ | refine blk_drew ?_ | refine blk_alloc ?_ _)); exact BK364.out)) : gb364 ≠ gb368)); have n24_ := Aside0.mk ((by rw [hg]; exact Nat.ne_of_gt (blk_lt (g := gb364) (o := .cells #[.int .u64 t361, .int .i64 t362] 24 (0, 0)) (by (with_reducible repeat (first | refine blk_drewN ?_ _ | refine blk_drew ?_ | refine blk_alloc ?_ _)); exact BK364.out)) : gb368 ≠ gb364)); clear BK344; clear BK345; clear BK350; clear BK351; clear BK355; clear BK359; clear BK364; clear HB; have BK344 := n0_; have BK345 := n1_; have BK350 := n2_; have BK351 := n3_; have BK355 := n4_; have BK359 := n5_; have BK364 := n6_; have HB := n7_; have BK368 := n8_; have GW368 := n9_; have GE368 := n10_; have NB344_368 := n11_; have NB368_344 := n12_; have NB345_368 := n13_; have NB368_345 := n14_; have NB350_368 := n15_; have NB368_350 := n16_; have NB351_368 := n17_; have NB368_351 := n18_; have NB355_368 := n19_; have NB368_355 := n20_; have NB359_368 := n21_; have NB368_359 := n22_; have NB364_368 := n23_; have NB368_364 := n24_; clear n0_ n1_ n2_ n3_ n4_ n5_ n6_ n7_ n8_ n9_ n10_ n11_ n12_ n13_ n14_ n15_ n16_ n17_ n18_ n19_ n20_ n21_ n22_ n23_ n24_; clear hb hbox hg; have hnb102 := NB368_344.out; have hnc102 := NB344_368.out; have hnb103 := NB368_345.out; have hnc103 := NB345_368.out; have hnb104 := NB368_350.out; have hnc104 := NB350_368.out; have hnb105 := NB368_351.out; have hnc105 := NB351_368.out; have hnb106 := NB368_355.out; have hnc106 := NB355_368.out; have hnb107 := NB368_359.out; have hnc107 := NB359_368.out; have hnb108 := NB368_364.out; have hnc108 := NB364_368.out; have hcz109_0 : w101.cell? ⟨gb368, 0, none⟩ = some (.int .u64 0) := (blk_cell BK368.out 0).trans rfl; have hcz109_1 : w101.cell? ⟨gb368, 1, none⟩ = some (.int .i64 0) := (blk_cell BK368.out 1).trans rfl; have hfz109_0 := blk_frozen BK368.out 0; have hfz109_1 := blk_frozen BK368.out 1; have hcz110_0 : w101.cell? ⟨gb351, 0, none⟩ = some (.int .u64 t348) := (blk_cell BK351.out 0).trans rfl; have hcz110_1 : w101.cell? ⟨gb351, 1, none⟩ = some (.int .i64 t349) := (blk_cell BK351.out 1).trans rfl; have hfz110_0 := blk_frozen BK351.out 0; have hfz110_1 := blk_frozen BK351.out 1))
              go_ret
              exact ⟨by first | rfl | (simp [errW_none, errW_some] <;> rfl) | (simp [*, errW_none, errW_some] <;> rfl), by repeat (first | (with_reducible first | exact HB.out | apply below_alloc | apply pw_below_drewN | apply below_drew1 | refine below_set ?_ GE344.out | refine below_set ?_ GE345.out | refine below_set ?_ GE350.out | refine below_set ?_ GE351.out | refine below_set ?_ GE355.out | refine below_set ?_ GE359.out | refine below_set ?_ GE364.out | refine below_set ?_ GE368.out) | exact HB.out)⟩
            · rw [if_neg c78] at H
              have c78b0 : (t367 == 0) = false := beq_eq_false_iff_ne.mpr c78
              have c78b1 : (t367 != 0) = true := bne_iff_ne.mpr c78
              exact absurd ((Option.some.inj H).trans HRT.out) (by decide)
          · rw [if_neg c77] at H
            have c77b0 : (t363 == 0) = false := beq_eq_false_iff_ne.mpr c77
            have c77b1 : (t363 != 0) = true := bne_iff_ne.mpr c77
            exact absurd ((Option.some.inj H).trans HRT.out) (by decide)

end Go.Proofs.Ytbjadpeolkpmcaa.P
