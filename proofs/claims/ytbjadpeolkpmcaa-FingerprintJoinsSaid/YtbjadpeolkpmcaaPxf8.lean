-- Printed by a program (pr.py over the kit's print) out of the translation.
import Derived.Test.YtbjadpeolkpmcaaPx0
import Derived.Test.YtbjadpeolkpmcaaPxe24
import Derived.Test.YtbjadpeolkpmcaaPxf17
import Derived.Test.YtbjadpeolkpmcaaPxf18
import Derived.Test.YtbjadpeolkpmcaaPxf26
import Derived.Test.YtbjadpeolkpmcaaPxf27
namespace Go.Proofs.Ytbjadpeolkpmcaa.P
open Go.RowKit Go.Proofs.YtbjadpeolkpmcaaW.PrintWords Go.Proofs.YtbjadpeolkpmcaaW.PrintLast Go.Proofs.YtbjadpeolkpmcaaW.PrintMore
attribute [local go_sem] max2_int min2_int max_two min_two max_three min_three max_four min_four   -- for this text's walks alone
set_option linter.unusedVariables false
set_option linter.unusedSimpArgs false

attribute [local go_sem high] eqA24
/-! ### stockyardlaw22_FingerprintJoins: function 8 -/
def stockyardlaw22_FingerprintJoins.f (k : Nat) (a0_0 : Int) (a0_1 : Int) (a1_0 : Int) (a1_1 : Int) : Option (Bool) := (fingerprint_Join.f k a0_0 a0_1 a1_0 a1_1).bind fun bt185 => ((stockyardref22_Join.f k a0_0 a0_1 a1_0 a1_1).bind fun bt189 => ((stockyardlaw22_made.f a0_0 a0_1 1048576).bind fun bt193 => ((stockyardlaw22_made.f a1_0 a1_1 1048576).bind fun bt195 => ((fingerprint_Join.f k bt193.1 bt193.2 bt195.1 bt195.2).bind fun bt199 => ((stockyardref22_Join.f k bt193.1 bt193.2 bt195.1 bt195.2).bind fun bt203 => ((stockyardlaw22_known.f k).bind fun t207 => (if t207 = true then (if (bt185.1 == bt189.1 && (bt185.2.1 == bt189.2.1)) = true then (if bt185.2.2 = bt189.2.2 then (if (bt199.1 == bt203.1 && (bt199.2.1 == bt203.2.1)) = true then (some (bt199.2.2 == bt203.2.2)) else (some false)) else (some false)) else (some false)) else (some false))))))))
theorem stockyardlaw22_FingerprintJoins.mono : ∀ a0 a1 a2 a3 k, LeO (stockyardlaw22_FingerprintJoins.f k a0 a1 a2 a3) (stockyardlaw22_FingerprintJoins.f (k + 1) a0 a1 a2 a3) := by
  intro a0 a1 a2 a3 k
  unfold stockyardlaw22_FingerprintJoins.f
  repeat' first
      | (with_reducible exact fingerprint_Join.mono _ _ _ _ _)
      | (with_reducible exact stockyardlaw22_known.mono _)
      | (with_reducible exact stockyardref22_Join.mono _ _ _ _ _)
      | (with_reducible exact LeO.refl _)
      | (with_reducible exact LeO.none _)
      | (with_reducible refine LeO.ite ?_ ?_)
      | (with_reducible refine LeO.bind ?_ (fun _ => ?_))
      | exact fingerprint_Join.mono _ _ _ _ _
      | exact stockyardlaw22_known.mono _
      | exact stockyardref22_Join.mono _ _ _ _ _
      | exact LeO.none _
      | refine LeO.ite ?_ ?_
      | refine LeO.bind ?_ (fun _ => ?_)
def stockyardlaw22_FingerprintJoins.T3 : Bool × List (List Nat × List Nat) := (true, [([], []), ([0], [0]), ([], []), ([2], [2]), ([1, 3], [1, 3]), ([], []), ([5], [5]), ([], []), ([7], [7]), ([6, 8, 4], [6, 8]), ([], []), ([], []), ([10, 4, 9, 0, 1, 2, 3, 4, 10, 11], [4, 10]), ([11, 9, 12, 0, 1, 2, 3, 4, 5, 6, 7, 8, 9, 10, 11, 12], [9, 11])])
def stockyardlaw22_FingerprintJoins.B3 : List Nat := [0, 1, 0, 4, 15, 0, 32, 0, 128, 511, 0, 0, 4095, 8191]
theorem stockyardlaw22_FingerprintJoins.tab3 : rtab .any (opsOf Try.f8 3) = stockyardlaw22_FingerprintJoins.T3 := by kernel_rfl
theorem stockyardlaw22_FingerprintJoins.bits3 : waitsOk stockyardlaw22_FingerprintJoins.T3.2 stockyardlaw22_FingerprintJoins.B3 = true := by kernel_rfl
set_option maxHeartbeats 8000000 in
set_option maxRecDepth 100000 in
theorem stockyardlaw22_FingerprintJoins.calls (k : Nat) (a0_0 : Int) (a0_1 : Int) (a1_0 : Int) (a1_1 : Int) (r : Bool) (w : World) (h : stockyardlaw22_FingerprintJoins.f k a0_0 a0_1 a1_0 a1_1 = some r) (hrt : r = true) :
    Calls Try.prog 8 #[.agg #[.int .u64 a0_0, .int .i64 a0_1], .agg #[.int .u64 a1_0, .int .i64 a1_1]] w fun e w' => e = .returned (.bool r) ∧ Below w.heap.size w w' := by
  have HRT := Aside0.mk hrt
  clear hrt
  have hu24 := Try.underlying24
  have HB := Aside0.mk (Below.refl w.heap.size w)
  have H : ((fingerprint_Join.f k a0_0 a0_1 a1_0 a1_1).bind fun bt185 => ((stockyardref22_Join.f k a0_0 a0_1 a1_0 a1_1).bind fun bt189 => ((stockyardlaw22_made.f a0_0 a0_1 1048576).bind fun bt193 => ((stockyardlaw22_made.f a1_0 a1_1 1048576).bind fun bt195 => ((fingerprint_Join.f k bt193.1 bt193.2 bt195.1 bt195.2).bind fun bt199 => ((stockyardref22_Join.f k bt193.1 bt193.2 bt195.1 bt195.2).bind fun bt203 => ((stockyardlaw22_known.f k).bind fun t207 => (if t207 = true then (if (bt185.1 == bt189.1 && (bt185.2.1 == bt189.2.1)) = true then (if bt185.2.2 = bt189.2.2 then (if (bt199.1 == bt203.1 && (bt199.2.1 == bt203.2.1)) = true then (some (bt199.2.2 == bt203.2.2)) else (some false)) else (some false)) else (some false)) else (some false))))))))) = some r := h
  clear h
  replace H := Option.bind_eq_some_iff.mp H
  obtain ⟨⟨t185, t186, t187⟩, A30, H⟩ := H
  replace H : ((stockyardref22_Join.f k a0_0 a0_1 a1_0 a1_1).bind fun bt189 => ((stockyardlaw22_made.f a0_0 a0_1 1048576).bind fun bt193 => ((stockyardlaw22_made.f a1_0 a1_1 1048576).bind fun bt195 => ((fingerprint_Join.f k bt193.1 bt193.2 bt195.1 bt195.2).bind fun bt199 => ((stockyardref22_Join.f k bt193.1 bt193.2 bt195.1 bt195.2).bind fun bt203 => ((stockyardlaw22_known.f k).bind fun t207 => (if t207 = true then (if (t185 == bt189.1 && (t186 == bt189.2.1)) = true then (if t187 = bt189.2.2 then (if (bt199.1 == bt203.1 && (bt199.2.1 == bt203.2.1)) = true then (some (bt199.2.2 == bt203.2.2)) else (some false)) else (some false)) else (some false)) else (some false)))))))) = some r := H
  have A3 := Aside0.mk A30
  clear A30
  replace H := Option.bind_eq_some_iff.mp H
  obtain ⟨⟨t189, t190, t191⟩, A40, H⟩ := H
  replace H : ((stockyardlaw22_made.f a0_0 a0_1 1048576).bind fun bt193 => ((stockyardlaw22_made.f a1_0 a1_1 1048576).bind fun bt195 => ((fingerprint_Join.f k bt193.1 bt193.2 bt195.1 bt195.2).bind fun bt199 => ((stockyardref22_Join.f k bt193.1 bt193.2 bt195.1 bt195.2).bind fun bt203 => ((stockyardlaw22_known.f k).bind fun t207 => (if t207 = true then (if (t185 == t189 && (t186 == t190)) = true then (if t187 = t191 then (if (bt199.1 == bt203.1 && (bt199.2.1 == bt203.2.1)) = true then (some (bt199.2.2 == bt203.2.2)) else (some false)) else (some false)) else (some false)) else (some false))))))) = some r := H
  have A4 := Aside0.mk A40
  clear A40
  replace H := Option.bind_eq_some_iff.mp H
  obtain ⟨⟨t193, t194⟩, A50, H⟩ := H
  replace H : ((stockyardlaw22_made.f a1_0 a1_1 1048576).bind fun bt195 => ((fingerprint_Join.f k t193 t194 bt195.1 bt195.2).bind fun bt199 => ((stockyardref22_Join.f k t193 t194 bt195.1 bt195.2).bind fun bt203 => ((stockyardlaw22_known.f k).bind fun t207 => (if t207 = true then (if (t185 == t189 && (t186 == t190)) = true then (if t187 = t191 then (if (bt199.1 == bt203.1 && (bt199.2.1 == bt203.2.1)) = true then (some (bt199.2.2 == bt203.2.2)) else (some false)) else (some false)) else (some false)) else (some false)))))) = some r := H
  have A5 := Aside0.mk A50
  clear A50
  replace H := Option.bind_eq_some_iff.mp H
  obtain ⟨⟨t195, t196⟩, A60, H⟩ := H
  replace H : ((fingerprint_Join.f k t193 t194 t195 t196).bind fun bt199 => ((stockyardref22_Join.f k t193 t194 t195 t196).bind fun bt203 => ((stockyardlaw22_known.f k).bind fun t207 => (if t207 = true then (if (t185 == t189 && (t186 == t190)) = true then (if t187 = t191 then (if (bt199.1 == bt203.1 && (bt199.2.1 == bt203.2.1)) = true then (some (bt199.2.2 == bt203.2.2)) else (some false)) else (some false)) else (some false)) else (some false))))) = some r := H
  have A6 := Aside0.mk A60
  clear A60
  replace H := Option.bind_eq_some_iff.mp H
  obtain ⟨⟨t199, t200, t201⟩, A70, H⟩ := H
  replace H : ((stockyardref22_Join.f k t193 t194 t195 t196).bind fun bt203 => ((stockyardlaw22_known.f k).bind fun t207 => (if t207 = true then (if (t185 == t189 && (t186 == t190)) = true then (if t187 = t191 then (if (t199 == bt203.1 && (t200 == bt203.2.1)) = true then (some (t201 == bt203.2.2)) else (some false)) else (some false)) else (some false)) else (some false)))) = some r := H
  have A7 := Aside0.mk A70
  clear A70
  replace H := Option.bind_eq_some_iff.mp H
  obtain ⟨⟨t203, t204, t205⟩, A80, H⟩ := H
  replace H : ((stockyardlaw22_known.f k).bind fun t207 => (if t207 = true then (if (t185 == t189 && (t186 == t190)) = true then (if t187 = t191 then (if (t199 == t203 && (t200 == t204)) = true then (some (t201 == t205)) else (some false)) else (some false)) else (some false)) else (some false))) = some r := H
  have A8 := Aside0.mk A80
  clear A80
  replace H := Option.bind_eq_some_iff.mp H
  obtain ⟨t207, A90, H⟩ := H
  replace H : (if t207 = true then (if (t185 == t189 && (t186 == t190)) = true then (if t187 = t191 then (if (t199 == t203 && (t200 == t204)) = true then (some (t201 == t205)) else (some false)) else (some false)) else (some false)) else (some false)) = some r := H
  have A9 := Aside0.mk A90
  clear A90
  by_cases c10 : t207 = true
  · subst c10
    have H1 : (if (t185 == t189 && (t186 == t190)) = true then (if t187 = t191 then (if (t199 == t203 && (t200 == t204)) = true then (some (t201 == t205)) else (some false)) else (some false)) else (some false)) = some r := by rw [if_pos rfl] at H; exact H
    clear H
    have H := H1
    clear H1
    by_cases c11 : (t185 == t189 && (t186 == t190)) = true
    · rw [if_pos c11] at H
      have c11b0 : (t185 == t189 && (t186 == t190)) = true := c11
      (try (have c11b1 : decide (t185 = t189 && (t186 == t190)) = true := by simpa using c11))
      (try (have c11b2 : (t185 == t189 && (t186 == t190)) = true := by simpa using c11))
      clear c11
      by_cases c12 : t187 = t191
      · rw [if_pos c12] at H
        have c12b0 : (t187 == t191) = true := beq_iff_eq.mpr c12
        have c12b1 : (t187 != t191) = false := bne_eq_false_iff_eq.mpr c12
        clear c12
        by_cases c13 : (t199 == t203 && (t200 == t204)) = true
        · rw [if_pos c13] at H
          have c13b0 : (t199 == t203 && (t200 == t204)) = true := c13
          (try (have c13b1 : decide (t199 = t203 && (t200 == t204)) = true := by simpa using c13))
          (try (have c13b2 : (t199 == t203 && (t200 == t204)) = true := by simpa using c13))
          clear c13
          obtain rfl := Option.some.inj H
          go_enter Try.func8, Try.ntmps8
          try go_wp2_with (first | ((with_reducible refine gate_dst (N := 2) rfl ?_); refine box_event ?hg (N := 2) ?hd (cs := #[.int .u64 a0_0, .int .i64 a0_1]) (t := 24) ?hr ?_; (case hd => rfl); (case hg => rfl); (case hr => first | (go_simp; done) | (go_simp; rfl)); intro gb183 hg w14 hbox hb; have n0_ := Aside0.mk (below_step (by repeat (first | (with_reducible first | exact HB.out | apply below_alloc | apply pw_below_drewN | apply below_drew1) | exact HB.out)) hb); have n1_ := Aside0.mk (hbox); have n2_ := Aside0.mk ((by rw [hg]; exact (below_size (by repeat (first | (with_reducible first | exact HB.out | apply below_alloc | apply pw_below_drewN | apply below_drew1) | exact HB.out))) : w.heap.size ≤ gb183)); have n3_ := Aside0.mk ((by rw [hg]; exact (below_size (by repeat (first | (with_reducible first | exact HB.out | apply below_alloc | apply pw_below_drewN | apply below_drew1) | exact HB.out))) : w.heap.size ≤ gb183)); clear HB; have HB := n0_; have BK183 := n1_; have GW183 := n2_; have GE183 := n3_; clear n0_ n1_ n2_ n3_; clear hb hbox hg) | ((with_reducible refine gate_dst (N := 3) rfl ?_); refine box_event ?hg (N := 3) ?hd (cs := #[.int .u64 a1_0, .int .i64 a1_1]) (t := 24) ?hr ?_; (case hd => rfl); (case hg => rfl); (case hr => first | (go_simp; done) | (go_simp; rfl)); intro gb184 hg w15 hbox hb; have n0_ := Aside0.mk (blk_below (g := gb183) (o := .cells #[.int .u64 a0_0, .int .i64 a0_1] 24 (0, 0)) (by (with_reducible repeat (first | refine blk_drewN ?_ _ | refine blk_drew ?_ | refine blk_alloc ?_ _)); exact BK183.out) hb); have n1_ := Aside0.mk (below_step (by repeat (first | (with_reducible first | exact HB.out | apply below_alloc | apply pw_below_drewN | apply below_drew1 | refine below_set ?_ GE183.out) | exact HB.out)) hb); have n2_ := Aside0.mk (hbox); have n3_ := Aside0.mk ((by rw [hg]; exact (below_size (by repeat (first | (with_reducible first | exact HB.out | apply below_alloc | apply pw_below_drewN | apply below_drew1 | refine below_set ?_ GE183.out) | exact HB.out))) : w.heap.size ≤ gb184)); have n4_ := Aside0.mk ((by rw [hg]; exact (below_size (by repeat (first | (with_reducible first | exact HB.out | apply below_alloc | apply pw_below_drewN | apply below_drew1 | refine below_set ?_ GE183.out) | exact HB.out))) : w.heap.size ≤ gb184)); have n5_ := Aside0.mk ((by rw [hg]; exact Nat.ne_of_lt (blk_lt (g := gb183) (o := .cells #[.int .u64 a0_0, .int .i64 a0_1] 24 (0, 0)) (by (with_reducible repeat (first | refine blk_drewN ?_ _ | refine blk_drew ?_ | refine blk_alloc ?_ _)); exact BK183.out)) : gb183 ≠ gb184)); have n6_ := Aside0.mk ((by rw [hg]; exact Nat.ne_of_gt (blk_lt (g := gb183) (o := .cells #[.int .u64 a0_0, .int .i64 a0_1] 24 (0, 0)) (by (with_reducible repeat (first | refine blk_drewN ?_ _ | refine blk_drew ?_ | refine blk_alloc ?_ _)); exact BK183.out)) : gb184 ≠ gb183)); clear BK183; clear HB; have BK183 := n0_; have HB := n1_; have BK184 := n2_; have GW184 := n3_; have GE184 := n4_; have NB183_184 := n5_; have NB184_183 := n6_; clear n0_ n1_ n2_ n3_ n4_ n5_ n6_; clear hb hbox hg; have hnb16 := NB183_184.out; have hnc16 := NB184_183.out; have hcz17_0 : w15.cell? ⟨gb183, 0, none⟩ = some (.int .u64 a0_0) := (blk_cell BK183.out 0).trans rfl; have hcz17_1 : w15.cell? ⟨gb183, 1, none⟩ = some (.int .i64 a0_1) := (blk_cell BK183.out 1).trans rfl; have hfz17_0 := blk_frozen BK183.out 0; have hfz17_1 := blk_frozen BK183.out 1; have hcz18_0 : w15.cell? ⟨gb184, 0, none⟩ = some (.int .u64 a1_0) := (blk_cell BK184.out 0).trans rfl; have hcz18_1 : w15.cell? ⟨gb184, 1, none⟩ = some (.int .i64 a1_1) := (blk_cell BK184.out 1).trans rfl; have hfz18_0 := blk_frozen BK184.out 0; have hfz18_1 := blk_frozen BK184.out 1) | ((with_reducible refine gate_callee (f := 26) rfl ?_); refine goesL_ (some 18) rfl rfl Try.func26 (by kernel_rfl) rfl #[.agg #[.int .u64 a0_0, .int .i64 a0_1], .agg #[.int .u64 a1_0, .int .i64 a1_1]] rfl (by (try simp only [List.map_toArray, List.map_cons, List.map_nil]); first | done | rfl | (simp only [List.length_drop, List.length_take]; rfl)) ?_; (with_reducible refine (fingerprint_Join.calls k a0_0 a0_1 a1_0 a1_1 t185 t186 t187 _ A3.out).mono ?_); rintro e w19 ⟨rfl, hb⟩; refine ⟨_, rfl, ?_⟩; have n0_ := Aside0.mk (blk_below (g := gb183) (o := .cells #[.int .u64 a0_0, .int .i64 a0_1] 24 (0, 0)) (by (with_reducible repeat (first | refine blk_drewN ?_ _ | refine blk_drew ?_ | refine blk_alloc ?_ _)); exact BK183.out) hb); have n1_ := Aside0.mk (blk_below (g := gb184) (o := .cells #[.int .u64 a1_0, .int .i64 a1_1] 24 (0, 0)) (by (with_reducible repeat (first | refine blk_drewN ?_ _ | refine blk_drew ?_ | refine blk_alloc ?_ _)); exact BK184.out) hb); have n2_ := Aside0.mk (below_step (by repeat (first | (with_reducible first | exact HB.out | apply below_alloc | apply pw_below_drewN | apply below_drew1 | refine below_set ?_ GE183.out | refine below_set ?_ GE184.out) | exact HB.out)) hb); clear BK183; clear BK184; clear HB; have BK183 := n0_; have BK184 := n1_; have HB := n2_; clear n0_ n1_ n2_; (try clear hb); (try clear hb2); (try clear hk); (try clear hi)) | ((with_reducible refine gate_dst (N := 5) rfl ?_); refine box_event ?hg (N := 5) ?hd (cs := #[.int .u64 0, .int .i64 0]) (t := 24) ?hr ?_; (case hd => rfl); (case hg => rfl); (case hr => first | (go_simp; done) | (go_simp; rfl)); intro gb188 hg w20 hbox hb; have n0_ := Aside0.mk (blk_below (g := gb183) (o := .cells #[.int .u64 a0_0, .int .i64 a0_1] 24 (0, 0)) (by (with_reducible repeat (first | refine blk_drewN ?_ _ | refine blk_drew ?_ | refine blk_alloc ?_ _)); exact BK183.out) hb); have n1_ := Aside0.mk (blk_below (g := gb184) (o := .cells #[.int .u64 a1_0, .int .i64 a1_1] 24 (0, 0)) (by (with_reducible repeat (first | refine blk_drewN ?_ _ | refine blk_drew ?_ | refine blk_alloc ?_ _)); exact BK184.out) hb); have n2_ := Aside0.mk (below_step (by repeat (first | (with_reducible first | exact HB.out | apply below_alloc | apply pw_below_drewN | apply below_drew1 | refine below_set ?_ GE183.out | refine below_set ?_ GE184.out) | exact HB.out)) hb); have n3_ := Aside0.mk (hbox); have n4_ := Aside0.mk ((by rw [hg]; exact (below_size (by repeat (first | (with_reducible first | exact HB.out | apply below_alloc | apply pw_below_drewN | apply below_drew1 | refine below_set ?_ GE183.out | refine below_set ?_ GE184.out) | exact HB.out))) : w.heap.size ≤ gb188)); have n5_ := Aside0.mk ((by rw [hg]; exact (below_size (by repeat (first | (with_reducible first | exact HB.out | apply below_alloc | apply pw_below_drewN | apply below_drew1 | refine below_set ?_ GE183.out | refine below_set ?_ GE184.out) | exact HB.out))) : w.heap.size ≤ gb188)); have n6_ := Aside0.mk ((by rw [hg]; exact Nat.ne_of_lt (blk_lt (g := gb183) (o := .cells #[.int .u64 a0_0, .int .i64 a0_1] 24 (0, 0)) (by (with_reducible repeat (first | refine blk_drewN ?_ _ | refine blk_drew ?_ | refine blk_alloc ?_ _)); exact BK183.out)) : gb183 ≠ gb188)); have n7_ := Aside0.mk ((by rw [hg]; exact Nat.ne_of_gt (blk_lt (g := gb183) (o := .cells #[.int .u64 a0_0, .int .i64 a0_1] 24 (0, 0)) (by (with_reducible repeat (first | refine blk_drewN ?_ _ | refine blk_drew ?_ | refine blk_alloc ?_ _)); exact BK183.out)) : gb188 ≠ gb183)); have n8_ := Aside0.mk ((by rw [hg]; exact Nat.ne_of_lt (blk_lt (g := gb184) (o := .cells #[.int .u64 a1_0, .int .i64 a1_1] 24 (0, 0)) (by (with_reducible repeat (first | refine blk_drewN ?_ _ | refine blk_drew ?_ | refine blk_alloc ?_ _)); exact BK184.out)) : gb184 ≠ gb188)); have n9_ := Aside0.mk ((by rw [hg]; exact Nat.ne_of_gt (blk_lt (g := gb184) (o := .cells #[.int .u64 a1_0, .int .i64 a1_1] 24 (0, 0)) (by (with_reducible repeat (first | refine blk_drewN ?_ _ | refine blk_drew ?_ | refine blk_alloc ?_ _)); exact BK184.out)) : gb188 ≠ gb184)); clear BK183; clear BK184; clear HB; have BK183 := n0_; have BK184 := n1_; have HB := n2_; have BK188 := n3_; have GW188 := n4_; have GE188 := n5_; have NB183_188 := n6_; have NB188_183 := n7_; have NB184_188 := n8_; have NB188_184 := n9_; clear n0_ n1_ n2_ n3_ n4_ n5_ n6_ n7_ n8_ n9_; clear hb hbox hg; have hnb21 := NB188_183.out; have hnc21 := NB183_188.out; have hnb22 := NB188_184.out; have hnc22 := NB184_188.out; have hcz23_0 : w20.cell? ⟨gb188, 0, none⟩ = some (.int .u64 0) := (blk_cell BK188.out 0).trans rfl; have hcz23_1 : w20.cell? ⟨gb188, 1, none⟩ = some (.int .i64 0) := (blk_cell BK188.out 1).trans rfl; have hfz23_0 := blk_frozen BK188.out 0; have hfz23_1 := blk_frozen BK188.out 1; have hcz24_0 : w20.cell? ⟨gb183, 0, none⟩ = some (.int .u64 a0_0) := (blk_cell BK183.out 0).trans rfl; have hcz24_1 : w20.cell? ⟨gb183, 1, none⟩ = some (.int .i64 a0_1) := (blk_cell BK183.out 1).trans rfl; have hfz24_0 := blk_frozen BK183.out 0; have hfz24_1 := blk_frozen BK183.out 1; have hcz25_0 : w20.cell? ⟨gb184, 0, none⟩ = some (.int .u64 a1_0) := (blk_cell BK184.out 0).trans rfl; have hcz25_1 : w20.cell? ⟨gb184, 1, none⟩ = some (.int .i64 a1_1) := (blk_cell BK184.out 1).trans rfl; have hfz25_0 := blk_frozen BK184.out 0; have hfz25_1 := blk_frozen BK184.out 1) | ((with_reducible refine gate_callee (f := 27) rfl ?_); refine goesL_ (some 24) rfl rfl Try.func27 (by kernel_rfl) rfl #[.agg #[.int .u64 a0_0, .int .i64 a0_1], .agg #[.int .u64 a1_0, .int .i64 a1_1]] rfl (by (try simp only [List.map_toArray, List.map_cons, List.map_nil]); first | done | rfl | (simp only [List.length_drop, List.length_take]; rfl)) ?_; (with_reducible refine (stockyardref22_Join.calls k a0_0 a0_1 a1_0 a1_1 t189 t190 t191 _ A4.out).mono ?_); rintro e w26 ⟨rfl, hb⟩; refine ⟨_, rfl, ?_⟩; have n0_ := Aside0.mk (blk_below (g := gb183) (o := .cells #[.int .u64 a0_0, .int .i64 a0_1] 24 (0, 0)) (by (with_reducible repeat (first | refine blk_drewN ?_ _ | refine blk_drew ?_ | refine blk_alloc ?_ _)); refine blk_far ?_ NB183_188.out _; (with_reducible repeat (first | refine blk_drewN ?_ _ | refine blk_drew ?_ | refine blk_alloc ?_ _)); refine blk_far ?_ NB183_188.out _; (with_reducible repeat (first | refine blk_drewN ?_ _ | refine blk_drew ?_ | refine blk_alloc ?_ _)); exact BK183.out) hb); have n1_ := Aside0.mk (blk_below (g := gb184) (o := .cells #[.int .u64 a1_0, .int .i64 a1_1] 24 (0, 0)) (by (with_reducible repeat (first | refine blk_drewN ?_ _ | refine blk_drew ?_ | refine blk_alloc ?_ _)); refine blk_far ?_ NB184_188.out _; (with_reducible repeat (first | refine blk_drewN ?_ _ | refine blk_drew ?_ | refine blk_alloc ?_ _)); refine blk_far ?_ NB184_188.out _; (with_reducible repeat (first | refine blk_drewN ?_ _ | refine blk_drew ?_ | refine blk_alloc ?_ _)); exact BK184.out) hb); have n2_ := Aside0.mk (blk_below (g := gb188) (o := .cells #[.int .u64 t185, .int .i64 t186] 24 (0, 0)) (by (with_reducible repeat (first | refine blk_drewN ?_ _ | refine blk_drew ?_ | refine blk_alloc ?_ _)); refine blk_put (cs := #[.int .u64 t185, .int .i64 0]) ?_ 1 _ rfl; (with_reducible repeat (first | refine blk_drewN ?_ _ | refine blk_drew ?_ | refine blk_alloc ?_ _)); refine blk_put (cs := #[.int .u64 0, .int .i64 0]) ?_ 0 _ rfl; (with_reducible repeat (first | refine blk_drewN ?_ _ | refine blk_drew ?_ | refine blk_alloc ?_ _)); exact BK188.out) hb); have n3_ := Aside0.mk (below_step (by repeat (first | (with_reducible first | exact HB.out | apply below_alloc | apply pw_below_drewN | apply below_drew1 | refine below_set ?_ GE183.out | refine below_set ?_ GE184.out | refine below_set ?_ GE188.out) | exact HB.out)) hb); clear BK183; clear BK184; clear BK188; clear HB; have BK183 := n0_; have BK184 := n1_; have BK188 := n2_; have HB := n3_; clear n0_ n1_ n2_ n3_; (try clear hb); (try clear hb2); (try clear hk); (try clear hi)) | ((with_reducible refine gate_dst (N := 7) rfl ?_); refine box_event ?hg (N := 7) ?hd (cs := #[.int .u64 0, .int .i64 0]) (t := 24) ?hr ?_; (case hd => rfl); (case hg => rfl); (case hr => first | (go_simp; done) | (go_simp; rfl)); intro gb192 hg w27 hbox hb; have n0_ := Aside0.mk (blk_below (g := gb183) (o := .cells #[.int .u64 a0_0, .int .i64 a0_1] 24 (0, 0)) (by (with_reducible repeat (first | refine blk_drewN ?_ _ | refine blk_drew ?_ | refine blk_alloc ?_ _)); exact BK183.out) hb); have n1_ := Aside0.mk (blk_below (g := gb184) (o := .cells #[.int .u64 a1_0, .int .i64 a1_1] 24 (0, 0)) (by (with_reducible repeat (first | refine blk_drewN ?_ _ | refine blk_drew ?_ | refine blk_alloc ?_ _)); exact BK184.out) hb); have n2_ := Aside0.mk (blk_below (g := gb188) (o := .cells #[.int .u64 t185, .int .i64 t186] 24 (0, 0)) (by (with_reducible repeat (first | refine blk_drewN ?_ _ | refine blk_drew ?_ | refine blk_alloc ?_ _)); exact BK188.out) hb); have n3_ := Aside0.mk (below_step (by repeat (first | (with_reducible first | exact HB.out | apply below_alloc | apply pw_below_drewN | apply below_drew1 | refine below_set ?_ GE183.out | refine below_set ?_ GE184.out | refine below_set ?_ GE188.out) | exact HB.out)) hb); have n4_ := Aside0.mk (hbox); have n5_ := Aside0.mk ((by rw [hg]; exact (below_size (by repeat (first | (with_reducible first | exact HB.out | apply below_alloc | apply pw_below_drewN | apply below_drew1 | refine below_set ?_ GE183.out | refine below_set ?_ GE184.out | refine below_set ?_ GE188.out) | exact HB.out))) : w.heap.size ≤ gb192)); have n6_ := Aside0.mk ((by rw [hg]; exact (below_size (by repeat (first | (with_reducible first | exact HB.out | apply below_alloc | apply pw_below_drewN | apply below_drew1 | refine below_set ?_ GE183.out | refine below_set ?_ GE184.out | refine below_set ?_ GE188.out) | exact HB.out))) : w.heap.size ≤ gb192)); have n7_ := Aside0.mk ((by rw [hg]; exact Nat.ne_of_lt (blk_lt (g := gb183) (o := .cells #[.int .u64 a0_0, .int .i64 a0_1] 24 (0, 0)) (by (with_reducible repeat (first | refine blk_drewN ?_ _ | refine blk_drew ?_ | refine blk_alloc ?_ _)); exact BK183.out)) : gb183 ≠ gb192)); have n8_ := Aside0.mk ((by rw [hg]; exact Nat.ne_of_gt (blk_lt (g := gb183) (o := .cells #[.int .u64 a0_0, .int .i64 a0_1] 24 (0, 0)) (by (with_reducible repeat (first | refine blk_drewN ?_ _ | refine blk_drew ?_ | refine blk_alloc ?_ _)); exact BK183.out)) : gb192 ≠ gb183)); have n9_ := Aside0.mk ((by rw [hg]; exact Nat.ne_of_lt (blk_lt (g := gb184) (o := .cells #[.int .u64 a1_0, .int .i64 a1_1] 24 (0, 0)) (by (with_reducible repeat (first | refine blk_drewN ?_ _ | refine blk_drew ?_ | refine blk_alloc ?_ _)); exact BK184.out)) : gb184 ≠ gb192)); have n10_ := Aside0.mk ((by rw [hg]; exact Nat.ne_of_gt (blk_lt (g := gb184) (o := .cells #[.int .u64 a1_0, .int .i64 a1_1] 24 (0, 0)) (by (with_reducible repeat (first | refine blk_drewN ?_ _ | refine blk_drew ?_ | refine blk_alloc ?_ _)); exact BK184.out)) : gb192 ≠ gb184)); have n11_ := Aside0.mk ((by rw [hg]; exact Nat.ne_of_lt (blk_lt (g := gb188) (o := .cells #[.int .u64 t185, .int .i64 t186] 24 (0, 0)) (by (with_reducible repeat (first | refine blk_drewN ?_ _ | refine blk_drew ?_ | refine blk_alloc ?_ _)); exact BK188.out)) : gb188 ≠ gb192)); have n12_ := Aside0.mk ((by rw [hg]; exact Nat.ne_of_gt (blk_lt (g := gb188) (o := .cells #[.int .u64 t185, .int .i64 t186] 24 (0, 0)) (by (with_reducible repeat (first | refine blk_drewN ?_ _ | refine blk_drew ?_ | refine blk_alloc ?_ _)); exact BK188.out)) : gb192 ≠ gb188)); clear BK183; clear BK184; clear BK188; clear HB; have BK183 := n0_; have BK184 := n1_; have BK188 := n2_; have HB := n3_; have BK192 := n4_; have GW192 := n5_; have GE192 := n6_; have NB183_192 := n7_; have NB192_183 := n8_; have NB184_192 := n9_; have NB192_184 := n10_; have NB188_192 := n11_; have NB192_188 := n12_; clear n0_ n1_ n2_ n3_ n4_ n5_ n6_ n7_ n8_ n9_ n10_ n11_ n12_; clear hb hbox hg; have hnb28 := NB192_183.out; have hnc28 := NB183_192.out; have hnb29 := NB192_184.out; have hnc29 := NB184_192.out; have hnb30 := NB192_188.out; have hnc30 := NB188_192.out; have hcz31_0 : w27.cell? ⟨gb192, 0, none⟩ = some (.int .u64 0) := (blk_cell BK192.out 0).trans rfl; have hcz31_1 : w27.cell? ⟨gb192, 1, none⟩ = some (.int .i64 0) := (blk_cell BK192.out 1).trans rfl; have hfz31_0 := blk_frozen BK192.out 0; have hfz31_1 := blk_frozen BK192.out 1))
          have n0_ : Aside0 (((w27.setCell ⟨gb192, 0, none⟩ (.int .u64 t189)).setCell ⟨gb192, 1, none⟩ (.int .i64 t190)).heap[gb183]? = some (.cells #[.int .u64 a0_0, .int .i64 a0_1] 24 (0, 0))) := ⟨by (with_reducible repeat (first | refine blk_drewN ?_ _ | refine blk_drew ?_ | refine blk_alloc ?_ _)); refine blk_far ?_ NB183_192.out _; (with_reducible repeat (first | refine blk_drewN ?_ _ | refine blk_drew ?_ | refine blk_alloc ?_ _)); refine blk_far ?_ NB183_192.out _; (with_reducible repeat (first | refine blk_drewN ?_ _ | refine blk_drew ?_ | refine blk_alloc ?_ _)); exact BK183.out⟩
          have n1_ : Aside0 (((w27.setCell ⟨gb192, 0, none⟩ (.int .u64 t189)).setCell ⟨gb192, 1, none⟩ (.int .i64 t190)).heap[gb184]? = some (.cells #[.int .u64 a1_0, .int .i64 a1_1] 24 (0, 0))) := ⟨by (with_reducible repeat (first | refine blk_drewN ?_ _ | refine blk_drew ?_ | refine blk_alloc ?_ _)); refine blk_far ?_ NB184_192.out _; (with_reducible repeat (first | refine blk_drewN ?_ _ | refine blk_drew ?_ | refine blk_alloc ?_ _)); refine blk_far ?_ NB184_192.out _; (with_reducible repeat (first | refine blk_drewN ?_ _ | refine blk_drew ?_ | refine blk_alloc ?_ _)); exact BK184.out⟩
          have n2_ : Aside0 (((w27.setCell ⟨gb192, 0, none⟩ (.int .u64 t189)).setCell ⟨gb192, 1, none⟩ (.int .i64 t190)).heap[gb188]? = some (.cells #[.int .u64 t185, .int .i64 t186] 24 (0, 0))) := ⟨by (with_reducible repeat (first | refine blk_drewN ?_ _ | refine blk_drew ?_ | refine blk_alloc ?_ _)); refine blk_far ?_ NB188_192.out _; (with_reducible repeat (first | refine blk_drewN ?_ _ | refine blk_drew ?_ | refine blk_alloc ?_ _)); refine blk_far ?_ NB188_192.out _; (with_reducible repeat (first | refine blk_drewN ?_ _ | refine blk_drew ?_ | refine blk_alloc ?_ _)); exact BK188.out⟩
          have n3_ : Aside0 (((w27.setCell ⟨gb192, 0, none⟩ (.int .u64 t189)).setCell ⟨gb192, 1, none⟩ (.int .i64 t190)).heap[gb192]? = some (.cells #[.int .u64 t189, .int .i64 t190] 24 (0, 0))) := ⟨by (with_reducible repeat (first | refine blk_drewN ?_ _ | refine blk_drew ?_ | refine blk_alloc ?_ _)); refine blk_put (cs := #[.int .u64 t189, .int .i64 0]) ?_ 1 _ rfl; (with_reducible repeat (first | refine blk_drewN ?_ _ | refine blk_drew ?_ | refine blk_alloc ?_ _)); refine blk_put (cs := #[.int .u64 0, .int .i64 0]) ?_ 0 _ rfl; (with_reducible repeat (first | refine blk_drewN ?_ _ | refine blk_drew ?_ | refine blk_alloc ?_ _)); exact BK192.out⟩
          have n4_ : Aside0 (Below w.heap.size w ((w27.setCell ⟨gb192, 0, none⟩ (.int .u64 t189)).setCell ⟨gb192, 1, none⟩ (.int .i64 t190))) := ⟨by repeat (first | (with_reducible first | exact HB.out | apply below_alloc | apply pw_below_drewN | apply below_drew1 | refine below_set ?_ GE183.out | refine below_set ?_ GE184.out | refine below_set ?_ GE188.out | refine below_set ?_ GE192.out) | exact HB.out)⟩
          (try clear BK183)
          (try clear BK184)
          (try clear BK188)
          (try clear BK192)
          (try clear HB)
          generalize ((w27.setCell ⟨gb192, 0, none⟩ (.int .u64 t189)).setCell ⟨gb192, 1, none⟩ (.int .i64 t190)) = w32 at n0_ n1_ n2_ n3_ n4_ ⊢
          have BK183 := n0_
          have BK184 := n1_
          have BK188 := n2_
          have BK192 := n3_
          have HB := n4_
          clear n0_ n1_ n2_ n3_ n4_
          have n0_ := Aside0.mk (blk_drew BK183.out)
          have n1_ := Aside0.mk (blk_drew BK184.out)
          have n2_ := Aside0.mk (blk_drew BK188.out)
          have n3_ := Aside0.mk (blk_drew BK192.out)
          have n4_ := Aside0.mk (below_drew1 HB.out)
          clear BK183
          clear BK184
          clear BK188
          clear BK192
          clear HB
          have BK183 := n0_
          have BK184 := n1_
          have BK188 := n2_
          have BK192 := n3_
          have HB := n4_
          clear n0_ n1_ n2_ n3_ n4_
          refine start_ (n := 14) (S := fun w' => w'.cell? ⟨gb183, 0, none⟩ = some (.int .u64 a0_0) ∧ w'.cell? ⟨gb183, 1, none⟩ = some (.int .i64 a0_1) ∧ w'.cell? ⟨gb184, 0, none⟩ = some (.int .u64 a1_0) ∧ w'.cell? ⟨gb184, 1, none⟩ = some (.int .i64 a1_1)) (ds := []) #[false, false, false, false, false, false, false, false, false, false, false, false, false, false] (by kernel_rfl) rfl rfl ⟨(blk_cell BK183.out 0).trans rfl, (blk_cell BK183.out 1).trans rfl, (blk_cell BK184.out 0).trans rfl, (blk_cell BK184.out 1).trans rfl⟩ (fun hHeld => ?_); refine with_tabW stockyardlaw22_FingerprintJoins.tab3 stockyardlaw22_FingerprintJoins.bits3 (fun HT_ HW_ => ?_)
          generalize w32.drew = w33 at BK183 BK184 BK188 BK192 HB hHeld ⊢
          refine pure_ (i := 0) (N := some 27) (v := ?_) (a' := ?_) #[true, false, false, false, false, false, false, false, false, false, false, false, false, false] rfl rfl (any_of HT_.out (by kernel_rfl)) (fun _ _ _ h => h) (Or.inl ⟨by rfl, ?_⟩) ?_ ?_
          rotate_left
          · intro w'
            go_simp
            with_reducible rfl
          rotate_left
          · simp only [Act.put, List.setIfInBounds_toArray, List.set_cons_zero, List.set_cons_succ, i64_w, i32_w]
            rfl
          refine pure_ (i := 2) (N := some 29) (v := ?_) (a' := ?_) #[true, false, true, false, false, false, false, false, false, false, false, false, false, false] rfl rfl (any_of HT_.out (by kernel_rfl)) (fun _ _ _ h => h) (Or.inl ⟨by rfl, ?_⟩) ?_ ?_
          rotate_left
          · intro w'
            go_simp
            with_reducible rfl
          rotate_left
          · simp only [Act.put, List.setIfInBounds_toArray, List.set_cons_zero, List.set_cons_succ, i64_w, i32_w]
            rfl
          refine pure_ (i := 5) (N := some 32) (v := ?_) (a' := ?_) #[true, false, true, false, false, true, false, false, false, false, false, false, false, false] rfl rfl (any_of HT_.out (by kernel_rfl)) (fun _ _ _ h => h) (Or.inl ⟨by rfl, ?_⟩) ?_ ?_
          rotate_left
          · intro w'
            go_simp
            with_reducible rfl
          rotate_left
          · simp only [Act.put, List.setIfInBounds_toArray, List.set_cons_zero, List.set_cons_succ, i64_w, i32_w]
            rfl
          refine pure_ (i := 7) (N := some 34) (v := ?_) (a' := ?_) #[true, false, true, false, false, true, false, true, false, false, false, false, false, false] rfl rfl (any_of HT_.out (by kernel_rfl)) (fun _ _ _ h => h) (Or.inl ⟨by rfl, ?_⟩) ?_ ?_
          rotate_left
          · intro w'
            go_simp
            with_reducible rfl
          rotate_left
          · simp only [Act.put, List.setIfInBounds_toArray, List.set_cons_zero, List.set_cons_succ, i64_w, i32_w]
            rfl
          refine take_ (i := 1) (N := some 28) (v := ?_) (a' := ?_) #[true, true, true, false, false, true, false, true, false, false, false, false, false, false] rfl rfl (take_ofW HT_.out HW_.out (by kernel_rfl)) (fun _ _ _ h => h) (Or.inl ⟨by rfl, ?_⟩) hHeld ?_ ?_
          rotate_left
          · rintro w' ⟨s0, s1, s2, s3⟩
            go_simp
            with_reducible rfl
          rotate_left
          · simp only [Act.put, List.setIfInBounds_toArray, List.set_cons_zero, List.set_cons_succ, i64_w, i32_w]
            rfl
          refine take_ (i := 3) (N := some 30) (v := ?_) (a' := ?_) #[true, true, true, true, false, true, false, true, false, false, false, false, false, false] rfl rfl (take_ofW HT_.out HW_.out (by kernel_rfl)) (fun _ _ _ h => h) (Or.inl ⟨by rfl, ?_⟩) hHeld ?_ ?_
          rotate_left
          · rintro w' ⟨s0, s1, s2, s3⟩
            go_simp
            with_reducible rfl
          rotate_left
          · simp only [Act.put, List.setIfInBounds_toArray, List.set_cons_zero, List.set_cons_succ, i64_w, i32_w]
            rfl
          refine take_ (i := 6) (N := some 33) (v := ?_) (a' := ?_) #[true, true, true, true, false, true, true, true, false, false, false, false, false, false] rfl rfl (take_ofW HT_.out HW_.out (by kernel_rfl)) (fun _ _ _ h => h) (Or.inl ⟨by rfl, ?_⟩) hHeld ?_ ?_
          rotate_left
          · rintro w' ⟨s0, s1, s2, s3⟩
            go_simp
            with_reducible rfl
          rotate_left
          · simp only [Act.put, List.setIfInBounds_toArray, List.set_cons_zero, List.set_cons_succ, i64_w, i32_w]
            rfl
          refine take_ (i := 8) (N := some 35) (v := ?_) (a' := ?_) #[true, true, true, true, false, true, true, true, true, false, false, false, false, false] rfl rfl (take_ofW HT_.out HW_.out (by kernel_rfl)) (fun _ _ _ h => h) (Or.inl ⟨by rfl, ?_⟩) hHeld ?_ ?_
          rotate_left
          · rintro w' ⟨s0, s1, s2, s3⟩
            go_simp
            with_reducible rfl
          rotate_left
          · simp only [Act.put, List.setIfInBounds_toArray, List.set_cons_zero, List.set_cons_succ, i64_w, i32_w]
            rfl
          refine join_ (σ := Nat × Nat) 2 #[true, true, true, true, true, true, true, true, true, true, true, true, false, false] (fun s_ => [(31, .agg #[.int .u64 t193, .int .i64 t194]), (36, .agg #[.int .u64 t195, .int .i64 t196]), (9, .pointer (some ⟨s_.1, 0, none⟩)), (10, .pointer (some ⟨s_.2, 0, none⟩))]) (fun s_ w' => (w'.cell? ⟨gb183, 0, none⟩ = some (.int .u64 a0_0) ∧ w'.cell? ⟨gb183, 1, none⟩ = some (.int .i64 a0_1) ∧ w'.cell? ⟨gb184, 0, none⟩ = some (.int .u64 a1_0) ∧ w'.cell? ⟨gb184, 1, none⟩ = some (.int .i64 a1_1)) ∧ (w'.heap[gb183]? = some (.cells #[.int .u64 a0_0, .int .i64 a0_1] 24 (0, 0))) ∧ (w'.heap[gb184]? = some (.cells #[.int .u64 a1_0, .int .i64 a1_1] 24 (0, 0))) ∧ (w'.heap[gb188]? = some (.cells #[.int .u64 t185, .int .i64 t186] 24 (0, 0))) ∧ (w'.heap[gb192]? = some (.cells #[.int .u64 t189, .int .i64 t190] 24 (0, 0))) ∧ (w'.heap[s_.1]? = some (.cells #[.int .u64 0, .int .i64 0] 24 (0, 0))) ∧ (w'.heap[s_.2]? = some (.cells #[.int .u64 0, .int .i64 0] 24 (0, 0))) ∧ (w.heap.size ≤ s_.1) ∧ (w.heap.size ≤ s_.1) ∧ (gb183 ≠ s_.1) ∧ (s_.1 ≠ gb183) ∧ (gb184 ≠ s_.1) ∧ (s_.1 ≠ gb184) ∧ (gb188 ≠ s_.1) ∧ (s_.1 ≠ gb188) ∧ (gb192 ≠ s_.1) ∧ (s_.1 ≠ gb192) ∧ (s_.2 ≠ s_.1) ∧ (s_.1 ≠ s_.2) ∧ (w.heap.size ≤ s_.2) ∧ (w.heap.size ≤ s_.2) ∧ (gb183 ≠ s_.2) ∧ (s_.2 ≠ gb183) ∧ (gb184 ≠ s_.2) ∧ (s_.2 ≠ gb184) ∧ (gb188 ≠ s_.2) ∧ (s_.2 ≠ gb188) ∧ (gb192 ≠ s_.2) ∧ (s_.2 ≠ gb192) ∧ (Below w.heap.size w w')) ?_ ?_
          rotate_left
          · intro hJ4_9_10_11
            refine join_ (σ := Nat) 3 #[true, true, true, true, true, true, true, true, true, true, true, false, false, false] (fun s_ => [(31, .agg #[.int .u64 t193, .int .i64 t194]), (36, .agg #[.int .u64 t195, .int .i64 t196]), (9, .pointer (some ⟨s_, 0, none⟩))]) (fun s_ w' => (w'.cell? ⟨gb183, 0, none⟩ = some (.int .u64 a0_0) ∧ w'.cell? ⟨gb183, 1, none⟩ = some (.int .i64 a0_1) ∧ w'.cell? ⟨gb184, 0, none⟩ = some (.int .u64 a1_0) ∧ w'.cell? ⟨gb184, 1, none⟩ = some (.int .i64 a1_1)) ∧ (w'.heap[gb183]? = some (.cells #[.int .u64 a0_0, .int .i64 a0_1] 24 (0, 0))) ∧ (w'.heap[gb184]? = some (.cells #[.int .u64 a1_0, .int .i64 a1_1] 24 (0, 0))) ∧ (w'.heap[gb188]? = some (.cells #[.int .u64 t185, .int .i64 t186] 24 (0, 0))) ∧ (w'.heap[gb192]? = some (.cells #[.int .u64 t189, .int .i64 t190] 24 (0, 0))) ∧ (w'.heap[s_]? = some (.cells #[.int .u64 0, .int .i64 0] 24 (0, 0))) ∧ (w.heap.size ≤ s_) ∧ (w.heap.size ≤ s_) ∧ (gb183 ≠ s_) ∧ (s_ ≠ gb183) ∧ (gb184 ≠ s_) ∧ (s_ ≠ gb184) ∧ (gb188 ≠ s_) ∧ (s_ ≠ gb188) ∧ (gb192 ≠ s_) ∧ (s_ ≠ gb192) ∧ (Below w.heap.size w w')) ?_ ?_
            rotate_left
            · intro hJ4_9_10
              refine join_ (σ := Nat) 3 #[true, true, true, true, true, true, true, true, true, true, false, true, false, false] (fun s_ => [(31, .agg #[.int .u64 t193, .int .i64 t194]), (36, .agg #[.int .u64 t195, .int .i64 t196]), (10, .pointer (some ⟨s_, 0, none⟩))]) (fun s_ w' => (w'.cell? ⟨gb183, 0, none⟩ = some (.int .u64 a0_0) ∧ w'.cell? ⟨gb183, 1, none⟩ = some (.int .i64 a0_1) ∧ w'.cell? ⟨gb184, 0, none⟩ = some (.int .u64 a1_0) ∧ w'.cell? ⟨gb184, 1, none⟩ = some (.int .i64 a1_1)) ∧ (w'.heap[gb183]? = some (.cells #[.int .u64 a0_0, .int .i64 a0_1] 24 (0, 0))) ∧ (w'.heap[gb184]? = some (.cells #[.int .u64 a1_0, .int .i64 a1_1] 24 (0, 0))) ∧ (w'.heap[gb188]? = some (.cells #[.int .u64 t185, .int .i64 t186] 24 (0, 0))) ∧ (w'.heap[gb192]? = some (.cells #[.int .u64 t189, .int .i64 t190] 24 (0, 0))) ∧ (w'.heap[s_]? = some (.cells #[.int .u64 0, .int .i64 0] 24 (0, 0))) ∧ (w.heap.size ≤ s_) ∧ (w.heap.size ≤ s_) ∧ (gb183 ≠ s_) ∧ (s_ ≠ gb183) ∧ (gb184 ≠ s_) ∧ (s_ ≠ gb184) ∧ (gb188 ≠ s_) ∧ (s_ ≠ gb188) ∧ (gb192 ≠ s_) ∧ (s_ ≠ gb192) ∧ (Below w.heap.size w w')) ?_ ?_
              rotate_left
              · intro hJ4_9_11
                refine join_ (σ := Nat × Nat) 3 #[true, true, true, true, true, true, true, true, true, false, true, true, false, false] (fun s_ => [(31, .agg #[.int .u64 t193, .int .i64 t194]), (9, .pointer (some ⟨s_.1, 0, none⟩)), (10, .pointer (some ⟨s_.2, 0, none⟩))]) (fun s_ w' => (w'.cell? ⟨gb183, 0, none⟩ = some (.int .u64 a0_0) ∧ w'.cell? ⟨gb183, 1, none⟩ = some (.int .i64 a0_1) ∧ w'.cell? ⟨gb184, 0, none⟩ = some (.int .u64 a1_0) ∧ w'.cell? ⟨gb184, 1, none⟩ = some (.int .i64 a1_1)) ∧ (w'.heap[gb183]? = some (.cells #[.int .u64 a0_0, .int .i64 a0_1] 24 (0, 0))) ∧ (w'.heap[gb184]? = some (.cells #[.int .u64 a1_0, .int .i64 a1_1] 24 (0, 0))) ∧ (w'.heap[gb188]? = some (.cells #[.int .u64 t185, .int .i64 t186] 24 (0, 0))) ∧ (w'.heap[gb192]? = some (.cells #[.int .u64 t189, .int .i64 t190] 24 (0, 0))) ∧ (w'.heap[s_.1]? = some (.cells #[.int .u64 0, .int .i64 0] 24 (0, 0))) ∧ (w'.heap[s_.2]? = some (.cells #[.int .u64 0, .int .i64 0] 24 (0, 0))) ∧ (w.heap.size ≤ s_.1) ∧ (w.heap.size ≤ s_.1) ∧ (gb183 ≠ s_.1) ∧ (s_.1 ≠ gb183) ∧ (gb184 ≠ s_.1) ∧ (s_.1 ≠ gb184) ∧ (gb188 ≠ s_.1) ∧ (s_.1 ≠ gb188) ∧ (gb192 ≠ s_.1) ∧ (s_.1 ≠ gb192) ∧ (s_.2 ≠ s_.1) ∧ (s_.1 ≠ s_.2) ∧ (w.heap.size ≤ s_.2) ∧ (w.heap.size ≤ s_.2) ∧ (gb183 ≠ s_.2) ∧ (s_.2 ≠ gb183) ∧ (gb184 ≠ s_.2) ∧ (s_.2 ≠ gb184) ∧ (gb188 ≠ s_.2) ∧ (s_.2 ≠ gb188) ∧ (gb192 ≠ s_.2) ∧ (s_.2 ≠ gb192) ∧ (Below w.heap.size w w')) ?_ ?_
                rotate_left
                · intro hJ4_10_11
                  refine join_ (σ := Unit) 4 #[true, true, true, true, true, true, true, true, true, true, false, false, false, false] (fun s_ => [(31, .agg #[.int .u64 t193, .int .i64 t194]), (36, .agg #[.int .u64 t195, .int .i64 t196])]) (fun s_ w' => (w'.cell? ⟨gb183, 0, none⟩ = some (.int .u64 a0_0) ∧ w'.cell? ⟨gb183, 1, none⟩ = some (.int .i64 a0_1) ∧ w'.cell? ⟨gb184, 0, none⟩ = some (.int .u64 a1_0) ∧ w'.cell? ⟨gb184, 1, none⟩ = some (.int .i64 a1_1)) ∧ (w'.heap[gb183]? = some (.cells #[.int .u64 a0_0, .int .i64 a0_1] 24 (0, 0))) ∧ (w'.heap[gb184]? = some (.cells #[.int .u64 a1_0, .int .i64 a1_1] 24 (0, 0))) ∧ (w'.heap[gb188]? = some (.cells #[.int .u64 t185, .int .i64 t186] 24 (0, 0))) ∧ (w'.heap[gb192]? = some (.cells #[.int .u64 t189, .int .i64 t190] 24 (0, 0))) ∧ (Below w.heap.size w w')) ?_ ?_
                  rotate_left
                  · intro hJ4_9
                    refine join_ (σ := Nat) 4 #[true, true, true, true, true, true, true, true, true, false, true, false, false, false] (fun s_ => [(31, .agg #[.int .u64 t193, .int .i64 t194]), (9, .pointer (some ⟨s_, 0, none⟩))]) (fun s_ w' => (w'.cell? ⟨gb183, 0, none⟩ = some (.int .u64 a0_0) ∧ w'.cell? ⟨gb183, 1, none⟩ = some (.int .i64 a0_1) ∧ w'.cell? ⟨gb184, 0, none⟩ = some (.int .u64 a1_0) ∧ w'.cell? ⟨gb184, 1, none⟩ = some (.int .i64 a1_1)) ∧ (w'.heap[gb183]? = some (.cells #[.int .u64 a0_0, .int .i64 a0_1] 24 (0, 0))) ∧ (w'.heap[gb184]? = some (.cells #[.int .u64 a1_0, .int .i64 a1_1] 24 (0, 0))) ∧ (w'.heap[gb188]? = some (.cells #[.int .u64 t185, .int .i64 t186] 24 (0, 0))) ∧ (w'.heap[gb192]? = some (.cells #[.int .u64 t189, .int .i64 t190] 24 (0, 0))) ∧ (w'.heap[s_]? = some (.cells #[.int .u64 0, .int .i64 0] 24 (0, 0))) ∧ (w.heap.size ≤ s_) ∧ (w.heap.size ≤ s_) ∧ (gb183 ≠ s_) ∧ (s_ ≠ gb183) ∧ (gb184 ≠ s_) ∧ (s_ ≠ gb184) ∧ (gb188 ≠ s_) ∧ (s_ ≠ gb188) ∧ (gb192 ≠ s_) ∧ (s_ ≠ gb192) ∧ (Below w.heap.size w w')) ?_ ?_
                    rotate_left
                    · intro hJ4_10
                      refine join_ (σ := Nat) 4 #[true, true, true, true, true, true, true, true, true, false, false, true, false, false] (fun s_ => [(31, .agg #[.int .u64 t193, .int .i64 t194]), (10, .pointer (some ⟨s_, 0, none⟩))]) (fun s_ w' => (w'.cell? ⟨gb183, 0, none⟩ = some (.int .u64 a0_0) ∧ w'.cell? ⟨gb183, 1, none⟩ = some (.int .i64 a0_1) ∧ w'.cell? ⟨gb184, 0, none⟩ = some (.int .u64 a1_0) ∧ w'.cell? ⟨gb184, 1, none⟩ = some (.int .i64 a1_1)) ∧ (w'.heap[gb183]? = some (.cells #[.int .u64 a0_0, .int .i64 a0_1] 24 (0, 0))) ∧ (w'.heap[gb184]? = some (.cells #[.int .u64 a1_0, .int .i64 a1_1] 24 (0, 0))) ∧ (w'.heap[gb188]? = some (.cells #[.int .u64 t185, .int .i64 t186] 24 (0, 0))) ∧ (w'.heap[gb192]? = some (.cells #[.int .u64 t189, .int .i64 t190] 24 (0, 0))) ∧ (w'.heap[s_]? = some (.cells #[.int .u64 0, .int .i64 0] 24 (0, 0))) ∧ (w.heap.size ≤ s_) ∧ (w.heap.size ≤ s_) ∧ (gb183 ≠ s_) ∧ (s_ ≠ gb183) ∧ (gb184 ≠ s_) ∧ (s_ ≠ gb184) ∧ (gb188 ≠ s_) ∧ (s_ ≠ gb188) ∧ (gb192 ≠ s_) ∧ (s_ ≠ gb192) ∧ (Below w.heap.size w w')) ?_ ?_
                      rotate_left
                      · intro hJ4_11
                        refine join_ (σ := Nat × Nat) 4 #[true, true, true, true, false, true, true, true, true, false, true, true, false, false] (fun s_ => [(9, .pointer (some ⟨s_.1, 0, none⟩)), (10, .pointer (some ⟨s_.2, 0, none⟩))]) (fun s_ w' => (w'.cell? ⟨gb183, 0, none⟩ = some (.int .u64 a0_0) ∧ w'.cell? ⟨gb183, 1, none⟩ = some (.int .i64 a0_1) ∧ w'.cell? ⟨gb184, 0, none⟩ = some (.int .u64 a1_0) ∧ w'.cell? ⟨gb184, 1, none⟩ = some (.int .i64 a1_1)) ∧ (w'.heap[gb183]? = some (.cells #[.int .u64 a0_0, .int .i64 a0_1] 24 (0, 0))) ∧ (w'.heap[gb184]? = some (.cells #[.int .u64 a1_0, .int .i64 a1_1] 24 (0, 0))) ∧ (w'.heap[gb188]? = some (.cells #[.int .u64 t185, .int .i64 t186] 24 (0, 0))) ∧ (w'.heap[gb192]? = some (.cells #[.int .u64 t189, .int .i64 t190] 24 (0, 0))) ∧ (w'.heap[s_.1]? = some (.cells #[.int .u64 0, .int .i64 0] 24 (0, 0))) ∧ (w'.heap[s_.2]? = some (.cells #[.int .u64 0, .int .i64 0] 24 (0, 0))) ∧ (w.heap.size ≤ s_.1) ∧ (w.heap.size ≤ s_.1) ∧ (gb183 ≠ s_.1) ∧ (s_.1 ≠ gb183) ∧ (gb184 ≠ s_.1) ∧ (s_.1 ≠ gb184) ∧ (gb188 ≠ s_.1) ∧ (s_.1 ≠ gb188) ∧ (gb192 ≠ s_.1) ∧ (s_.1 ≠ gb192) ∧ (s_.2 ≠ s_.1) ∧ (s_.1 ≠ s_.2) ∧ (w.heap.size ≤ s_.2) ∧ (w.heap.size ≤ s_.2) ∧ (gb183 ≠ s_.2) ∧ (s_.2 ≠ gb183) ∧ (gb184 ≠ s_.2) ∧ (s_.2 ≠ gb184) ∧ (gb188 ≠ s_.2) ∧ (s_.2 ≠ gb188) ∧ (gb192 ≠ s_.2) ∧ (s_.2 ≠ gb192) ∧ (Below w.heap.size w w')) ?_ ?_
                        rotate_left
                        · intro hJ10_11
                          refine join_ (σ := Unit) 5 #[true, true, true, true, true, true, true, true, true, false, false, false, false, false] (fun s_ => [(31, .agg #[.int .u64 t193, .int .i64 t194])]) (fun s_ w' => (w'.cell? ⟨gb183, 0, none⟩ = some (.int .u64 a0_0) ∧ w'.cell? ⟨gb183, 1, none⟩ = some (.int .i64 a0_1) ∧ w'.cell? ⟨gb184, 0, none⟩ = some (.int .u64 a1_0) ∧ w'.cell? ⟨gb184, 1, none⟩ = some (.int .i64 a1_1)) ∧ (w'.heap[gb183]? = some (.cells #[.int .u64 a0_0, .int .i64 a0_1] 24 (0, 0))) ∧ (w'.heap[gb184]? = some (.cells #[.int .u64 a1_0, .int .i64 a1_1] 24 (0, 0))) ∧ (w'.heap[gb188]? = some (.cells #[.int .u64 t185, .int .i64 t186] 24 (0, 0))) ∧ (w'.heap[gb192]? = some (.cells #[.int .u64 t189, .int .i64 t190] 24 (0, 0))) ∧ (Below w.heap.size w w')) ?_ ?_
                          rotate_left
                          · intro hJ4
                            refine join_ (σ := Nat) 5 #[true, true, true, true, false, true, true, true, true, false, true, false, false, false] (fun s_ => [(9, .pointer (some ⟨s_, 0, none⟩))]) (fun s_ w' => (w'.cell? ⟨gb183, 0, none⟩ = some (.int .u64 a0_0) ∧ w'.cell? ⟨gb183, 1, none⟩ = some (.int .i64 a0_1) ∧ w'.cell? ⟨gb184, 0, none⟩ = some (.int .u64 a1_0) ∧ w'.cell? ⟨gb184, 1, none⟩ = some (.int .i64 a1_1)) ∧ (w'.heap[gb183]? = some (.cells #[.int .u64 a0_0, .int .i64 a0_1] 24 (0, 0))) ∧ (w'.heap[gb184]? = some (.cells #[.int .u64 a1_0, .int .i64 a1_1] 24 (0, 0))) ∧ (w'.heap[gb188]? = some (.cells #[.int .u64 t185, .int .i64 t186] 24 (0, 0))) ∧ (w'.heap[gb192]? = some (.cells #[.int .u64 t189, .int .i64 t190] 24 (0, 0))) ∧ (w'.heap[s_]? = some (.cells #[.int .u64 0, .int .i64 0] 24 (0, 0))) ∧ (w.heap.size ≤ s_) ∧ (w.heap.size ≤ s_) ∧ (gb183 ≠ s_) ∧ (s_ ≠ gb183) ∧ (gb184 ≠ s_) ∧ (s_ ≠ gb184) ∧ (gb188 ≠ s_) ∧ (s_ ≠ gb188) ∧ (gb192 ≠ s_) ∧ (s_ ≠ gb192) ∧ (Below w.heap.size w w')) ?_ ?_
                            rotate_left
                            · intro hJ10
                              refine join_ (σ := Nat) 5 #[true, true, true, true, false, true, true, true, true, false, false, true, false, false] (fun s_ => [(10, .pointer (some ⟨s_, 0, none⟩))]) (fun s_ w' => (w'.cell? ⟨gb183, 0, none⟩ = some (.int .u64 a0_0) ∧ w'.cell? ⟨gb183, 1, none⟩ = some (.int .i64 a0_1) ∧ w'.cell? ⟨gb184, 0, none⟩ = some (.int .u64 a1_0) ∧ w'.cell? ⟨gb184, 1, none⟩ = some (.int .i64 a1_1)) ∧ (w'.heap[gb183]? = some (.cells #[.int .u64 a0_0, .int .i64 a0_1] 24 (0, 0))) ∧ (w'.heap[gb184]? = some (.cells #[.int .u64 a1_0, .int .i64 a1_1] 24 (0, 0))) ∧ (w'.heap[gb188]? = some (.cells #[.int .u64 t185, .int .i64 t186] 24 (0, 0))) ∧ (w'.heap[gb192]? = some (.cells #[.int .u64 t189, .int .i64 t190] 24 (0, 0))) ∧ (w'.heap[s_]? = some (.cells #[.int .u64 0, .int .i64 0] 24 (0, 0))) ∧ (w.heap.size ≤ s_) ∧ (w.heap.size ≤ s_) ∧ (gb183 ≠ s_) ∧ (s_ ≠ gb183) ∧ (gb184 ≠ s_) ∧ (s_ ≠ gb184) ∧ (gb188 ≠ s_) ∧ (s_ ≠ gb188) ∧ (gb192 ≠ s_) ∧ (s_ ≠ gb192) ∧ (Below w.heap.size w w')) ?_ ?_
                              rotate_left
                              · intro hJ11
                                refine three_ (i := 4) (j := 10) (k := 11) (Ni := some 31) (Nj := some 9) (Nk := some 10) #[true, true, true, true, true, true, true, true, true, false, false, false, false, false] #[true, true, true, true, false, true, true, true, true, false, true, false, false, false] #[true, true, true, true, false, true, true, true, true, false, false, true, false, false] rfl rfl rfl rfl rfl rfl (three_of HT_.out (by kernel_rfl)) (by decide) (by decide) (by decide) (fun K hK => ?_) (fun K hK => ?_) (fun K hK => ?_)
                                · skip
                                  refine goes_ Try.func17 (by kernel_rfl) rfl #[.int .u64 a0_0, .int .i64 a0_1, .int .i64 1048576] (by rfl) rfl rfl (by (try simp only [List.map_toArray, List.map_cons, List.map_nil]); first | done | rfl | (simp only [List.length_drop, List.length_take]; rfl)) ?_
                                  with_reducible refine (stockyardlaw22_made.calls a0_0 a0_1 1048576 t193 t194 _ A5.out).mono ?_
                                  rintro e w34 ⟨rfl, hb⟩
                                  refine ⟨_, rfl, ?_⟩
                                  have n0_ := Aside0.mk (blk_below (g := gb183) (o := .cells #[.int .u64 a0_0, .int .i64 a0_1] 24 (0, 0)) (by (with_reducible repeat (first | refine blk_drewN ?_ _ | refine blk_drew ?_ | refine blk_alloc ?_ _)); exact BK183.out) hb)
                                  have n1_ := Aside0.mk (blk_below (g := gb184) (o := .cells #[.int .u64 a1_0, .int .i64 a1_1] 24 (0, 0)) (by (with_reducible repeat (first | refine blk_drewN ?_ _ | refine blk_drew ?_ | refine blk_alloc ?_ _)); exact BK184.out) hb)
                                  have n2_ := Aside0.mk (blk_below (g := gb188) (o := .cells #[.int .u64 t185, .int .i64 t186] 24 (0, 0)) (by (with_reducible repeat (first | refine blk_drewN ?_ _ | refine blk_drew ?_ | refine blk_alloc ?_ _)); exact BK188.out) hb)
                                  have n3_ := Aside0.mk (blk_below (g := gb192) (o := .cells #[.int .u64 t189, .int .i64 t190] 24 (0, 0)) (by (with_reducible repeat (first | refine blk_drewN ?_ _ | refine blk_drew ?_ | refine blk_alloc ?_ _)); exact BK192.out) hb)
                                  have n4_ := Aside0.mk (below_step (by repeat (first | (with_reducible first | exact HB.out | apply below_alloc | apply pw_below_drewN | apply below_drew1 | refine below_set ?_ GE183.out | refine below_set ?_ GE184.out | refine below_set ?_ GE188.out | refine below_set ?_ GE192.out) | exact HB.out)) hb)
                                  clear BK183
                                  clear BK184
                                  clear BK188
                                  clear BK192
                                  clear HB
                                  have BK183 := n0_
                                  have BK184 := n1_
                                  have BK188 := n2_
                                  have BK192 := n3_
                                  have HB := n4_
                                  clear n0_ n1_ n2_ n3_ n4_
                                  (try clear hb)
                                  (try clear hb2)
                                  (try clear hk)
                                  (try clear hi)
                                  refine hK.out _ _ ⟨(blk_cell BK183.out 0).trans rfl, (blk_cell BK183.out 1).trans rfl, (blk_cell BK184.out 0).trans rfl, (blk_cell BK184.out 1).trans rfl⟩ (fun hHeld => ?_)
                                  clear hK K
                                  refine norm_ (a' := ?_) ?_ ?_
                                  rotate_left
                                  · show Act.put _ (some 31) _ = _
                                    simp only [Act.put, List.setIfInBounds_toArray, List.set_cons_zero, List.set_cons_succ, i64_w, i32_w]
                                    rfl
                                  exact norm_ (by first | (simp only [putAll, Act.put, List.setIfInBounds_toArray, List.set_cons_zero, List.set_cons_succ]; done) | (simp only [putAll, Act.put, List.setIfInBounds_toArray, List.set_cons_zero, List.set_cons_succ]; rfl)) (hJ4 () _ ⟨hHeld, (by (with_reducible repeat (first | refine blk_drewN ?_ _ | refine blk_drew ?_ | refine blk_alloc ?_ _)); exact BK183.out), (by (with_reducible repeat (first | refine blk_drewN ?_ _ | refine blk_drew ?_ | refine blk_alloc ?_ _)); exact BK184.out), (by (with_reducible repeat (first | refine blk_drewN ?_ _ | refine blk_drew ?_ | refine blk_alloc ?_ _)); exact BK188.out), (by (with_reducible repeat (first | refine blk_drewN ?_ _ | refine blk_drew ?_ | refine blk_alloc ?_ _)); exact BK192.out), (by repeat (first | (with_reducible first | exact HB.out | apply below_alloc | apply pw_below_drewN | apply below_drew1 | refine below_set ?_ GE183.out | refine below_set ?_ GE184.out | refine below_set ?_ GE188.out | refine below_set ?_ GE192.out) | exact HB.out))⟩)
                                · skip
                                  refine box_step ?hg (N := 9) ?hd (cs := #[.int .u64 0, .int .i64 0]) (t := 24) ?hr ?_; (case hd => rfl); (case hg => rfl); (case hr => first | (go_simp; done) | (go_simp; rfl))
                                  intro gb197 hg w34 hbox hb
                                  have n0_ := Aside0.mk (blk_below (g := gb183) (o := .cells #[.int .u64 a0_0, .int .i64 a0_1] 24 (0, 0)) (by (with_reducible repeat (first | refine blk_drewN ?_ _ | refine blk_drew ?_ | refine blk_alloc ?_ _)); exact BK183.out) hb)
                                  have n1_ := Aside0.mk (blk_below (g := gb184) (o := .cells #[.int .u64 a1_0, .int .i64 a1_1] 24 (0, 0)) (by (with_reducible repeat (first | refine blk_drewN ?_ _ | refine blk_drew ?_ | refine blk_alloc ?_ _)); exact BK184.out) hb)
                                  have n2_ := Aside0.mk (blk_below (g := gb188) (o := .cells #[.int .u64 t185, .int .i64 t186] 24 (0, 0)) (by (with_reducible repeat (first | refine blk_drewN ?_ _ | refine blk_drew ?_ | refine blk_alloc ?_ _)); exact BK188.out) hb)
                                  have n3_ := Aside0.mk (blk_below (g := gb192) (o := .cells #[.int .u64 t189, .int .i64 t190] 24 (0, 0)) (by (with_reducible repeat (first | refine blk_drewN ?_ _ | refine blk_drew ?_ | refine blk_alloc ?_ _)); exact BK192.out) hb)
                                  have n4_ := Aside0.mk (below_step (by repeat (first | (with_reducible first | exact HB.out | apply below_alloc | apply pw_below_drewN | apply below_drew1 | refine below_set ?_ GE183.out | refine below_set ?_ GE184.out | refine below_set ?_ GE188.out | refine below_set ?_ GE192.out) | exact HB.out)) hb)
                                  have n5_ := Aside0.mk (hbox)
                                  have n6_ := Aside0.mk ((by rw [hg]; exact (below_size (by repeat (first | (with_reducible first | exact HB.out | apply below_alloc | apply pw_below_drewN | apply below_drew1 | refine below_set ?_ GE183.out | refine below_set ?_ GE184.out | refine below_set ?_ GE188.out | refine below_set ?_ GE192.out) | exact HB.out))) : w.heap.size ≤ gb197))
                                  have n7_ := Aside0.mk ((by rw [hg]; exact (below_size (by repeat (first | (with_reducible first | exact HB.out | apply below_alloc | apply pw_below_drewN | apply below_drew1 | refine below_set ?_ GE183.out | refine below_set ?_ GE184.out | refine below_set ?_ GE188.out | refine below_set ?_ GE192.out) | exact HB.out))) : w.heap.size ≤ gb197))
                                  have n8_ := Aside0.mk ((by rw [hg]; exact Nat.ne_of_lt (blk_lt (g := gb183) (o := .cells #[.int .u64 a0_0, .int .i64 a0_1] 24 (0, 0)) (by (with_reducible repeat (first | refine blk_drewN ?_ _ | refine blk_drew ?_ | refine blk_alloc ?_ _)); exact BK183.out)) : gb183 ≠ gb197))
                                  have n9_ := Aside0.mk ((by rw [hg]; exact Nat.ne_of_gt (blk_lt (g := gb183) (o := .cells #[.int .u64 a0_0, .int .i64 a0_1] 24 (0, 0)) (by (with_reducible repeat (first | refine blk_drewN ?_ _ | refine blk_drew ?_ | refine blk_alloc ?_ _)); exact BK183.out)) : gb197 ≠ gb183))
                                  have n10_ := Aside0.mk ((by rw [hg]; exact Nat.ne_of_lt (blk_lt (g := gb184) (o := .cells #[.int .u64 a1_0, .int .i64 a1_1] 24 (0, 0)) (by (with_reducible repeat (first | refine blk_drewN ?_ _ | refine blk_drew ?_ | refine blk_alloc ?_ _)); exact BK184.out)) : gb184 ≠ gb197))
                                  have n11_ := Aside0.mk ((by rw [hg]; exact Nat.ne_of_gt (blk_lt (g := gb184) (o := .cells #[.int .u64 a1_0, .int .i64 a1_1] 24 (0, 0)) (by (with_reducible repeat (first | refine blk_drewN ?_ _ | refine blk_drew ?_ | refine blk_alloc ?_ _)); exact BK184.out)) : gb197 ≠ gb184))
                                  have n12_ := Aside0.mk ((by rw [hg]; exact Nat.ne_of_lt (blk_lt (g := gb188) (o := .cells #[.int .u64 t185, .int .i64 t186] 24 (0, 0)) (by (with_reducible repeat (first | refine blk_drewN ?_ _ | refine blk_drew ?_ | refine blk_alloc ?_ _)); exact BK188.out)) : gb188 ≠ gb197))
                                  have n13_ := Aside0.mk ((by rw [hg]; exact Nat.ne_of_gt (blk_lt (g := gb188) (o := .cells #[.int .u64 t185, .int .i64 t186] 24 (0, 0)) (by (with_reducible repeat (first | refine blk_drewN ?_ _ | refine blk_drew ?_ | refine blk_alloc ?_ _)); exact BK188.out)) : gb197 ≠ gb188))
                                  have n14_ := Aside0.mk ((by rw [hg]; exact Nat.ne_of_lt (blk_lt (g := gb192) (o := .cells #[.int .u64 t189, .int .i64 t190] 24 (0, 0)) (by (with_reducible repeat (first | refine blk_drewN ?_ _ | refine blk_drew ?_ | refine blk_alloc ?_ _)); exact BK192.out)) : gb192 ≠ gb197))
                                  have n15_ := Aside0.mk ((by rw [hg]; exact Nat.ne_of_gt (blk_lt (g := gb192) (o := .cells #[.int .u64 t189, .int .i64 t190] 24 (0, 0)) (by (with_reducible repeat (first | refine blk_drewN ?_ _ | refine blk_drew ?_ | refine blk_alloc ?_ _)); exact BK192.out)) : gb197 ≠ gb192))
                                  clear BK183
                                  clear BK184
                                  clear BK188
                                  clear BK192
                                  clear HB
                                  have BK183 := n0_
                                  have BK184 := n1_
                                  have BK188 := n2_
                                  have BK192 := n3_
                                  have HB := n4_
                                  have BK197 := n5_
                                  have GW197 := n6_
                                  have GE197 := n7_
                                  have NB183_197 := n8_
                                  have NB197_183 := n9_
                                  have NB184_197 := n10_
                                  have NB197_184 := n11_
                                  have NB188_197 := n12_
                                  have NB197_188 := n13_
                                  have NB192_197 := n14_
                                  have NB197_192 := n15_
                                  clear n0_ n1_ n2_ n3_ n4_ n5_ n6_ n7_ n8_ n9_ n10_ n11_ n12_ n13_ n14_ n15_
                                  clear hb hbox hg
                                  refine hK.out _ _ ⟨(blk_cell BK183.out 0).trans rfl, (blk_cell BK183.out 1).trans rfl, (blk_cell BK184.out 0).trans rfl, (blk_cell BK184.out 1).trans rfl⟩ (fun hHeld => ?_)
                                  clear hK K
                                  refine norm_ (a' := ?_) ?_ ?_
                                  rotate_left
                                  · show Act.put _ (some 9) _ = _
                                    simp only [Act.put, List.setIfInBounds_toArray, List.set_cons_zero, List.set_cons_succ, i64_w, i32_w]
                                    rfl
                                  exact norm_ (by first | (simp only [putAll, Act.put, List.setIfInBounds_toArray, List.set_cons_zero, List.set_cons_succ]; done) | (simp only [putAll, Act.put, List.setIfInBounds_toArray, List.set_cons_zero, List.set_cons_succ]; rfl)) (hJ10 (gb197) _ ⟨hHeld, (by (with_reducible repeat (first | refine blk_drewN ?_ _ | refine blk_drew ?_ | refine blk_alloc ?_ _)); exact BK183.out), (by (with_reducible repeat (first | refine blk_drewN ?_ _ | refine blk_drew ?_ | refine blk_alloc ?_ _)); exact BK184.out), (by (with_reducible repeat (first | refine blk_drewN ?_ _ | refine blk_drew ?_ | refine blk_alloc ?_ _)); exact BK188.out), (by (with_reducible repeat (first | refine blk_drewN ?_ _ | refine blk_drew ?_ | refine blk_alloc ?_ _)); exact BK192.out), (by (with_reducible repeat (first | refine blk_drewN ?_ _ | refine blk_drew ?_ | refine blk_alloc ?_ _)); exact BK197.out), GW197.out, GE197.out, NB183_197.out, NB197_183.out, NB184_197.out, NB197_184.out, NB188_197.out, NB197_188.out, NB192_197.out, NB197_192.out, (by repeat (first | (with_reducible first | exact HB.out | apply below_alloc | apply pw_below_drewN | apply below_drew1 | refine below_set ?_ GE183.out | refine below_set ?_ GE184.out | refine below_set ?_ GE188.out | refine below_set ?_ GE192.out | refine below_set ?_ GE197.out) | exact HB.out))⟩)
                                · skip
                                  refine box_step ?hg (N := 10) ?hd (cs := #[.int .u64 0, .int .i64 0]) (t := 24) ?hr ?_; (case hd => rfl); (case hg => rfl); (case hr => first | (go_simp; done) | (go_simp; rfl))
                                  intro gb198 hg w34 hbox hb
                                  have n0_ := Aside0.mk (blk_below (g := gb183) (o := .cells #[.int .u64 a0_0, .int .i64 a0_1] 24 (0, 0)) (by (with_reducible repeat (first | refine blk_drewN ?_ _ | refine blk_drew ?_ | refine blk_alloc ?_ _)); exact BK183.out) hb)
                                  have n1_ := Aside0.mk (blk_below (g := gb184) (o := .cells #[.int .u64 a1_0, .int .i64 a1_1] 24 (0, 0)) (by (with_reducible repeat (first | refine blk_drewN ?_ _ | refine blk_drew ?_ | refine blk_alloc ?_ _)); exact BK184.out) hb)
                                  have n2_ := Aside0.mk (blk_below (g := gb188) (o := .cells #[.int .u64 t185, .int .i64 t186] 24 (0, 0)) (by (with_reducible repeat (first | refine blk_drewN ?_ _ | refine blk_drew ?_ | refine blk_alloc ?_ _)); exact BK188.out) hb)
                                  have n3_ := Aside0.mk (blk_below (g := gb192) (o := .cells #[.int .u64 t189, .int .i64 t190] 24 (0, 0)) (by (with_reducible repeat (first | refine blk_drewN ?_ _ | refine blk_drew ?_ | refine blk_alloc ?_ _)); exact BK192.out) hb)
                                  have n4_ := Aside0.mk (below_step (by repeat (first | (with_reducible first | exact HB.out | apply below_alloc | apply pw_below_drewN | apply below_drew1 | refine below_set ?_ GE183.out | refine below_set ?_ GE184.out | refine below_set ?_ GE188.out | refine below_set ?_ GE192.out) | exact HB.out)) hb)
                                  have n5_ := Aside0.mk (hbox)
                                  have n6_ := Aside0.mk ((by rw [hg]; exact (below_size (by repeat (first | (with_reducible first | exact HB.out | apply below_alloc | apply pw_below_drewN | apply below_drew1 | refine below_set ?_ GE183.out | refine below_set ?_ GE184.out | refine below_set ?_ GE188.out | refine below_set ?_ GE192.out) | exact HB.out))) : w.heap.size ≤ gb198))
                                  have n7_ := Aside0.mk ((by rw [hg]; exact (below_size (by repeat (first | (with_reducible first | exact HB.out | apply below_alloc | apply pw_below_drewN | apply below_drew1 | refine below_set ?_ GE183.out | refine below_set ?_ GE184.out | refine below_set ?_ GE188.out | refine below_set ?_ GE192.out) | exact HB.out))) : w.heap.size ≤ gb198))
                                  have n8_ := Aside0.mk ((by rw [hg]; exact Nat.ne_of_lt (blk_lt (g := gb183) (o := .cells #[.int .u64 a0_0, .int .i64 a0_1] 24 (0, 0)) (by (with_reducible repeat (first | refine blk_drewN ?_ _ | refine blk_drew ?_ | refine blk_alloc ?_ _)); exact BK183.out)) : gb183 ≠ gb198))
                                  have n9_ := Aside0.mk ((by rw [hg]; exact Nat.ne_of_gt (blk_lt (g := gb183) (o := .cells #[.int .u64 a0_0, .int .i64 a0_1] 24 (0, 0)) (by (with_reducible repeat (first | refine blk_drewN ?_ _ | refine blk_drew ?_ | refine blk_alloc ?_ _)); exact BK183.out)) : gb198 ≠ gb183))
                                  have n10_ := Aside0.mk ((by rw [hg]; exact Nat.ne_of_lt (blk_lt (g := gb184) (o := .cells #[.int .u64 a1_0, .int .i64 a1_1] 24 (0, 0)) (by (with_reducible repeat (first | refine blk_drewN ?_ _ | refine blk_drew ?_ | refine blk_alloc ?_ _)); exact BK184.out)) : gb184 ≠ gb198))
                                  have n11_ := Aside0.mk ((by rw [hg]; exact Nat.ne_of_gt (blk_lt (g := gb184) (o := .cells #[.int .u64 a1_0, .int .i64 a1_1] 24 (0, 0)) (by (with_reducible repeat (first | refine blk_drewN ?_ _ | refine blk_drew ?_ | refine blk_alloc ?_ _)); exact BK184.out)) : gb198 ≠ gb184))
                                  have n12_ := Aside0.mk ((by rw [hg]; exact Nat.ne_of_lt (blk_lt (g := gb188) (o := .cells #[.int .u64 t185, .int .i64 t186] 24 (0, 0)) (by (with_reducible repeat (first | refine blk_drewN ?_ _ | refine blk_drew ?_ | refine blk_alloc ?_ _)); exact BK188.out)) : gb188 ≠ gb198))
                                  have n13_ := Aside0.mk ((by rw [hg]; exact Nat.ne_of_gt (blk_lt (g := gb188) (o := .cells #[.int .u64 t185, .int .i64 t186] 24 (0, 0)) (by (with_reducible repeat (first | refine blk_drewN ?_ _ | refine blk_drew ?_ | refine blk_alloc ?_ _)); exact BK188.out)) : gb198 ≠ gb188))
                                  have n14_ := Aside0.mk ((by rw [hg]; exact Nat.ne_of_lt (blk_lt (g := gb192) (o := .cells #[.int .u64 t189, .int .i64 t190] 24 (0, 0)) (by (with_reducible repeat (first | refine blk_drewN ?_ _ | refine blk_drew ?_ | refine blk_alloc ?_ _)); exact BK192.out)) : gb192 ≠ gb198))
                                  have n15_ := Aside0.mk ((by rw [hg]; exact Nat.ne_of_gt (blk_lt (g := gb192) (o := .cells #[.int .u64 t189, .int .i64 t190] 24 (0, 0)) (by (with_reducible repeat (first | refine blk_drewN ?_ _ | refine blk_drew ?_ | refine blk_alloc ?_ _)); exact BK192.out)) : gb198 ≠ gb192))
                                  clear BK183
                                  clear BK184
                                  clear BK188
                                  clear BK192
                                  clear HB
                                  have BK183 := n0_
                                  have BK184 := n1_
                                  have BK188 := n2_
                                  have BK192 := n3_
                                  have HB := n4_
                                  have BK198 := n5_
                                  have GW198 := n6_
                                  have GE198 := n7_
                                  have NB183_198 := n8_
                                  have NB198_183 := n9_
                                  have NB184_198 := n10_
                                  have NB198_184 := n11_
                                  have NB188_198 := n12_
                                  have NB198_188 := n13_
                                  have NB192_198 := n14_
                                  have NB198_192 := n15_
                                  clear n0_ n1_ n2_ n3_ n4_ n5_ n6_ n7_ n8_ n9_ n10_ n11_ n12_ n13_ n14_ n15_
                                  clear hb hbox hg
                                  refine hK.out _ _ ⟨(blk_cell BK183.out 0).trans rfl, (blk_cell BK183.out 1).trans rfl, (blk_cell BK184.out 0).trans rfl, (blk_cell BK184.out 1).trans rfl⟩ (fun hHeld => ?_)
                                  clear hK K
                                  refine norm_ (a' := ?_) ?_ ?_
                                  rotate_left
                                  · show Act.put _ (some 10) _ = _
                                    simp only [Act.put, List.setIfInBounds_toArray, List.set_cons_zero, List.set_cons_succ, i64_w, i32_w]
                                    rfl
                                  exact norm_ (by first | (simp only [putAll, Act.put, List.setIfInBounds_toArray, List.set_cons_zero, List.set_cons_succ]; done) | (simp only [putAll, Act.put, List.setIfInBounds_toArray, List.set_cons_zero, List.set_cons_succ]; rfl)) (hJ11 (gb198) _ ⟨hHeld, (by (with_reducible repeat (first | refine blk_drewN ?_ _ | refine blk_drew ?_ | refine blk_alloc ?_ _)); exact BK183.out), (by (with_reducible repeat (first | refine blk_drewN ?_ _ | refine blk_drew ?_ | refine blk_alloc ?_ _)); exact BK184.out), (by (with_reducible repeat (first | refine blk_drewN ?_ _ | refine blk_drew ?_ | refine blk_alloc ?_ _)); exact BK188.out), (by (with_reducible repeat (first | refine blk_drewN ?_ _ | refine blk_drew ?_ | refine blk_alloc ?_ _)); exact BK192.out), (by (with_reducible repeat (first | refine blk_drewN ?_ _ | refine blk_drew ?_ | refine blk_alloc ?_ _)); exact BK198.out), GW198.out, GE198.out, NB183_198.out, NB198_183.out, NB184_198.out, NB198_184.out, NB188_198.out, NB198_188.out, NB192_198.out, NB198_192.out, (by repeat (first | (with_reducible first | exact HB.out | apply below_alloc | apply pw_below_drewN | apply below_drew1 | refine below_set ?_ GE183.out | refine below_set ?_ GE184.out | refine below_set ?_ GE188.out | refine below_set ?_ GE192.out | refine below_set ?_ GE198.out) | exact HB.out))⟩)
                              · skip
                                rintro gb198 w35 ⟨hS_, h0_, h1_, h2_, h3_, h4_, h5_, h6_, h7_, h8_, h9_, h10_, h11_, h12_, h13_, h14_, h15_⟩
                                have n0_ : Aside0 (w35.heap[gb183]? = some (.cells #[.int .u64 a0_0, .int .i64 a0_1] 24 (0, 0))) := ⟨h0_⟩
                                have n1_ : Aside0 (w35.heap[gb184]? = some (.cells #[.int .u64 a1_0, .int .i64 a1_1] 24 (0, 0))) := ⟨h1_⟩
                                have n2_ : Aside0 (w35.heap[gb188]? = some (.cells #[.int .u64 t185, .int .i64 t186] 24 (0, 0))) := ⟨h2_⟩
                                have n3_ : Aside0 (w35.heap[gb192]? = some (.cells #[.int .u64 t189, .int .i64 t190] 24 (0, 0))) := ⟨h3_⟩
                                have n4_ : Aside0 (w35.heap[gb198]? = some (.cells #[.int .u64 0, .int .i64 0] 24 (0, 0))) := ⟨h4_⟩
                                have n5_ : Aside0 (w.heap.size ≤ gb198) := ⟨h5_⟩
                                have n6_ : Aside0 (w.heap.size ≤ gb198) := ⟨h6_⟩
                                have n7_ : Aside0 (gb183 ≠ gb198) := ⟨h7_⟩
                                have n8_ : Aside0 (gb198 ≠ gb183) := ⟨h8_⟩
                                have n9_ : Aside0 (gb184 ≠ gb198) := ⟨h9_⟩
                                have n10_ : Aside0 (gb198 ≠ gb184) := ⟨h10_⟩
                                have n11_ : Aside0 (gb188 ≠ gb198) := ⟨h11_⟩
                                have n12_ : Aside0 (gb198 ≠ gb188) := ⟨h12_⟩
                                have n13_ : Aside0 (gb192 ≠ gb198) := ⟨h13_⟩
                                have n14_ : Aside0 (gb198 ≠ gb192) := ⟨h14_⟩
                                have n15_ : Aside0 (Below w.heap.size w w35) := ⟨h15_⟩
                                clear BK183
                                clear BK184
                                clear BK188
                                clear BK192
                                clear HB
                                clear h0_ h1_ h2_ h3_ h4_ h5_ h6_ h7_ h8_ h9_ h10_ h11_ h12_ h13_ h14_ h15_
                                have BK183 := n0_
                                have BK184 := n1_
                                have BK188 := n2_
                                have BK192 := n3_
                                have BK198 := n4_
                                have GW198 := n5_
                                have GE198 := n6_
                                have NB183_198 := n7_
                                have NB198_183 := n8_
                                have NB184_198 := n9_
                                have NB198_184 := n10_
                                have NB188_198 := n11_
                                have NB198_188 := n12_
                                have NB192_198 := n13_
                                have NB198_192 := n14_
                                have HB := n15_
                                clear n0_ n1_ n2_ n3_ n4_ n5_ n6_ n7_ n8_ n9_ n10_ n11_ n12_ n13_ n14_ n15_
                                have hHeld : w35.cell? ⟨gb183, 0, none⟩ = some (.int .u64 a0_0) ∧ w35.cell? ⟨gb183, 1, none⟩ = some (.int .i64 a0_1) ∧ w35.cell? ⟨gb184, 0, none⟩ = some (.int .u64 a1_0) ∧ w35.cell? ⟨gb184, 1, none⟩ = some (.int .i64 a1_1) := hS_
                                refine norm_ (a' := ?_) ?_ ?_
                                rotate_left
                                · simp only [putAll, Act.put, List.setIfInBounds_toArray, List.set_cons_zero, List.set_cons_succ]
                                  rfl
                                refine two_ (i := 4) (j := 10) (Ni := some 31) (Nj := some 9) #[true, true, true, true, true, true, true, true, true, false, false, true, false, false] #[true, true, true, true, false, true, true, true, true, false, true, true, false, false] rfl rfl rfl rfl (two_of HT_.out (by kernel_rfl)) (by decide) (by decide) (fun K hK => ?_) (fun K hK => ?_)
                                · skip
                                  refine goes_ Try.func17 (by kernel_rfl) rfl #[.int .u64 a0_0, .int .i64 a0_1, .int .i64 1048576] (by rfl) rfl rfl (by (try simp only [List.map_toArray, List.map_cons, List.map_nil]); first | done | rfl | (simp only [List.length_drop, List.length_take]; rfl)) ?_
                                  with_reducible refine (stockyardlaw22_made.calls a0_0 a0_1 1048576 t193 t194 _ A5.out).mono ?_
                                  rintro e w36 ⟨rfl, hb⟩
                                  refine ⟨_, rfl, ?_⟩
                                  have n0_ := Aside0.mk (blk_below (g := gb183) (o := .cells #[.int .u64 a0_0, .int .i64 a0_1] 24 (0, 0)) (by (with_reducible repeat (first | refine blk_drewN ?_ _ | refine blk_drew ?_ | refine blk_alloc ?_ _)); exact BK183.out) hb)
                                  have n1_ := Aside0.mk (blk_below (g := gb184) (o := .cells #[.int .u64 a1_0, .int .i64 a1_1] 24 (0, 0)) (by (with_reducible repeat (first | refine blk_drewN ?_ _ | refine blk_drew ?_ | refine blk_alloc ?_ _)); exact BK184.out) hb)
                                  have n2_ := Aside0.mk (blk_below (g := gb188) (o := .cells #[.int .u64 t185, .int .i64 t186] 24 (0, 0)) (by (with_reducible repeat (first | refine blk_drewN ?_ _ | refine blk_drew ?_ | refine blk_alloc ?_ _)); exact BK188.out) hb)
                                  have n3_ := Aside0.mk (blk_below (g := gb192) (o := .cells #[.int .u64 t189, .int .i64 t190] 24 (0, 0)) (by (with_reducible repeat (first | refine blk_drewN ?_ _ | refine blk_drew ?_ | refine blk_alloc ?_ _)); exact BK192.out) hb)
                                  have n4_ := Aside0.mk (blk_below (g := gb198) (o := .cells #[.int .u64 0, .int .i64 0] 24 (0, 0)) (by (with_reducible repeat (first | refine blk_drewN ?_ _ | refine blk_drew ?_ | refine blk_alloc ?_ _)); exact BK198.out) hb)
                                  have n5_ := Aside0.mk (below_step (by repeat (first | (with_reducible first | exact HB.out | apply below_alloc | apply pw_below_drewN | apply below_drew1 | refine below_set ?_ GE183.out | refine below_set ?_ GE184.out | refine below_set ?_ GE188.out | refine below_set ?_ GE192.out | refine below_set ?_ GE198.out) | exact HB.out)) hb)
                                  clear BK183
                                  clear BK184
                                  clear BK188
                                  clear BK192
                                  clear BK198
                                  clear HB
                                  have BK183 := n0_
                                  have BK184 := n1_
                                  have BK188 := n2_
                                  have BK192 := n3_
                                  have BK198 := n4_
                                  have HB := n5_
                                  clear n0_ n1_ n2_ n3_ n4_ n5_
                                  (try clear hb)
                                  (try clear hb2)
                                  (try clear hk)
                                  (try clear hi)
                                  refine hK.out _ _ ⟨(blk_cell BK183.out 0).trans rfl, (blk_cell BK183.out 1).trans rfl, (blk_cell BK184.out 0).trans rfl, (blk_cell BK184.out 1).trans rfl⟩ (fun hHeld => ?_)
                                  clear hK K
                                  refine norm_ (a' := ?_) ?_ ?_
                                  rotate_left
                                  · show Act.put _ (some 31) _ = _
                                    simp only [Act.put, List.setIfInBounds_toArray, List.set_cons_zero, List.set_cons_succ, i64_w, i32_w]
                                    rfl
                                  exact norm_ (by first | (simp only [putAll, Act.put, List.setIfInBounds_toArray, List.set_cons_zero, List.set_cons_succ]; done) | (simp only [putAll, Act.put, List.setIfInBounds_toArray, List.set_cons_zero, List.set_cons_succ]; rfl)) (hJ4_11 (gb198) _ ⟨hHeld, (by (with_reducible repeat (first | refine blk_drewN ?_ _ | refine blk_drew ?_ | refine blk_alloc ?_ _)); exact BK183.out), (by (with_reducible repeat (first | refine blk_drewN ?_ _ | refine blk_drew ?_ | refine blk_alloc ?_ _)); exact BK184.out), (by (with_reducible repeat (first | refine blk_drewN ?_ _ | refine blk_drew ?_ | refine blk_alloc ?_ _)); exact BK188.out), (by (with_reducible repeat (first | refine blk_drewN ?_ _ | refine blk_drew ?_ | refine blk_alloc ?_ _)); exact BK192.out), (by (with_reducible repeat (first | refine blk_drewN ?_ _ | refine blk_drew ?_ | refine blk_alloc ?_ _)); exact BK198.out), GW198.out, GE198.out, NB183_198.out, NB198_183.out, NB184_198.out, NB198_184.out, NB188_198.out, NB198_188.out, NB192_198.out, NB198_192.out, (by repeat (first | (with_reducible first | exact HB.out | apply below_alloc | apply pw_below_drewN | apply below_drew1 | refine below_set ?_ GE183.out | refine below_set ?_ GE184.out | refine below_set ?_ GE188.out | refine below_set ?_ GE192.out | refine below_set ?_ GE198.out) | exact HB.out))⟩)
                                · skip
                                  refine box_step ?hg (N := 9) ?hd (cs := #[.int .u64 0, .int .i64 0]) (t := 24) ?hr ?_; (case hd => rfl); (case hg => rfl); (case hr => first | (go_simp; done) | (go_simp; rfl))
                                  intro gb197 hg w36 hbox hb
                                  have n0_ := Aside0.mk (blk_below (g := gb183) (o := .cells #[.int .u64 a0_0, .int .i64 a0_1] 24 (0, 0)) (by (with_reducible repeat (first | refine blk_drewN ?_ _ | refine blk_drew ?_ | refine blk_alloc ?_ _)); exact BK183.out) hb)
                                  have n1_ := Aside0.mk (blk_below (g := gb184) (o := .cells #[.int .u64 a1_0, .int .i64 a1_1] 24 (0, 0)) (by (with_reducible repeat (first | refine blk_drewN ?_ _ | refine blk_drew ?_ | refine blk_alloc ?_ _)); exact BK184.out) hb)
                                  have n2_ := Aside0.mk (blk_below (g := gb188) (o := .cells #[.int .u64 t185, .int .i64 t186] 24 (0, 0)) (by (with_reducible repeat (first | refine blk_drewN ?_ _ | refine blk_drew ?_ | refine blk_alloc ?_ _)); exact BK188.out) hb)
                                  have n3_ := Aside0.mk (blk_below (g := gb192) (o := .cells #[.int .u64 t189, .int .i64 t190] 24 (0, 0)) (by (with_reducible repeat (first | refine blk_drewN ?_ _ | refine blk_drew ?_ | refine blk_alloc ?_ _)); exact BK192.out) hb)
                                  have n4_ := Aside0.mk (blk_below (g := gb198) (o := .cells #[.int .u64 0, .int .i64 0] 24 (0, 0)) (by (with_reducible repeat (first | refine blk_drewN ?_ _ | refine blk_drew ?_ | refine blk_alloc ?_ _)); exact BK198.out) hb)
                                  have n5_ := Aside0.mk (below_step (by repeat (first | (with_reducible first | exact HB.out | apply below_alloc | apply pw_below_drewN | apply below_drew1 | refine below_set ?_ GE183.out | refine below_set ?_ GE184.out | refine below_set ?_ GE188.out | refine below_set ?_ GE192.out | refine below_set ?_ GE198.out) | exact HB.out)) hb)
                                  have n6_ := Aside0.mk (hbox)
                                  have n7_ := Aside0.mk ((by rw [hg]; exact (below_size (by repeat (first | (with_reducible first | exact HB.out | apply below_alloc | apply pw_below_drewN | apply below_drew1 | refine below_set ?_ GE183.out | refine below_set ?_ GE184.out | refine below_set ?_ GE188.out | refine below_set ?_ GE192.out | refine below_set ?_ GE198.out) | exact HB.out))) : w.heap.size ≤ gb197))
                                  have n8_ := Aside0.mk ((by rw [hg]; exact (below_size (by repeat (first | (with_reducible first | exact HB.out | apply below_alloc | apply pw_below_drewN | apply below_drew1 | refine below_set ?_ GE183.out | refine below_set ?_ GE184.out | refine below_set ?_ GE188.out | refine below_set ?_ GE192.out | refine below_set ?_ GE198.out) | exact HB.out))) : w.heap.size ≤ gb197))
                                  have n9_ := Aside0.mk ((by rw [hg]; exact Nat.ne_of_lt (blk_lt (g := gb183) (o := .cells #[.int .u64 a0_0, .int .i64 a0_1] 24 (0, 0)) (by (with_reducible repeat (first | refine blk_drewN ?_ _ | refine blk_drew ?_ | refine blk_alloc ?_ _)); exact BK183.out)) : gb183 ≠ gb197))
                                  have n10_ := Aside0.mk ((by rw [hg]; exact Nat.ne_of_gt (blk_lt (g := gb183) (o := .cells #[.int .u64 a0_0, .int .i64 a0_1] 24 (0, 0)) (by (with_reducible repeat (first | refine blk_drewN ?_ _ | refine blk_drew ?_ | refine blk_alloc ?_ _)); exact BK183.out)) : gb197 ≠ gb183))
                                  have n11_ := Aside0.mk ((by rw [hg]; exact Nat.ne_of_lt (blk_lt (g := gb184) (o := .cells #[.int .u64 a1_0, .int .i64 a1_1] 24 (0, 0)) (by (with_reducible repeat (first | refine blk_drewN ?_ _ | refine blk_drew ?_ | refine blk_alloc ?_ _)); exact BK184.out)) : gb184 ≠ gb197))
                                  have n12_ := Aside0.mk ((by rw [hg]; exact Nat.ne_of_gt (blk_lt (g := gb184) (o := .cells #[.int .u64 a1_0, .int .i64 a1_1] 24 (0, 0)) (by (with_reducible repeat (first | refine blk_drewN ?_ _ | refine blk_drew ?_ | refine blk_alloc ?_ _)); exact BK184.out)) : gb197 ≠ gb184))
                                  have n13_ := Aside0.mk ((by rw [hg]; exact Nat.ne_of_lt (blk_lt (g := gb188) (o := .cells #[.int .u64 t185, .int .i64 t186] 24 (0, 0)) (by (with_reducible repeat (first | refine blk_drewN ?_ _ | refine blk_drew ?_ | refine blk_alloc ?_ _)); exact BK188.out)) : gb188 ≠ gb197))
                                  have n14_ := Aside0.mk ((by rw [hg]; exact Nat.ne_of_gt (blk_lt (g := gb188) (o := .cells #[.int .u64 t185, .int .i64 t186] 24 (0, 0)) (by (with_reducible repeat (first | refine blk_drewN ?_ _ | refine blk_drew ?_ | refine blk_alloc ?_ _)); exact BK188.out)) : gb197 ≠ gb188))
                                  have n15_ := Aside0.mk ((by rw [hg]; exact Nat.ne_of_lt (blk_lt (g := gb192) (o := .cells #[.int .u64 t189, .int .i64 t190] 24 (0, 0)) (by (with_reducible repeat (first | refine blk_drewN ?_ _ | refine blk_drew ?_ | refine blk_alloc ?_ _)); exact BK192.out)) : gb192 ≠ gb197))
                                  have n16_ := Aside0.mk ((by rw [hg]; exact Nat.ne_of_gt (blk_lt (g := gb192) (o := .cells #[.int .u64 t189, .int .i64 t190] 24 (0, 0)) (by (with_reducible repeat (first | refine blk_drewN ?_ _ | refine blk_drew ?_ | refine blk_alloc ?_ _)); exact BK192.out)) : gb197 ≠ gb192))
                                  have n17_ := Aside0.mk ((by rw [hg]; exact Nat.ne_of_lt (blk_lt (g := gb198) (o := .cells #[.int .u64 0, .int .i64 0] 24 (0, 0)) (by (with_reducible repeat (first | refine blk_drewN ?_ _ | refine blk_drew ?_ | refine blk_alloc ?_ _)); exact BK198.out)) : gb198 ≠ gb197))
                                  have n18_ := Aside0.mk ((by rw [hg]; exact Nat.ne_of_gt (blk_lt (g := gb198) (o := .cells #[.int .u64 0, .int .i64 0] 24 (0, 0)) (by (with_reducible repeat (first | refine blk_drewN ?_ _ | refine blk_drew ?_ | refine blk_alloc ?_ _)); exact BK198.out)) : gb197 ≠ gb198))
                                  clear BK183
                                  clear BK184
                                  clear BK188
                                  clear BK192
                                  clear BK198
                                  clear HB
                                  have BK183 := n0_
                                  have BK184 := n1_
                                  have BK188 := n2_
                                  have BK192 := n3_
                                  have BK198 := n4_
                                  have HB := n5_
                                  have BK197 := n6_
                                  have GW197 := n7_
                                  have GE197 := n8_
                                  have NB183_197 := n9_
                                  have NB197_183 := n10_
                                  have NB184_197 := n11_
                                  have NB197_184 := n12_
                                  have NB188_197 := n13_
                                  have NB197_188 := n14_
                                  have NB192_197 := n15_
                                  have NB197_192 := n16_
                                  have NB198_197 := n17_
                                  have NB197_198 := n18_
                                  clear n0_ n1_ n2_ n3_ n4_ n5_ n6_ n7_ n8_ n9_ n10_ n11_ n12_ n13_ n14_ n15_ n16_ n17_ n18_
                                  clear hb hbox hg
                                  refine hK.out _ _ ⟨(blk_cell BK183.out 0).trans rfl, (blk_cell BK183.out 1).trans rfl, (blk_cell BK184.out 0).trans rfl, (blk_cell BK184.out 1).trans rfl⟩ (fun hHeld => ?_)
                                  clear hK K
                                  refine norm_ (a' := ?_) ?_ ?_
                                  rotate_left
                                  · show Act.put _ (some 9) _ = _
                                    simp only [Act.put, List.setIfInBounds_toArray, List.set_cons_zero, List.set_cons_succ, i64_w, i32_w]
                                    rfl
                                  exact norm_ (by first | (simp only [putAll, Act.put, List.setIfInBounds_toArray, List.set_cons_zero, List.set_cons_succ]; done) | (simp only [putAll, Act.put, List.setIfInBounds_toArray, List.set_cons_zero, List.set_cons_succ]; rfl)) (hJ10_11 (gb197, gb198) _ ⟨hHeld, (by (with_reducible repeat (first | refine blk_drewN ?_ _ | refine blk_drew ?_ | refine blk_alloc ?_ _)); exact BK183.out), (by (with_reducible repeat (first | refine blk_drewN ?_ _ | refine blk_drew ?_ | refine blk_alloc ?_ _)); exact BK184.out), (by (with_reducible repeat (first | refine blk_drewN ?_ _ | refine blk_drew ?_ | refine blk_alloc ?_ _)); exact BK188.out), (by (with_reducible repeat (first | refine blk_drewN ?_ _ | refine blk_drew ?_ | refine blk_alloc ?_ _)); exact BK192.out), (by (with_reducible repeat (first | refine blk_drewN ?_ _ | refine blk_drew ?_ | refine blk_alloc ?_ _)); exact BK197.out), (by (with_reducible repeat (first | refine blk_drewN ?_ _ | refine blk_drew ?_ | refine blk_alloc ?_ _)); exact BK198.out), GW197.out, GE197.out, NB183_197.out, NB197_183.out, NB184_197.out, NB197_184.out, NB188_197.out, NB197_188.out, NB192_197.out, NB197_192.out, NB198_197.out, NB197_198.out, GW198.out, GE198.out, NB183_198.out, NB198_183.out, NB184_198.out, NB198_184.out, NB188_198.out, NB198_188.out, NB192_198.out, NB198_192.out, (by repeat (first | (with_reducible first | exact HB.out | apply below_alloc | apply pw_below_drewN | apply below_drew1 | refine below_set ?_ GE183.out | refine below_set ?_ GE184.out | refine below_set ?_ GE188.out | refine below_set ?_ GE192.out | refine below_set ?_ GE198.out | refine below_set ?_ GE197.out) | exact HB.out))⟩)
                            · skip
                              rintro gb197 w35 ⟨hS_, h0_, h1_, h2_, h3_, h4_, h5_, h6_, h7_, h8_, h9_, h10_, h11_, h12_, h13_, h14_, h15_⟩
                              have n0_ : Aside0 (w35.heap[gb183]? = some (.cells #[.int .u64 a0_0, .int .i64 a0_1] 24 (0, 0))) := ⟨h0_⟩
                              have n1_ : Aside0 (w35.heap[gb184]? = some (.cells #[.int .u64 a1_0, .int .i64 a1_1] 24 (0, 0))) := ⟨h1_⟩
                              have n2_ : Aside0 (w35.heap[gb188]? = some (.cells #[.int .u64 t185, .int .i64 t186] 24 (0, 0))) := ⟨h2_⟩
                              have n3_ : Aside0 (w35.heap[gb192]? = some (.cells #[.int .u64 t189, .int .i64 t190] 24 (0, 0))) := ⟨h3_⟩
                              have n4_ : Aside0 (w35.heap[gb197]? = some (.cells #[.int .u64 0, .int .i64 0] 24 (0, 0))) := ⟨h4_⟩
                              have n5_ : Aside0 (w.heap.size ≤ gb197) := ⟨h5_⟩
                              have n6_ : Aside0 (w.heap.size ≤ gb197) := ⟨h6_⟩
                              have n7_ : Aside0 (gb183 ≠ gb197) := ⟨h7_⟩
                              have n8_ : Aside0 (gb197 ≠ gb183) := ⟨h8_⟩
                              have n9_ : Aside0 (gb184 ≠ gb197) := ⟨h9_⟩
                              have n10_ : Aside0 (gb197 ≠ gb184) := ⟨h10_⟩
                              have n11_ : Aside0 (gb188 ≠ gb197) := ⟨h11_⟩
                              have n12_ : Aside0 (gb197 ≠ gb188) := ⟨h12_⟩
                              have n13_ : Aside0 (gb192 ≠ gb197) := ⟨h13_⟩
                              have n14_ : Aside0 (gb197 ≠ gb192) := ⟨h14_⟩
                              have n15_ : Aside0 (Below w.heap.size w w35) := ⟨h15_⟩
                              clear BK183
                              clear BK184
                              clear BK188
                              clear BK192
                              clear HB
                              clear h0_ h1_ h2_ h3_ h4_ h5_ h6_ h7_ h8_ h9_ h10_ h11_ h12_ h13_ h14_ h15_
                              have BK183 := n0_
                              have BK184 := n1_
                              have BK188 := n2_
                              have BK192 := n3_
                              have BK197 := n4_
                              have GW197 := n5_
                              have GE197 := n6_
                              have NB183_197 := n7_
                              have NB197_183 := n8_
                              have NB184_197 := n9_
                              have NB197_184 := n10_
                              have NB188_197 := n11_
                              have NB197_188 := n12_
                              have NB192_197 := n13_
                              have NB197_192 := n14_
                              have HB := n15_
                              clear n0_ n1_ n2_ n3_ n4_ n5_ n6_ n7_ n8_ n9_ n10_ n11_ n12_ n13_ n14_ n15_
                              have hHeld : w35.cell? ⟨gb183, 0, none⟩ = some (.int .u64 a0_0) ∧ w35.cell? ⟨gb183, 1, none⟩ = some (.int .i64 a0_1) ∧ w35.cell? ⟨gb184, 0, none⟩ = some (.int .u64 a1_0) ∧ w35.cell? ⟨gb184, 1, none⟩ = some (.int .i64 a1_1) := hS_
                              refine norm_ (a' := ?_) ?_ ?_
                              rotate_left
                              · simp only [putAll, Act.put, List.setIfInBounds_toArray, List.set_cons_zero, List.set_cons_succ]
                                rfl
                              refine two_ (i := 4) (j := 11) (Ni := some 31) (Nj := some 10) #[true, true, true, true, true, true, true, true, true, false, true, false, false, false] #[true, true, true, true, false, true, true, true, true, false, true, true, false, false] rfl rfl rfl rfl (two_of HT_.out (by kernel_rfl)) (by decide) (by decide) (fun K hK => ?_) (fun K hK => ?_)
                              · skip
                                refine goes_ Try.func17 (by kernel_rfl) rfl #[.int .u64 a0_0, .int .i64 a0_1, .int .i64 1048576] (by rfl) rfl rfl (by (try simp only [List.map_toArray, List.map_cons, List.map_nil]); first | done | rfl | (simp only [List.length_drop, List.length_take]; rfl)) ?_
                                with_reducible refine (stockyardlaw22_made.calls a0_0 a0_1 1048576 t193 t194 _ A5.out).mono ?_
                                rintro e w36 ⟨rfl, hb⟩
                                refine ⟨_, rfl, ?_⟩
                                have n0_ := Aside0.mk (blk_below (g := gb183) (o := .cells #[.int .u64 a0_0, .int .i64 a0_1] 24 (0, 0)) (by (with_reducible repeat (first | refine blk_drewN ?_ _ | refine blk_drew ?_ | refine blk_alloc ?_ _)); exact BK183.out) hb)
                                have n1_ := Aside0.mk (blk_below (g := gb184) (o := .cells #[.int .u64 a1_0, .int .i64 a1_1] 24 (0, 0)) (by (with_reducible repeat (first | refine blk_drewN ?_ _ | refine blk_drew ?_ | refine blk_alloc ?_ _)); exact BK184.out) hb)
                                have n2_ := Aside0.mk (blk_below (g := gb188) (o := .cells #[.int .u64 t185, .int .i64 t186] 24 (0, 0)) (by (with_reducible repeat (first | refine blk_drewN ?_ _ | refine blk_drew ?_ | refine blk_alloc ?_ _)); exact BK188.out) hb)
                                have n3_ := Aside0.mk (blk_below (g := gb192) (o := .cells #[.int .u64 t189, .int .i64 t190] 24 (0, 0)) (by (with_reducible repeat (first | refine blk_drewN ?_ _ | refine blk_drew ?_ | refine blk_alloc ?_ _)); exact BK192.out) hb)
                                have n4_ := Aside0.mk (blk_below (g := gb197) (o := .cells #[.int .u64 0, .int .i64 0] 24 (0, 0)) (by (with_reducible repeat (first | refine blk_drewN ?_ _ | refine blk_drew ?_ | refine blk_alloc ?_ _)); exact BK197.out) hb)
                                have n5_ := Aside0.mk (below_step (by repeat (first | (with_reducible first | exact HB.out | apply below_alloc | apply pw_below_drewN | apply below_drew1 | refine below_set ?_ GE183.out | refine below_set ?_ GE184.out | refine below_set ?_ GE188.out | refine below_set ?_ GE192.out | refine below_set ?_ GE197.out) | exact HB.out)) hb)
                                clear BK183
                                clear BK184
                                clear BK188
                                clear BK192
                                clear BK197
                                clear HB
                                have BK183 := n0_
                                have BK184 := n1_
                                have BK188 := n2_
                                have BK192 := n3_
                                have BK197 := n4_
                                have HB := n5_
                                clear n0_ n1_ n2_ n3_ n4_ n5_
                                (try clear hb)
                                (try clear hb2)
                                (try clear hk)
                                (try clear hi)
                                refine hK.out _ _ ⟨(blk_cell BK183.out 0).trans rfl, (blk_cell BK183.out 1).trans rfl, (blk_cell BK184.out 0).trans rfl, (blk_cell BK184.out 1).trans rfl⟩ (fun hHeld => ?_)
                                clear hK K
                                refine norm_ (a' := ?_) ?_ ?_
                                rotate_left
                                · show Act.put _ (some 31) _ = _
                                  simp only [Act.put, List.setIfInBounds_toArray, List.set_cons_zero, List.set_cons_succ, i64_w, i32_w]
                                  rfl
                                exact norm_ (by first | (simp only [putAll, Act.put, List.setIfInBounds_toArray, List.set_cons_zero, List.set_cons_succ]; done) | (simp only [putAll, Act.put, List.setIfInBounds_toArray, List.set_cons_zero, List.set_cons_succ]; rfl)) (hJ4_10 (gb197) _ ⟨hHeld, (by (with_reducible repeat (first | refine blk_drewN ?_ _ | refine blk_drew ?_ | refine blk_alloc ?_ _)); exact BK183.out), (by (with_reducible repeat (first | refine blk_drewN ?_ _ | refine blk_drew ?_ | refine blk_alloc ?_ _)); exact BK184.out), (by (with_reducible repeat (first | refine blk_drewN ?_ _ | refine blk_drew ?_ | refine blk_alloc ?_ _)); exact BK188.out), (by (with_reducible repeat (first | refine blk_drewN ?_ _ | refine blk_drew ?_ | refine blk_alloc ?_ _)); exact BK192.out), (by (with_reducible repeat (first | refine blk_drewN ?_ _ | refine blk_drew ?_ | refine blk_alloc ?_ _)); exact BK197.out), GW197.out, GE197.out, NB183_197.out, NB197_183.out, NB184_197.out, NB197_184.out, NB188_197.out, NB197_188.out, NB192_197.out, NB197_192.out, (by repeat (first | (with_reducible first | exact HB.out | apply below_alloc | apply pw_below_drewN | apply below_drew1 | refine below_set ?_ GE183.out | refine below_set ?_ GE184.out | refine below_set ?_ GE188.out | refine below_set ?_ GE192.out | refine below_set ?_ GE197.out) | exact HB.out))⟩)
                              · skip
                                refine box_step ?hg (N := 10) ?hd (cs := #[.int .u64 0, .int .i64 0]) (t := 24) ?hr ?_; (case hd => rfl); (case hg => rfl); (case hr => first | (go_simp; done) | (go_simp; rfl))
                                intro gb198 hg w36 hbox hb
                                have n0_ := Aside0.mk (blk_below (g := gb183) (o := .cells #[.int .u64 a0_0, .int .i64 a0_1] 24 (0, 0)) (by (with_reducible repeat (first | refine blk_drewN ?_ _ | refine blk_drew ?_ | refine blk_alloc ?_ _)); exact BK183.out) hb)
                                have n1_ := Aside0.mk (blk_below (g := gb184) (o := .cells #[.int .u64 a1_0, .int .i64 a1_1] 24 (0, 0)) (by (with_reducible repeat (first | refine blk_drewN ?_ _ | refine blk_drew ?_ | refine blk_alloc ?_ _)); exact BK184.out) hb)
                                have n2_ := Aside0.mk (blk_below (g := gb188) (o := .cells #[.int .u64 t185, .int .i64 t186] 24 (0, 0)) (by (with_reducible repeat (first | refine blk_drewN ?_ _ | refine blk_drew ?_ | refine blk_alloc ?_ _)); exact BK188.out) hb)
                                have n3_ := Aside0.mk (blk_below (g := gb192) (o := .cells #[.int .u64 t189, .int .i64 t190] 24 (0, 0)) (by (with_reducible repeat (first | refine blk_drewN ?_ _ | refine blk_drew ?_ | refine blk_alloc ?_ _)); exact BK192.out) hb)
                                have n4_ := Aside0.mk (blk_below (g := gb197) (o := .cells #[.int .u64 0, .int .i64 0] 24 (0, 0)) (by (with_reducible repeat (first | refine blk_drewN ?_ _ | refine blk_drew ?_ | refine blk_alloc ?_ _)); exact BK197.out) hb)
                                have n5_ := Aside0.mk (below_step (by repeat (first | (with_reducible first | exact HB.out | apply below_alloc | apply pw_below_drewN | apply below_drew1 | refine below_set ?_ GE183.out | refine below_set ?_ GE184.out | refine below_set ?_ GE188.out | refine below_set ?_ GE192.out | refine below_set ?_ GE197.out) | exact HB.out)) hb)
                                have n6_ := Aside0.mk (hbox)
                                have n7_ := Aside0.mk ((by rw [hg]; exact (below_size (by repeat (first | (with_reducible first | exact HB.out | apply below_alloc | apply pw_below_drewN | apply below_drew1 | refine below_set ?_ GE183.out | refine below_set ?_ GE184.out | refine below_set ?_ GE188.out | refine below_set ?_ GE192.out | refine below_set ?_ GE197.out) | exact HB.out))) : w.heap.size ≤ gb198))
                                have n8_ := Aside0.mk ((by rw [hg]; exact (below_size (by repeat (first | (with_reducible first | exact HB.out | apply below_alloc | apply pw_below_drewN | apply below_drew1 | refine below_set ?_ GE183.out | refine below_set ?_ GE184.out | refine below_set ?_ GE188.out | refine below_set ?_ GE192.out | refine below_set ?_ GE197.out) | exact HB.out))) : w.heap.size ≤ gb198))
                                have n9_ := Aside0.mk ((by rw [hg]; exact Nat.ne_of_lt (blk_lt (g := gb183) (o := .cells #[.int .u64 a0_0, .int .i64 a0_1] 24 (0, 0)) (by (with_reducible repeat (first | refine blk_drewN ?_ _ | refine blk_drew ?_ | refine blk_alloc ?_ _)); exact BK183.out)) : gb183 ≠ gb198))
                                have n10_ := Aside0.mk ((by rw [hg]; exact Nat.ne_of_gt (blk_lt (g := gb183) (o := .cells #[.int .u64 a0_0, .int .i64 a0_1] 24 (0, 0)) (by (with_reducible repeat (first | refine blk_drewN ?_ _ | refine blk_drew ?_ | refine blk_alloc ?_ _)); exact BK183.out)) : gb198 ≠ gb183))
                                have n11_ := Aside0.mk ((by rw [hg]; exact Nat.ne_of_lt (blk_lt (g := gb184) (o := .cells #[.int .u64 a1_0, .int .i64 a1_1] 24 (0, 0)) (by (with_reducible repeat (first | refine blk_drewN ?_ _ | refine blk_drew ?_ | refine blk_alloc ?_ _)); exact BK184.out)) : gb184 ≠ gb198))
                                have n12_ := Aside0.mk ((by rw [hg]; exact Nat.ne_of_gt (blk_lt (g := gb184) (o := .cells #[.int .u64 a1_0, .int .i64 a1_1] 24 (0, 0)) (by (with_reducible repeat (first | refine blk_drewN ?_ _ | refine blk_drew ?_ | refine blk_alloc ?_ _)); exact BK184.out)) : gb198 ≠ gb184))
                                have n13_ := Aside0.mk ((by rw [hg]; exact Nat.ne_of_lt (blk_lt (g := gb188) (o := .cells #[.int .u64 t185, .int .i64 t186] 24 (0, 0)) (by (with_reducible repeat (first | refine blk_drewN ?_ _ | refine blk_drew ?_ | refine blk_alloc ?_ _)); exact BK188.out)) : gb188 ≠ gb198))
                                have n14_ := Aside0.mk ((by rw [hg]; exact Nat.ne_of_gt (blk_lt (g := gb188) (o := .cells #[.int .u64 t185, .int .i64 t186] 24 (0, 0)) (by (with_reducible repeat (first | refine blk_drewN ?_ _ | refine blk_drew ?_ | refine blk_alloc ?_ _)); exact BK188.out)) : gb198 ≠ gb188))
                                have n15_ := Aside0.mk ((by rw [hg]; exact Nat.ne_of_lt (blk_lt (g := gb192) (o := .cells #[.int .u64 t189, .int .i64 t190] 24 (0, 0)) (by (with_reducible repeat (first | refine blk_drewN ?_ _ | refine blk_drew ?_ | refine blk_alloc ?_ _)); exact BK192.out)) : gb192 ≠ gb198))
                                have n16_ := Aside0.mk ((by rw [hg]; exact Nat.ne_of_gt (blk_lt (g := gb192) (o := .cells #[.int .u64 t189, .int .i64 t190] 24 (0, 0)) (by (with_reducible repeat (first | refine blk_drewN ?_ _ | refine blk_drew ?_ | refine blk_alloc ?_ _)); exact BK192.out)) : gb198 ≠ gb192))
                                have n17_ := Aside0.mk ((by rw [hg]; exact Nat.ne_of_lt (blk_lt (g := gb197) (o := .cells #[.int .u64 0, .int .i64 0] 24 (0, 0)) (by (with_reducible repeat (first | refine blk_drewN ?_ _ | refine blk_drew ?_ | refine blk_alloc ?_ _)); exact BK197.out)) : gb197 ≠ gb198))
                                have n18_ := Aside0.mk ((by rw [hg]; exact Nat.ne_of_gt (blk_lt (g := gb197) (o := .cells #[.int .u64 0, .int .i64 0] 24 (0, 0)) (by (with_reducible repeat (first | refine blk_drewN ?_ _ | refine blk_drew ?_ | refine blk_alloc ?_ _)); exact BK197.out)) : gb198 ≠ gb197))
                                clear BK183
                                clear BK184
                                clear BK188
                                clear BK192
                                clear BK197
                                clear HB
                                have BK183 := n0_
                                have BK184 := n1_
                                have BK188 := n2_
                                have BK192 := n3_
                                have BK197 := n4_
                                have HB := n5_
                                have BK198 := n6_
                                have GW198 := n7_
                                have GE198 := n8_
                                have NB183_198 := n9_
                                have NB198_183 := n10_
                                have NB184_198 := n11_
                                have NB198_184 := n12_
                                have NB188_198 := n13_
                                have NB198_188 := n14_
                                have NB192_198 := n15_
                                have NB198_192 := n16_
                                have NB197_198 := n17_
                                have NB198_197 := n18_
                                clear n0_ n1_ n2_ n3_ n4_ n5_ n6_ n7_ n8_ n9_ n10_ n11_ n12_ n13_ n14_ n15_ n16_ n17_ n18_
                                clear hb hbox hg
                                refine hK.out _ _ ⟨(blk_cell BK183.out 0).trans rfl, (blk_cell BK183.out 1).trans rfl, (blk_cell BK184.out 0).trans rfl, (blk_cell BK184.out 1).trans rfl⟩ (fun hHeld => ?_)
                                clear hK K
                                refine norm_ (a' := ?_) ?_ ?_
                                rotate_left
                                · show Act.put _ (some 10) _ = _
                                  simp only [Act.put, List.setIfInBounds_toArray, List.set_cons_zero, List.set_cons_succ, i64_w, i32_w]
                                  rfl
                                exact norm_ (by first | (simp only [putAll, Act.put, List.setIfInBounds_toArray, List.set_cons_zero, List.set_cons_succ]; done) | (simp only [putAll, Act.put, List.setIfInBounds_toArray, List.set_cons_zero, List.set_cons_succ]; rfl)) (hJ10_11 (gb197, gb198) _ ⟨hHeld, (by (with_reducible repeat (first | refine blk_drewN ?_ _ | refine blk_drew ?_ | refine blk_alloc ?_ _)); exact BK183.out), (by (with_reducible repeat (first | refine blk_drewN ?_ _ | refine blk_drew ?_ | refine blk_alloc ?_ _)); exact BK184.out), (by (with_reducible repeat (first | refine blk_drewN ?_ _ | refine blk_drew ?_ | refine blk_alloc ?_ _)); exact BK188.out), (by (with_reducible repeat (first | refine blk_drewN ?_ _ | refine blk_drew ?_ | refine blk_alloc ?_ _)); exact BK192.out), (by (with_reducible repeat (first | refine blk_drewN ?_ _ | refine blk_drew ?_ | refine blk_alloc ?_ _)); exact BK197.out), (by (with_reducible repeat (first | refine blk_drewN ?_ _ | refine blk_drew ?_ | refine blk_alloc ?_ _)); exact BK198.out), GW197.out, GE197.out, NB183_197.out, NB197_183.out, NB184_197.out, NB197_184.out, NB188_197.out, NB197_188.out, NB192_197.out, NB197_192.out, NB198_197.out, NB197_198.out, GW198.out, GE198.out, NB183_198.out, NB198_183.out, NB184_198.out, NB198_184.out, NB188_198.out, NB198_188.out, NB192_198.out, NB198_192.out, (by repeat (first | (with_reducible first | exact HB.out | apply below_alloc | apply pw_below_drewN | apply below_drew1 | refine below_set ?_ GE183.out | refine below_set ?_ GE184.out | refine below_set ?_ GE188.out | refine below_set ?_ GE192.out | refine below_set ?_ GE197.out | refine below_set ?_ GE198.out) | exact HB.out))⟩)
                          · skip
                            rintro _ w35 ⟨hS_, h0_, h1_, h2_, h3_, h4_⟩
                            have n0_ : Aside0 (w35.heap[gb183]? = some (.cells #[.int .u64 a0_0, .int .i64 a0_1] 24 (0, 0))) := ⟨h0_⟩
                            have n1_ : Aside0 (w35.heap[gb184]? = some (.cells #[.int .u64 a1_0, .int .i64 a1_1] 24 (0, 0))) := ⟨h1_⟩
                            have n2_ : Aside0 (w35.heap[gb188]? = some (.cells #[.int .u64 t185, .int .i64 t186] 24 (0, 0))) := ⟨h2_⟩
                            have n3_ : Aside0 (w35.heap[gb192]? = some (.cells #[.int .u64 t189, .int .i64 t190] 24 (0, 0))) := ⟨h3_⟩
                            have n4_ : Aside0 (Below w.heap.size w w35) := ⟨h4_⟩
                            clear BK183
                            clear BK184
                            clear BK188
                            clear BK192
                            clear HB
                            clear h0_ h1_ h2_ h3_ h4_
                            have BK183 := n0_
                            have BK184 := n1_
                            have BK188 := n2_
                            have BK192 := n3_
                            have HB := n4_
                            clear n0_ n1_ n2_ n3_ n4_
                            have hHeld : w35.cell? ⟨gb183, 0, none⟩ = some (.int .u64 a0_0) ∧ w35.cell? ⟨gb183, 1, none⟩ = some (.int .i64 a0_1) ∧ w35.cell? ⟨gb184, 0, none⟩ = some (.int .u64 a1_0) ∧ w35.cell? ⟨gb184, 1, none⟩ = some (.int .i64 a1_1) := hS_
                            refine norm_ (a' := ?_) ?_ ?_
                            rotate_left
                            · simp only [putAll, Act.put, List.setIfInBounds_toArray, List.set_cons_zero, List.set_cons_succ]
                              rfl
                            refine three_ (i := 9) (j := 10) (k := 11) (Ni := some 36) (Nj := some 9) (Nk := some 10) #[true, true, true, true, true, true, true, true, true, true, false, false, false, false] #[true, true, true, true, true, true, true, true, true, false, true, false, false, false] #[true, true, true, true, true, true, true, true, true, false, false, true, false, false] rfl rfl rfl rfl rfl rfl (three_of HT_.out (by kernel_rfl)) (by decide) (by decide) (by decide) (fun K hK => ?_) (fun K hK => ?_) (fun K hK => ?_)
                            · skip
                              refine goes_ Try.func17 (by kernel_rfl) rfl #[.int .u64 a1_0, .int .i64 a1_1, .int .i64 1048576] (by rfl) rfl rfl (by (try simp only [List.map_toArray, List.map_cons, List.map_nil]); first | done | rfl | (simp only [List.length_drop, List.length_take]; rfl)) ?_
                              with_reducible refine (stockyardlaw22_made.calls a1_0 a1_1 1048576 t195 t196 _ A6.out).mono ?_
                              rintro e w36 ⟨rfl, hb⟩
                              refine ⟨_, rfl, ?_⟩
                              have n0_ := Aside0.mk (blk_below (g := gb183) (o := .cells #[.int .u64 a0_0, .int .i64 a0_1] 24 (0, 0)) (by (with_reducible repeat (first | refine blk_drewN ?_ _ | refine blk_drew ?_ | refine blk_alloc ?_ _)); exact BK183.out) hb)
                              have n1_ := Aside0.mk (blk_below (g := gb184) (o := .cells #[.int .u64 a1_0, .int .i64 a1_1] 24 (0, 0)) (by (with_reducible repeat (first | refine blk_drewN ?_ _ | refine blk_drew ?_ | refine blk_alloc ?_ _)); exact BK184.out) hb)
                              have n2_ := Aside0.mk (blk_below (g := gb188) (o := .cells #[.int .u64 t185, .int .i64 t186] 24 (0, 0)) (by (with_reducible repeat (first | refine blk_drewN ?_ _ | refine blk_drew ?_ | refine blk_alloc ?_ _)); exact BK188.out) hb)
                              have n3_ := Aside0.mk (blk_below (g := gb192) (o := .cells #[.int .u64 t189, .int .i64 t190] 24 (0, 0)) (by (with_reducible repeat (first | refine blk_drewN ?_ _ | refine blk_drew ?_ | refine blk_alloc ?_ _)); exact BK192.out) hb)
                              have n4_ := Aside0.mk (below_step (by repeat (first | (with_reducible first | exact HB.out | apply below_alloc | apply pw_below_drewN | apply below_drew1 | refine below_set ?_ GE183.out | refine below_set ?_ GE184.out | refine below_set ?_ GE188.out | refine below_set ?_ GE192.out) | exact HB.out)) hb)
                              clear BK183
                              clear BK184
                              clear BK188
                              clear BK192
                              clear HB
                              have BK183 := n0_
                              have BK184 := n1_
                              have BK188 := n2_
                              have BK192 := n3_
                              have HB := n4_
                              clear n0_ n1_ n2_ n3_ n4_
                              (try clear hb)
                              (try clear hb2)
                              (try clear hk)
                              (try clear hi)
                              refine hK.out _ _ ⟨(blk_cell BK183.out 0).trans rfl, (blk_cell BK183.out 1).trans rfl, (blk_cell BK184.out 0).trans rfl, (blk_cell BK184.out 1).trans rfl⟩ (fun hHeld => ?_)
                              clear hK K
                              refine norm_ (a' := ?_) ?_ ?_
                              rotate_left
                              · show Act.put _ (some 36) _ = _
                                simp only [Act.put, List.setIfInBounds_toArray, List.set_cons_zero, List.set_cons_succ, i64_w, i32_w]
                                rfl
                              exact norm_ (by first | (simp only [putAll, Act.put, List.setIfInBounds_toArray, List.set_cons_zero, List.set_cons_succ]; done) | (simp only [putAll, Act.put, List.setIfInBounds_toArray, List.set_cons_zero, List.set_cons_succ]; rfl)) (hJ4_9 () _ ⟨hHeld, (by (with_reducible repeat (first | refine blk_drewN ?_ _ | refine blk_drew ?_ | refine blk_alloc ?_ _)); exact BK183.out), (by (with_reducible repeat (first | refine blk_drewN ?_ _ | refine blk_drew ?_ | refine blk_alloc ?_ _)); exact BK184.out), (by (with_reducible repeat (first | refine blk_drewN ?_ _ | refine blk_drew ?_ | refine blk_alloc ?_ _)); exact BK188.out), (by (with_reducible repeat (first | refine blk_drewN ?_ _ | refine blk_drew ?_ | refine blk_alloc ?_ _)); exact BK192.out), (by repeat (first | (with_reducible first | exact HB.out | apply below_alloc | apply pw_below_drewN | apply below_drew1 | refine below_set ?_ GE183.out | refine below_set ?_ GE184.out | refine below_set ?_ GE188.out | refine below_set ?_ GE192.out) | exact HB.out))⟩)
                            · skip
                              refine box_step ?hg (N := 9) ?hd (cs := #[.int .u64 0, .int .i64 0]) (t := 24) ?hr ?_; (case hd => rfl); (case hg => rfl); (case hr => first | (go_simp; done) | (go_simp; rfl))
                              intro gb197 hg w36 hbox hb
                              have n0_ := Aside0.mk (blk_below (g := gb183) (o := .cells #[.int .u64 a0_0, .int .i64 a0_1] 24 (0, 0)) (by (with_reducible repeat (first | refine blk_drewN ?_ _ | refine blk_drew ?_ | refine blk_alloc ?_ _)); exact BK183.out) hb)
                              have n1_ := Aside0.mk (blk_below (g := gb184) (o := .cells #[.int .u64 a1_0, .int .i64 a1_1] 24 (0, 0)) (by (with_reducible repeat (first | refine blk_drewN ?_ _ | refine blk_drew ?_ | refine blk_alloc ?_ _)); exact BK184.out) hb)
                              have n2_ := Aside0.mk (blk_below (g := gb188) (o := .cells #[.int .u64 t185, .int .i64 t186] 24 (0, 0)) (by (with_reducible repeat (first | refine blk_drewN ?_ _ | refine blk_drew ?_ | refine blk_alloc ?_ _)); exact BK188.out) hb)
                              have n3_ := Aside0.mk (blk_below (g := gb192) (o := .cells #[.int .u64 t189, .int .i64 t190] 24 (0, 0)) (by (with_reducible repeat (first | refine blk_drewN ?_ _ | refine blk_drew ?_ | refine blk_alloc ?_ _)); exact BK192.out) hb)
                              have n4_ := Aside0.mk (below_step (by repeat (first | (with_reducible first | exact HB.out | apply below_alloc | apply pw_below_drewN | apply below_drew1 | refine below_set ?_ GE183.out | refine below_set ?_ GE184.out | refine below_set ?_ GE188.out | refine below_set ?_ GE192.out) | exact HB.out)) hb)
                              have n5_ := Aside0.mk (hbox)
                              have n6_ := Aside0.mk ((by rw [hg]; exact (below_size (by repeat (first | (with_reducible first | exact HB.out | apply below_alloc | apply pw_below_drewN | apply below_drew1 | refine below_set ?_ GE183.out | refine below_set ?_ GE184.out | refine below_set ?_ GE188.out | refine below_set ?_ GE192.out) | exact HB.out))) : w.heap.size ≤ gb197))
                              have n7_ := Aside0.mk ((by rw [hg]; exact (below_size (by repeat (first | (with_reducible first | exact HB.out | apply below_alloc | apply pw_below_drewN | apply below_drew1 | refine below_set ?_ GE183.out | refine below_set ?_ GE184.out | refine below_set ?_ GE188.out | refine below_set ?_ GE192.out) | exact HB.out))) : w.heap.size ≤ gb197))
                              have n8_ := Aside0.mk ((by rw [hg]; exact Nat.ne_of_lt (blk_lt (g := gb183) (o := .cells #[.int .u64 a0_0, .int .i64 a0_1] 24 (0, 0)) (by (with_reducible repeat (first | refine blk_drewN ?_ _ | refine blk_drew ?_ | refine blk_alloc ?_ _)); exact BK183.out)) : gb183 ≠ gb197))
                              have n9_ := Aside0.mk ((by rw [hg]; exact Nat.ne_of_gt (blk_lt (g := gb183) (o := .cells #[.int .u64 a0_0, .int .i64 a0_1] 24 (0, 0)) (by (with_reducible repeat (first | refine blk_drewN ?_ _ | refine blk_drew ?_ | refine blk_alloc ?_ _)); exact BK183.out)) : gb197 ≠ gb183))
                              have n10_ := Aside0.mk ((by rw [hg]; exact Nat.ne_of_lt (blk_lt (g := gb184) (o := .cells #[.int .u64 a1_0, .int .i64 a1_1] 24 (0, 0)) (by (with_reducible repeat (first | refine blk_drewN ?_ _ | refine blk_drew ?_ | refine blk_alloc ?_ _)); exact BK184.out)) : gb184 ≠ gb197))
                              have n11_ := Aside0.mk ((by rw [hg]; exact Nat.ne_of_gt (blk_lt (g := gb184) (o := .cells #[.int .u64 a1_0, .int .i64 a1_1] 24 (0, 0)) (by (with_reducible repeat (first | refine blk_drewN ?_ _ | refine blk_drew ?_ | refine blk_alloc ?_ _)); exact BK184.out)) : gb197 ≠ gb184))
                              have n12_ := Aside0.mk ((by rw [hg]; exact Nat.ne_of_lt (blk_lt (g := gb188) (o := .cells #[.int .u64 t185, .int .i64 t186] 24 (0, 0)) (by (with_reducible repeat (first | refine blk_drewN ?_ _ | refine blk_drew ?_ | refine blk_alloc ?_ _)); exact BK188.out)) : gb188 ≠ gb197))
                              have n13_ := Aside0.mk ((by rw [hg]; exact Nat.ne_of_gt (blk_lt (g := gb188) (o := .cells #[.int .u64 t185, .int .i64 t186] 24 (0, 0)) (by (with_reducible repeat (first | refine blk_drewN ?_ _ | refine blk_drew ?_ | refine blk_alloc ?_ _)); exact BK188.out)) : gb197 ≠ gb188))
                              have n14_ := Aside0.mk ((by rw [hg]; exact Nat.ne_of_lt (blk_lt (g := gb192) (o := .cells #[.int .u64 t189, .int .i64 t190] 24 (0, 0)) (by (with_reducible repeat (first | refine blk_drewN ?_ _ | refine blk_drew ?_ | refine blk_alloc ?_ _)); exact BK192.out)) : gb192 ≠ gb197))
                              have n15_ := Aside0.mk ((by rw [hg]; exact Nat.ne_of_gt (blk_lt (g := gb192) (o := .cells #[.int .u64 t189, .int .i64 t190] 24 (0, 0)) (by (with_reducible repeat (first | refine blk_drewN ?_ _ | refine blk_drew ?_ | refine blk_alloc ?_ _)); exact BK192.out)) : gb197 ≠ gb192))
                              clear BK183
                              clear BK184
                              clear BK188
                              clear BK192
                              clear HB
                              have BK183 := n0_
                              have BK184 := n1_
                              have BK188 := n2_
                              have BK192 := n3_
                              have HB := n4_
                              have BK197 := n5_
                              have GW197 := n6_
                              have GE197 := n7_
                              have NB183_197 := n8_
                              have NB197_183 := n9_
                              have NB184_197 := n10_
                              have NB197_184 := n11_
                              have NB188_197 := n12_
                              have NB197_188 := n13_
                              have NB192_197 := n14_
                              have NB197_192 := n15_
                              clear n0_ n1_ n2_ n3_ n4_ n5_ n6_ n7_ n8_ n9_ n10_ n11_ n12_ n13_ n14_ n15_
                              clear hb hbox hg
                              refine hK.out _ _ ⟨(blk_cell BK183.out 0).trans rfl, (blk_cell BK183.out 1).trans rfl, (blk_cell BK184.out 0).trans rfl, (blk_cell BK184.out 1).trans rfl⟩ (fun hHeld => ?_)
                              clear hK K
                              refine norm_ (a' := ?_) ?_ ?_
                              rotate_left
                              · show Act.put _ (some 9) _ = _
                                simp only [Act.put, List.setIfInBounds_toArray, List.set_cons_zero, List.set_cons_succ, i64_w, i32_w]
                                rfl
                              exact norm_ (by first | (simp only [putAll, Act.put, List.setIfInBounds_toArray, List.set_cons_zero, List.set_cons_succ]; done) | (simp only [putAll, Act.put, List.setIfInBounds_toArray, List.set_cons_zero, List.set_cons_succ]; rfl)) (hJ4_10 (gb197) _ ⟨hHeld, (by (with_reducible repeat (first | refine blk_drewN ?_ _ | refine blk_drew ?_ | refine blk_alloc ?_ _)); exact BK183.out), (by (with_reducible repeat (first | refine blk_drewN ?_ _ | refine blk_drew ?_ | refine blk_alloc ?_ _)); exact BK184.out), (by (with_reducible repeat (first | refine blk_drewN ?_ _ | refine blk_drew ?_ | refine blk_alloc ?_ _)); exact BK188.out), (by (with_reducible repeat (first | refine blk_drewN ?_ _ | refine blk_drew ?_ | refine blk_alloc ?_ _)); exact BK192.out), (by (with_reducible repeat (first | refine blk_drewN ?_ _ | refine blk_drew ?_ | refine blk_alloc ?_ _)); exact BK197.out), GW197.out, GE197.out, NB183_197.out, NB197_183.out, NB184_197.out, NB197_184.out, NB188_197.out, NB197_188.out, NB192_197.out, NB197_192.out, (by repeat (first | (with_reducible first | exact HB.out | apply below_alloc | apply pw_below_drewN | apply below_drew1 | refine below_set ?_ GE183.out | refine below_set ?_ GE184.out | refine below_set ?_ GE188.out | refine below_set ?_ GE192.out | refine below_set ?_ GE197.out) | exact HB.out))⟩)
                            · skip
                              refine box_step ?hg (N := 10) ?hd (cs := #[.int .u64 0, .int .i64 0]) (t := 24) ?hr ?_; (case hd => rfl); (case hg => rfl); (case hr => first | (go_simp; done) | (go_simp; rfl))
                              intro gb198 hg w36 hbox hb
                              have n0_ := Aside0.mk (blk_below (g := gb183) (o := .cells #[.int .u64 a0_0, .int .i64 a0_1] 24 (0, 0)) (by (with_reducible repeat (first | refine blk_drewN ?_ _ | refine blk_drew ?_ | refine blk_alloc ?_ _)); exact BK183.out) hb)
                              have n1_ := Aside0.mk (blk_below (g := gb184) (o := .cells #[.int .u64 a1_0, .int .i64 a1_1] 24 (0, 0)) (by (with_reducible repeat (first | refine blk_drewN ?_ _ | refine blk_drew ?_ | refine blk_alloc ?_ _)); exact BK184.out) hb)
                              have n2_ := Aside0.mk (blk_below (g := gb188) (o := .cells #[.int .u64 t185, .int .i64 t186] 24 (0, 0)) (by (with_reducible repeat (first | refine blk_drewN ?_ _ | refine blk_drew ?_ | refine blk_alloc ?_ _)); exact BK188.out) hb)
                              have n3_ := Aside0.mk (blk_below (g := gb192) (o := .cells #[.int .u64 t189, .int .i64 t190] 24 (0, 0)) (by (with_reducible repeat (first | refine blk_drewN ?_ _ | refine blk_drew ?_ | refine blk_alloc ?_ _)); exact BK192.out) hb)
                              have n4_ := Aside0.mk (below_step (by repeat (first | (with_reducible first | exact HB.out | apply below_alloc | apply pw_below_drewN | apply below_drew1 | refine below_set ?_ GE183.out | refine below_set ?_ GE184.out | refine below_set ?_ GE188.out | refine below_set ?_ GE192.out) | exact HB.out)) hb)
                              have n5_ := Aside0.mk (hbox)
                              have n6_ := Aside0.mk ((by rw [hg]; exact (below_size (by repeat (first | (with_reducible first | exact HB.out | apply below_alloc | apply pw_below_drewN | apply below_drew1 | refine below_set ?_ GE183.out | refine below_set ?_ GE184.out | refine below_set ?_ GE188.out | refine below_set ?_ GE192.out) | exact HB.out))) : w.heap.size ≤ gb198))
                              have n7_ := Aside0.mk ((by rw [hg]; exact (below_size (by repeat (first | (with_reducible first | exact HB.out | apply below_alloc | apply pw_below_drewN | apply below_drew1 | refine below_set ?_ GE183.out | refine below_set ?_ GE184.out | refine below_set ?_ GE188.out | refine below_set ?_ GE192.out) | exact HB.out))) : w.heap.size ≤ gb198))
                              have n8_ := Aside0.mk ((by rw [hg]; exact Nat.ne_of_lt (blk_lt (g := gb183) (o := .cells #[.int .u64 a0_0, .int .i64 a0_1] 24 (0, 0)) (by (with_reducible repeat (first | refine blk_drewN ?_ _ | refine blk_drew ?_ | refine blk_alloc ?_ _)); exact BK183.out)) : gb183 ≠ gb198))
                              have n9_ := Aside0.mk ((by rw [hg]; exact Nat.ne_of_gt (blk_lt (g := gb183) (o := .cells #[.int .u64 a0_0, .int .i64 a0_1] 24 (0, 0)) (by (with_reducible repeat (first | refine blk_drewN ?_ _ | refine blk_drew ?_ | refine blk_alloc ?_ _)); exact BK183.out)) : gb198 ≠ gb183))
                              have n10_ := Aside0.mk ((by rw [hg]; exact Nat.ne_of_lt (blk_lt (g := gb184) (o := .cells #[.int .u64 a1_0, .int .i64 a1_1] 24 (0, 0)) (by (with_reducible repeat (first | refine blk_drewN ?_ _ | refine blk_drew ?_ | refine blk_alloc ?_ _)); exact BK184.out)) : gb184 ≠ gb198))
                              have n11_ := Aside0.mk ((by rw [hg]; exact Nat.ne_of_gt (blk_lt (g := gb184) (o := .cells #[.int .u64 a1_0, .int .i64 a1_1] 24 (0, 0)) (by (with_reducible repeat (first | refine blk_drewN ?_ _ | refine blk_drew ?_ | refine blk_alloc ?_ _)); exact BK184.out)) : gb198 ≠ gb184))
                              have n12_ := Aside0.mk ((by rw [hg]; exact Nat.ne_of_lt (blk_lt (g := gb188) (o := .cells #[.int .u64 t185, .int .i64 t186] 24 (0, 0)) (by (with_reducible repeat (first | refine blk_drewN ?_ _ | refine blk_drew ?_ | refine blk_alloc ?_ _)); exact BK188.out)) : gb188 ≠ gb198))
                              have n13_ := Aside0.mk ((by rw [hg]; exact Nat.ne_of_gt (blk_lt (g := gb188) (o := .cells #[.int .u64 t185, .int .i64 t186] 24 (0, 0)) (by (with_reducible repeat (first | refine blk_drewN ?_ _ | refine blk_drew ?_ | refine blk_alloc ?_ _)); exact BK188.out)) : gb198 ≠ gb188))
                              have n14_ := Aside0.mk ((by rw [hg]; exact Nat.ne_of_lt (blk_lt (g := gb192) (o := .cells #[.int .u64 t189, .int .i64 t190] 24 (0, 0)) (by (with_reducible repeat (first | refine blk_drewN ?_ _ | refine blk_drew ?_ | refine blk_alloc ?_ _)); exact BK192.out)) : gb192 ≠ gb198))
                              have n15_ := Aside0.mk ((by rw [hg]; exact Nat.ne_of_gt (blk_lt (g := gb192) (o := .cells #[.int .u64 t189, .int .i64 t190] 24 (0, 0)) (by (with_reducible repeat (first | refine blk_drewN ?_ _ | refine blk_drew ?_ | refine blk_alloc ?_ _)); exact BK192.out)) : gb198 ≠ gb192))
                              clear BK183
                              clear BK184
                              clear BK188
                              clear BK192
                              clear HB
                              have BK183 := n0_
                              have BK184 := n1_
                              have BK188 := n2_
                              have BK192 := n3_
                              have HB := n4_
                              have BK198 := n5_
                              have GW198 := n6_
                              have GE198 := n7_
                              have NB183_198 := n8_
                              have NB198_183 := n9_
                              have NB184_198 := n10_
                              have NB198_184 := n11_
                              have NB188_198 := n12_
                              have NB198_188 := n13_
                              have NB192_198 := n14_
                              have NB198_192 := n15_
                              clear n0_ n1_ n2_ n3_ n4_ n5_ n6_ n7_ n8_ n9_ n10_ n11_ n12_ n13_ n14_ n15_
                              clear hb hbox hg
                              refine hK.out _ _ ⟨(blk_cell BK183.out 0).trans rfl, (blk_cell BK183.out 1).trans rfl, (blk_cell BK184.out 0).trans rfl, (blk_cell BK184.out 1).trans rfl⟩ (fun hHeld => ?_)
                              clear hK K
                              refine norm_ (a' := ?_) ?_ ?_
                              rotate_left
                              · show Act.put _ (some 10) _ = _
                                simp only [Act.put, List.setIfInBounds_toArray, List.set_cons_zero, List.set_cons_succ, i64_w, i32_w]
                                rfl
                              exact norm_ (by first | (simp only [putAll, Act.put, List.setIfInBounds_toArray, List.set_cons_zero, List.set_cons_succ]; done) | (simp only [putAll, Act.put, List.setIfInBounds_toArray, List.set_cons_zero, List.set_cons_succ]; rfl)) (hJ4_11 (gb198) _ ⟨hHeld, (by (with_reducible repeat (first | refine blk_drewN ?_ _ | refine blk_drew ?_ | refine blk_alloc ?_ _)); exact BK183.out), (by (with_reducible repeat (first | refine blk_drewN ?_ _ | refine blk_drew ?_ | refine blk_alloc ?_ _)); exact BK184.out), (by (with_reducible repeat (first | refine blk_drewN ?_ _ | refine blk_drew ?_ | refine blk_alloc ?_ _)); exact BK188.out), (by (with_reducible repeat (first | refine blk_drewN ?_ _ | refine blk_drew ?_ | refine blk_alloc ?_ _)); exact BK192.out), (by (with_reducible repeat (first | refine blk_drewN ?_ _ | refine blk_drew ?_ | refine blk_alloc ?_ _)); exact BK198.out), GW198.out, GE198.out, NB183_198.out, NB198_183.out, NB184_198.out, NB198_184.out, NB188_198.out, NB198_188.out, NB192_198.out, NB198_192.out, (by repeat (first | (with_reducible first | exact HB.out | apply below_alloc | apply pw_below_drewN | apply below_drew1 | refine below_set ?_ GE183.out | refine below_set ?_ GE184.out | refine below_set ?_ GE188.out | refine below_set ?_ GE192.out | refine below_set ?_ GE198.out) | exact HB.out))⟩)
                        · skip
                          rintro ⟨gb197, gb198⟩ w36 ⟨hS_, h0_, h1_, h2_, h3_, h4_, h5_, h6_, h7_, h8_, h9_, h10_, h11_, h12_, h13_, h14_, h15_, h16_, h17_, h18_, h19_, h20_, h21_, h22_, h23_, h24_, h25_, h26_, h27_, h28_⟩
                          have n0_ : Aside0 (w36.heap[gb183]? = some (.cells #[.int .u64 a0_0, .int .i64 a0_1] 24 (0, 0))) := ⟨h0_⟩
                          have n1_ : Aside0 (w36.heap[gb184]? = some (.cells #[.int .u64 a1_0, .int .i64 a1_1] 24 (0, 0))) := ⟨h1_⟩
                          have n2_ : Aside0 (w36.heap[gb188]? = some (.cells #[.int .u64 t185, .int .i64 t186] 24 (0, 0))) := ⟨h2_⟩
                          have n3_ : Aside0 (w36.heap[gb192]? = some (.cells #[.int .u64 t189, .int .i64 t190] 24 (0, 0))) := ⟨h3_⟩
                          have n4_ : Aside0 (w36.heap[gb197]? = some (.cells #[.int .u64 0, .int .i64 0] 24 (0, 0))) := ⟨h4_⟩
                          have n5_ : Aside0 (w36.heap[gb198]? = some (.cells #[.int .u64 0, .int .i64 0] 24 (0, 0))) := ⟨h5_⟩
                          have n6_ : Aside0 (w.heap.size ≤ gb197) := ⟨h6_⟩
                          have n7_ : Aside0 (w.heap.size ≤ gb197) := ⟨h7_⟩
                          have n8_ : Aside0 (gb183 ≠ gb197) := ⟨h8_⟩
                          have n9_ : Aside0 (gb197 ≠ gb183) := ⟨h9_⟩
                          have n10_ : Aside0 (gb184 ≠ gb197) := ⟨h10_⟩
                          have n11_ : Aside0 (gb197 ≠ gb184) := ⟨h11_⟩
                          have n12_ : Aside0 (gb188 ≠ gb197) := ⟨h12_⟩
                          have n13_ : Aside0 (gb197 ≠ gb188) := ⟨h13_⟩
                          have n14_ : Aside0 (gb192 ≠ gb197) := ⟨h14_⟩
                          have n15_ : Aside0 (gb197 ≠ gb192) := ⟨h15_⟩
                          have n16_ : Aside0 (gb198 ≠ gb197) := ⟨h16_⟩
                          have n17_ : Aside0 (gb197 ≠ gb198) := ⟨h17_⟩
                          have n18_ : Aside0 (w.heap.size ≤ gb198) := ⟨h18_⟩
                          have n19_ : Aside0 (w.heap.size ≤ gb198) := ⟨h19_⟩
                          have n20_ : Aside0 (gb183 ≠ gb198) := ⟨h20_⟩
                          have n21_ : Aside0 (gb198 ≠ gb183) := ⟨h21_⟩
                          have n22_ : Aside0 (gb184 ≠ gb198) := ⟨h22_⟩
                          have n23_ : Aside0 (gb198 ≠ gb184) := ⟨h23_⟩
                          have n24_ : Aside0 (gb188 ≠ gb198) := ⟨h24_⟩
                          have n25_ : Aside0 (gb198 ≠ gb188) := ⟨h25_⟩
                          have n26_ : Aside0 (gb192 ≠ gb198) := ⟨h26_⟩
                          have n27_ : Aside0 (gb198 ≠ gb192) := ⟨h27_⟩
                          have n28_ : Aside0 (Below w.heap.size w w36) := ⟨h28_⟩
                          clear BK183
                          clear BK184
                          clear BK188
                          clear BK192
                          clear HB
                          clear h0_ h1_ h2_ h3_ h4_ h5_ h6_ h7_ h8_ h9_ h10_ h11_ h12_ h13_ h14_ h15_ h16_ h17_ h18_ h19_ h20_ h21_ h22_ h23_ h24_ h25_ h26_ h27_ h28_
                          have BK183 := n0_
                          have BK184 := n1_
                          have BK188 := n2_
                          have BK192 := n3_
                          have BK197 := n4_
                          have BK198 := n5_
                          have GW197 := n6_
                          have GE197 := n7_
                          have NB183_197 := n8_
                          have NB197_183 := n9_
                          have NB184_197 := n10_
                          have NB197_184 := n11_
                          have NB188_197 := n12_
                          have NB197_188 := n13_
                          have NB192_197 := n14_
                          have NB197_192 := n15_
                          have NB198_197 := n16_
                          have NB197_198 := n17_
                          have GW198 := n18_
                          have GE198 := n19_
                          have NB183_198 := n20_
                          have NB198_183 := n21_
                          have NB184_198 := n22_
                          have NB198_184 := n23_
                          have NB188_198 := n24_
                          have NB198_188 := n25_
                          have NB192_198 := n26_
                          have NB198_192 := n27_
                          have HB := n28_
                          clear n0_ n1_ n2_ n3_ n4_ n5_ n6_ n7_ n8_ n9_ n10_ n11_ n12_ n13_ n14_ n15_ n16_ n17_ n18_ n19_ n20_ n21_ n22_ n23_ n24_ n25_ n26_ n27_ n28_
                          have hHeld : w36.cell? ⟨gb183, 0, none⟩ = some (.int .u64 a0_0) ∧ w36.cell? ⟨gb183, 1, none⟩ = some (.int .i64 a0_1) ∧ w36.cell? ⟨gb184, 0, none⟩ = some (.int .u64 a1_0) ∧ w36.cell? ⟨gb184, 1, none⟩ = some (.int .i64 a1_1) := hS_
                          refine norm_ (a' := ?_) ?_ ?_
                          rotate_left
                          · simp only [putAll, Act.put, List.setIfInBounds_toArray, List.set_cons_zero, List.set_cons_succ]
                            rfl
                          refine one_ (i := 4) (N := some 31) #[true, true, true, true, true, true, true, true, true, false, true, true, false, false] rfl rfl (one_of HT_.out (by kernel_rfl)) (by decide) (fun K hK => ?_)
                          refine goes_ Try.func17 (by kernel_rfl) rfl #[.int .u64 a0_0, .int .i64 a0_1, .int .i64 1048576] (by rfl) rfl rfl (by (try simp only [List.map_toArray, List.map_cons, List.map_nil]); first | done | rfl | (simp only [List.length_drop, List.length_take]; rfl)) ?_
                          with_reducible refine (stockyardlaw22_made.calls a0_0 a0_1 1048576 t193 t194 _ A5.out).mono ?_
                          rintro e w37 ⟨rfl, hb⟩
                          refine ⟨_, rfl, ?_⟩
                          have n0_ := Aside0.mk (blk_below (g := gb183) (o := .cells #[.int .u64 a0_0, .int .i64 a0_1] 24 (0, 0)) (by (with_reducible repeat (first | refine blk_drewN ?_ _ | refine blk_drew ?_ | refine blk_alloc ?_ _)); exact BK183.out) hb)
                          have n1_ := Aside0.mk (blk_below (g := gb184) (o := .cells #[.int .u64 a1_0, .int .i64 a1_1] 24 (0, 0)) (by (with_reducible repeat (first | refine blk_drewN ?_ _ | refine blk_drew ?_ | refine blk_alloc ?_ _)); exact BK184.out) hb)
                          have n2_ := Aside0.mk (blk_below (g := gb188) (o := .cells #[.int .u64 t185, .int .i64 t186] 24 (0, 0)) (by (with_reducible repeat (first | refine blk_drewN ?_ _ | refine blk_drew ?_ | refine blk_alloc ?_ _)); exact BK188.out) hb)
                          have n3_ := Aside0.mk (blk_below (g := gb192) (o := .cells #[.int .u64 t189, .int .i64 t190] 24 (0, 0)) (by (with_reducible repeat (first | refine blk_drewN ?_ _ | refine blk_drew ?_ | refine blk_alloc ?_ _)); exact BK192.out) hb)
                          have n4_ := Aside0.mk (blk_below (g := gb197) (o := .cells #[.int .u64 0, .int .i64 0] 24 (0, 0)) (by (with_reducible repeat (first | refine blk_drewN ?_ _ | refine blk_drew ?_ | refine blk_alloc ?_ _)); exact BK197.out) hb)
                          have n5_ := Aside0.mk (blk_below (g := gb198) (o := .cells #[.int .u64 0, .int .i64 0] 24 (0, 0)) (by (with_reducible repeat (first | refine blk_drewN ?_ _ | refine blk_drew ?_ | refine blk_alloc ?_ _)); exact BK198.out) hb)
                          have n6_ := Aside0.mk (below_step (by repeat (first | (with_reducible first | exact HB.out | apply below_alloc | apply pw_below_drewN | apply below_drew1 | refine below_set ?_ GE183.out | refine below_set ?_ GE184.out | refine below_set ?_ GE188.out | refine below_set ?_ GE192.out | refine below_set ?_ GE197.out | refine below_set ?_ GE198.out) | exact HB.out)) hb)
                          clear BK183
                          clear BK184
                          clear BK188
                          clear BK192
                          clear BK197
                          clear BK198
                          clear HB
                          have BK183 := n0_
                          have BK184 := n1_
                          have BK188 := n2_
                          have BK192 := n3_
                          have BK197 := n4_
                          have BK198 := n5_
                          have HB := n6_
                          clear n0_ n1_ n2_ n3_ n4_ n5_ n6_
                          (try clear hb)
                          (try clear hb2)
                          (try clear hk)
                          (try clear hi)
                          refine hK.out _ _ ⟨(blk_cell BK183.out 0).trans rfl, (blk_cell BK183.out 1).trans rfl, (blk_cell BK184.out 0).trans rfl, (blk_cell BK184.out 1).trans rfl⟩ (fun hHeld => ?_)
                          clear hK K
                          refine norm_ (a' := ?_) ?_ ?_
                          rotate_left
                          · show Act.put _ (some 31) _ = _
                            simp only [Act.put, List.setIfInBounds_toArray, List.set_cons_zero, List.set_cons_succ, i64_w, i32_w]
                            rfl
                          exact norm_ (by first | (simp only [putAll, Act.put, List.setIfInBounds_toArray, List.set_cons_zero, List.set_cons_succ]; done) | (simp only [putAll, Act.put, List.setIfInBounds_toArray, List.set_cons_zero, List.set_cons_succ]; rfl)) (hJ4_10_11 (gb197, gb198) _ ⟨hHeld, (by (with_reducible repeat (first | refine blk_drewN ?_ _ | refine blk_drew ?_ | refine blk_alloc ?_ _)); exact BK183.out), (by (with_reducible repeat (first | refine blk_drewN ?_ _ | refine blk_drew ?_ | refine blk_alloc ?_ _)); exact BK184.out), (by (with_reducible repeat (first | refine blk_drewN ?_ _ | refine blk_drew ?_ | refine blk_alloc ?_ _)); exact BK188.out), (by (with_reducible repeat (first | refine blk_drewN ?_ _ | refine blk_drew ?_ | refine blk_alloc ?_ _)); exact BK192.out), (by (with_reducible repeat (first | refine blk_drewN ?_ _ | refine blk_drew ?_ | refine blk_alloc ?_ _)); exact BK197.out), (by (with_reducible repeat (first | refine blk_drewN ?_ _ | refine blk_drew ?_ | refine blk_alloc ?_ _)); exact BK198.out), GW197.out, GE197.out, NB183_197.out, NB197_183.out, NB184_197.out, NB197_184.out, NB188_197.out, NB197_188.out, NB192_197.out, NB197_192.out, NB198_197.out, NB197_198.out, GW198.out, GE198.out, NB183_198.out, NB198_183.out, NB184_198.out, NB198_184.out, NB188_198.out, NB198_188.out, NB192_198.out, NB198_192.out, (by repeat (first | (with_reducible first | exact HB.out | apply below_alloc | apply pw_below_drewN | apply below_drew1 | refine below_set ?_ GE183.out | refine below_set ?_ GE184.out | refine below_set ?_ GE188.out | refine below_set ?_ GE192.out | refine below_set ?_ GE197.out | refine below_set ?_ GE198.out) | exact HB.out))⟩)
                      · skip
                        rintro gb198 w36 ⟨hS_, h0_, h1_, h2_, h3_, h4_, h5_, h6_, h7_, h8_, h9_, h10_, h11_, h12_, h13_, h14_, h15_⟩
                        have n0_ : Aside0 (w36.heap[gb183]? = some (.cells #[.int .u64 a0_0, .int .i64 a0_1] 24 (0, 0))) := ⟨h0_⟩
                        have n1_ : Aside0 (w36.heap[gb184]? = some (.cells #[.int .u64 a1_0, .int .i64 a1_1] 24 (0, 0))) := ⟨h1_⟩
                        have n2_ : Aside0 (w36.heap[gb188]? = some (.cells #[.int .u64 t185, .int .i64 t186] 24 (0, 0))) := ⟨h2_⟩
                        have n3_ : Aside0 (w36.heap[gb192]? = some (.cells #[.int .u64 t189, .int .i64 t190] 24 (0, 0))) := ⟨h3_⟩
                        have n4_ : Aside0 (w36.heap[gb198]? = some (.cells #[.int .u64 0, .int .i64 0] 24 (0, 0))) := ⟨h4_⟩
                        have n5_ : Aside0 (w.heap.size ≤ gb198) := ⟨h5_⟩
                        have n6_ : Aside0 (w.heap.size ≤ gb198) := ⟨h6_⟩
                        have n7_ : Aside0 (gb183 ≠ gb198) := ⟨h7_⟩
                        have n8_ : Aside0 (gb198 ≠ gb183) := ⟨h8_⟩
                        have n9_ : Aside0 (gb184 ≠ gb198) := ⟨h9_⟩
                        have n10_ : Aside0 (gb198 ≠ gb184) := ⟨h10_⟩
                        have n11_ : Aside0 (gb188 ≠ gb198) := ⟨h11_⟩
                        have n12_ : Aside0 (gb198 ≠ gb188) := ⟨h12_⟩
                        have n13_ : Aside0 (gb192 ≠ gb198) := ⟨h13_⟩
                        have n14_ : Aside0 (gb198 ≠ gb192) := ⟨h14_⟩
                        have n15_ : Aside0 (Below w.heap.size w w36) := ⟨h15_⟩
                        clear BK183
                        clear BK184
                        clear BK188
                        clear BK192
                        clear HB
                        clear h0_ h1_ h2_ h3_ h4_ h5_ h6_ h7_ h8_ h9_ h10_ h11_ h12_ h13_ h14_ h15_
                        have BK183 := n0_
                        have BK184 := n1_
                        have BK188 := n2_
                        have BK192 := n3_
                        have BK198 := n4_
                        have GW198 := n5_
                        have GE198 := n6_
                        have NB183_198 := n7_
                        have NB198_183 := n8_
                        have NB184_198 := n9_
                        have NB198_184 := n10_
                        have NB188_198 := n11_
                        have NB198_188 := n12_
                        have NB192_198 := n13_
                        have NB198_192 := n14_
                        have HB := n15_
                        clear n0_ n1_ n2_ n3_ n4_ n5_ n6_ n7_ n8_ n9_ n10_ n11_ n12_ n13_ n14_ n15_
                        have hHeld : w36.cell? ⟨gb183, 0, none⟩ = some (.int .u64 a0_0) ∧ w36.cell? ⟨gb183, 1, none⟩ = some (.int .i64 a0_1) ∧ w36.cell? ⟨gb184, 0, none⟩ = some (.int .u64 a1_0) ∧ w36.cell? ⟨gb184, 1, none⟩ = some (.int .i64 a1_1) := hS_
                        refine norm_ (a' := ?_) ?_ ?_
                        rotate_left
                        · simp only [putAll, Act.put, List.setIfInBounds_toArray, List.set_cons_zero, List.set_cons_succ]
                          rfl
                        refine two_ (i := 9) (j := 10) (Ni := some 36) (Nj := some 9) #[true, true, true, true, true, true, true, true, true, true, false, true, false, false] #[true, true, true, true, true, true, true, true, true, false, true, true, false, false] rfl rfl rfl rfl (two_of HT_.out (by kernel_rfl)) (by decide) (by decide) (fun K hK => ?_) (fun K hK => ?_)
                        · skip
                          refine goes_ Try.func17 (by kernel_rfl) rfl #[.int .u64 a1_0, .int .i64 a1_1, .int .i64 1048576] (by rfl) rfl rfl (by (try simp only [List.map_toArray, List.map_cons, List.map_nil]); first | done | rfl | (simp only [List.length_drop, List.length_take]; rfl)) ?_
                          with_reducible refine (stockyardlaw22_made.calls a1_0 a1_1 1048576 t195 t196 _ A6.out).mono ?_
                          rintro e w37 ⟨rfl, hb⟩
                          refine ⟨_, rfl, ?_⟩
                          have n0_ := Aside0.mk (blk_below (g := gb183) (o := .cells #[.int .u64 a0_0, .int .i64 a0_1] 24 (0, 0)) (by (with_reducible repeat (first | refine blk_drewN ?_ _ | refine blk_drew ?_ | refine blk_alloc ?_ _)); exact BK183.out) hb)
                          have n1_ := Aside0.mk (blk_below (g := gb184) (o := .cells #[.int .u64 a1_0, .int .i64 a1_1] 24 (0, 0)) (by (with_reducible repeat (first | refine blk_drewN ?_ _ | refine blk_drew ?_ | refine blk_alloc ?_ _)); exact BK184.out) hb)
                          have n2_ := Aside0.mk (blk_below (g := gb188) (o := .cells #[.int .u64 t185, .int .i64 t186] 24 (0, 0)) (by (with_reducible repeat (first | refine blk_drewN ?_ _ | refine blk_drew ?_ | refine blk_alloc ?_ _)); exact BK188.out) hb)
                          have n3_ := Aside0.mk (blk_below (g := gb192) (o := .cells #[.int .u64 t189, .int .i64 t190] 24 (0, 0)) (by (with_reducible repeat (first | refine blk_drewN ?_ _ | refine blk_drew ?_ | refine blk_alloc ?_ _)); exact BK192.out) hb)
                          have n4_ := Aside0.mk (blk_below (g := gb198) (o := .cells #[.int .u64 0, .int .i64 0] 24 (0, 0)) (by (with_reducible repeat (first | refine blk_drewN ?_ _ | refine blk_drew ?_ | refine blk_alloc ?_ _)); exact BK198.out) hb)
                          have n5_ := Aside0.mk (below_step (by repeat (first | (with_reducible first | exact HB.out | apply below_alloc | apply pw_below_drewN | apply below_drew1 | refine below_set ?_ GE183.out | refine below_set ?_ GE184.out | refine below_set ?_ GE188.out | refine below_set ?_ GE192.out | refine below_set ?_ GE198.out) | exact HB.out)) hb)
                          clear BK183
                          clear BK184
                          clear BK188
                          clear BK192
                          clear BK198
                          clear HB
                          have BK183 := n0_
                          have BK184 := n1_
                          have BK188 := n2_
                          have BK192 := n3_
                          have BK198 := n4_
                          have HB := n5_
                          clear n0_ n1_ n2_ n3_ n4_ n5_
                          (try clear hb)
                          (try clear hb2)
                          (try clear hk)
                          (try clear hi)
                          refine hK.out _ _ ⟨(blk_cell BK183.out 0).trans rfl, (blk_cell BK183.out 1).trans rfl, (blk_cell BK184.out 0).trans rfl, (blk_cell BK184.out 1).trans rfl⟩ (fun hHeld => ?_)
                          clear hK K
                          refine norm_ (a' := ?_) ?_ ?_
                          rotate_left
                          · show Act.put _ (some 36) _ = _
                            simp only [Act.put, List.setIfInBounds_toArray, List.set_cons_zero, List.set_cons_succ, i64_w, i32_w]
                            rfl
                          exact norm_ (by first | (simp only [putAll, Act.put, List.setIfInBounds_toArray, List.set_cons_zero, List.set_cons_succ]; done) | (simp only [putAll, Act.put, List.setIfInBounds_toArray, List.set_cons_zero, List.set_cons_succ]; rfl)) (hJ4_9_11 (gb198) _ ⟨hHeld, (by (with_reducible repeat (first | refine blk_drewN ?_ _ | refine blk_drew ?_ | refine blk_alloc ?_ _)); exact BK183.out), (by (with_reducible repeat (first | refine blk_drewN ?_ _ | refine blk_drew ?_ | refine blk_alloc ?_ _)); exact BK184.out), (by (with_reducible repeat (first | refine blk_drewN ?_ _ | refine blk_drew ?_ | refine blk_alloc ?_ _)); exact BK188.out), (by (with_reducible repeat (first | refine blk_drewN ?_ _ | refine blk_drew ?_ | refine blk_alloc ?_ _)); exact BK192.out), (by (with_reducible repeat (first | refine blk_drewN ?_ _ | refine blk_drew ?_ | refine blk_alloc ?_ _)); exact BK198.out), GW198.out, GE198.out, NB183_198.out, NB198_183.out, NB184_198.out, NB198_184.out, NB188_198.out, NB198_188.out, NB192_198.out, NB198_192.out, (by repeat (first | (with_reducible first | exact HB.out | apply below_alloc | apply pw_below_drewN | apply below_drew1 | refine below_set ?_ GE183.out | refine below_set ?_ GE184.out | refine below_set ?_ GE188.out | refine below_set ?_ GE192.out | refine below_set ?_ GE198.out) | exact HB.out))⟩)
                        · skip
                          refine box_step ?hg (N := 9) ?hd (cs := #[.int .u64 0, .int .i64 0]) (t := 24) ?hr ?_; (case hd => rfl); (case hg => rfl); (case hr => first | (go_simp; done) | (go_simp; rfl))
                          intro gb197 hg w37 hbox hb
                          have n0_ := Aside0.mk (blk_below (g := gb183) (o := .cells #[.int .u64 a0_0, .int .i64 a0_1] 24 (0, 0)) (by (with_reducible repeat (first | refine blk_drewN ?_ _ | refine blk_drew ?_ | refine blk_alloc ?_ _)); exact BK183.out) hb)
                          have n1_ := Aside0.mk (blk_below (g := gb184) (o := .cells #[.int .u64 a1_0, .int .i64 a1_1] 24 (0, 0)) (by (with_reducible repeat (first | refine blk_drewN ?_ _ | refine blk_drew ?_ | refine blk_alloc ?_ _)); exact BK184.out) hb)
                          have n2_ := Aside0.mk (blk_below (g := gb188) (o := .cells #[.int .u64 t185, .int .i64 t186] 24 (0, 0)) (by (with_reducible repeat (first | refine blk_drewN ?_ _ | refine blk_drew ?_ | refine blk_alloc ?_ _)); exact BK188.out) hb)
                          have n3_ := Aside0.mk (blk_below (g := gb192) (o := .cells #[.int .u64 t189, .int .i64 t190] 24 (0, 0)) (by (with_reducible repeat (first | refine blk_drewN ?_ _ | refine blk_drew ?_ | refine blk_alloc ?_ _)); exact BK192.out) hb)
                          have n4_ := Aside0.mk (blk_below (g := gb198) (o := .cells #[.int .u64 0, .int .i64 0] 24 (0, 0)) (by (with_reducible repeat (first | refine blk_drewN ?_ _ | refine blk_drew ?_ | refine blk_alloc ?_ _)); exact BK198.out) hb)
                          have n5_ := Aside0.mk (below_step (by repeat (first | (with_reducible first | exact HB.out | apply below_alloc | apply pw_below_drewN | apply below_drew1 | refine below_set ?_ GE183.out | refine below_set ?_ GE184.out | refine below_set ?_ GE188.out | refine below_set ?_ GE192.out | refine below_set ?_ GE198.out) | exact HB.out)) hb)
                          have n6_ := Aside0.mk (hbox)
                          have n7_ := Aside0.mk ((by rw [hg]; exact (below_size (by repeat (first | (with_reducible first | exact HB.out | apply below_alloc | apply pw_below_drewN | apply below_drew1 | refine below_set ?_ GE183.out | refine below_set ?_ GE184.out | refine below_set ?_ GE188.out | refine below_set ?_ GE192.out | refine below_set ?_ GE198.out) | exact HB.out))) : w.heap.size ≤ gb197))
                          have n8_ := Aside0.mk ((by rw [hg]; exact (below_size (by repeat (first | (with_reducible first | exact HB.out | apply below_alloc | apply pw_below_drewN | apply below_drew1 | refine below_set ?_ GE183.out | refine below_set ?_ GE184.out | refine below_set ?_ GE188.out | refine below_set ?_ GE192.out | refine below_set ?_ GE198.out) | exact HB.out))) : w.heap.size ≤ gb197))
                          have n9_ := Aside0.mk ((by rw [hg]; exact Nat.ne_of_lt (blk_lt (g := gb183) (o := .cells #[.int .u64 a0_0, .int .i64 a0_1] 24 (0, 0)) (by (with_reducible repeat (first | refine blk_drewN ?_ _ | refine blk_drew ?_ | refine blk_alloc ?_ _)); exact BK183.out)) : gb183 ≠ gb197))
                          have n10_ := Aside0.mk ((by rw [hg]; exact Nat.ne_of_gt (blk_lt (g := gb183) (o := .cells #[.int .u64 a0_0, .int .i64 a0_1] 24 (0, 0)) (by (with_reducible repeat (first | refine blk_drewN ?_ _ | refine blk_drew ?_ | refine blk_alloc ?_ _)); exact BK183.out)) : gb197 ≠ gb183))
                          have n11_ := Aside0.mk ((by rw [hg]; exact Nat.ne_of_lt (blk_lt (g := gb184) (o := .cells #[.int .u64 a1_0, .int .i64 a1_1] 24 (0, 0)) (by (with_reducible repeat (first | refine blk_drewN ?_ _ | refine blk_drew ?_ | refine blk_alloc ?_ _)); exact BK184.out)) : gb184 ≠ gb197))
                          have n12_ := Aside0.mk ((by rw [hg]; exact Nat.ne_of_gt (blk_lt (g := gb184) (o := .cells #[.int .u64 a1_0, .int .i64 a1_1] 24 (0, 0)) (by (with_reducible repeat (first | refine blk_drewN ?_ _ | refine blk_drew ?_ | refine blk_alloc ?_ _)); exact BK184.out)) : gb197 ≠ gb184))
                          have n13_ := Aside0.mk ((by rw [hg]; exact Nat.ne_of_lt (blk_lt (g := gb188) (o := .cells #[.int .u64 t185, .int .i64 t186] 24 (0, 0)) (by (with_reducible repeat (first | refine blk_drewN ?_ _ | refine blk_drew ?_ | refine blk_alloc ?_ _)); exact BK188.out)) : gb188 ≠ gb197))
                          have n14_ := Aside0.mk ((by rw [hg]; exact Nat.ne_of_gt (blk_lt (g := gb188) (o := .cells #[.int .u64 t185, .int .i64 t186] 24 (0, 0)) (by (with_reducible repeat (first | refine blk_drewN ?_ _ | refine blk_drew ?_ | refine blk_alloc ?_ _)); exact BK188.out)) : gb197 ≠ gb188))
                          have n15_ := Aside0.mk ((by rw [hg]; exact Nat.ne_of_lt (blk_lt (g := gb192) (o := .cells #[.int .u64 t189, .int .i64 t190] 24 (0, 0)) (by (with_reducible repeat (first | refine blk_drewN ?_ _ | refine blk_drew ?_ | refine blk_alloc ?_ _)); exact BK192.out)) : gb192 ≠ gb197))
                          have n16_ := Aside0.mk ((by rw [hg]; exact Nat.ne_of_gt (blk_lt (g := gb192) (o := .cells #[.int .u64 t189, .int .i64 t190] 24 (0, 0)) (by (with_reducible repeat (first | refine blk_drewN ?_ _ | refine blk_drew ?_ | refine blk_alloc ?_ _)); exact BK192.out)) : gb197 ≠ gb192))
                          have n17_ := Aside0.mk ((by rw [hg]; exact Nat.ne_of_lt (blk_lt (g := gb198) (o := .cells #[.int .u64 0, .int .i64 0] 24 (0, 0)) (by (with_reducible repeat (first | refine blk_drewN ?_ _ | refine blk_drew ?_ | refine blk_alloc ?_ _)); exact BK198.out)) : gb198 ≠ gb197))
                          have n18_ := Aside0.mk ((by rw [hg]; exact Nat.ne_of_gt (blk_lt (g := gb198) (o := .cells #[.int .u64 0, .int .i64 0] 24 (0, 0)) (by (with_reducible repeat (first | refine blk_drewN ?_ _ | refine blk_drew ?_ | refine blk_alloc ?_ _)); exact BK198.out)) : gb197 ≠ gb198))
                          clear BK183
                          clear BK184
                          clear BK188
                          clear BK192
                          clear BK198
                          clear HB
                          have BK183 := n0_
                          have BK184 := n1_
                          have BK188 := n2_
                          have BK192 := n3_
                          have BK198 := n4_
                          have HB := n5_
                          have BK197 := n6_
                          have GW197 := n7_
                          have GE197 := n8_
                          have NB183_197 := n9_
                          have NB197_183 := n10_
                          have NB184_197 := n11_
                          have NB197_184 := n12_
                          have NB188_197 := n13_
                          have NB197_188 := n14_
                          have NB192_197 := n15_
                          have NB197_192 := n16_
                          have NB198_197 := n17_
                          have NB197_198 := n18_
                          clear n0_ n1_ n2_ n3_ n4_ n5_ n6_ n7_ n8_ n9_ n10_ n11_ n12_ n13_ n14_ n15_ n16_ n17_ n18_
                          clear hb hbox hg
                          refine hK.out _ _ ⟨(blk_cell BK183.out 0).trans rfl, (blk_cell BK183.out 1).trans rfl, (blk_cell BK184.out 0).trans rfl, (blk_cell BK184.out 1).trans rfl⟩ (fun hHeld => ?_)
                          clear hK K
                          refine norm_ (a' := ?_) ?_ ?_
                          rotate_left
                          · show Act.put _ (some 9) _ = _
                            simp only [Act.put, List.setIfInBounds_toArray, List.set_cons_zero, List.set_cons_succ, i64_w, i32_w]
                            rfl
                          exact norm_ (by first | (simp only [putAll, Act.put, List.setIfInBounds_toArray, List.set_cons_zero, List.set_cons_succ]; done) | (simp only [putAll, Act.put, List.setIfInBounds_toArray, List.set_cons_zero, List.set_cons_succ]; rfl)) (hJ4_10_11 (gb197, gb198) _ ⟨hHeld, (by (with_reducible repeat (first | refine blk_drewN ?_ _ | refine blk_drew ?_ | refine blk_alloc ?_ _)); exact BK183.out), (by (with_reducible repeat (first | refine blk_drewN ?_ _ | refine blk_drew ?_ | refine blk_alloc ?_ _)); exact BK184.out), (by (with_reducible repeat (first | refine blk_drewN ?_ _ | refine blk_drew ?_ | refine blk_alloc ?_ _)); exact BK188.out), (by (with_reducible repeat (first | refine blk_drewN ?_ _ | refine blk_drew ?_ | refine blk_alloc ?_ _)); exact BK192.out), (by (with_reducible repeat (first | refine blk_drewN ?_ _ | refine blk_drew ?_ | refine blk_alloc ?_ _)); exact BK197.out), (by (with_reducible repeat (first | refine blk_drewN ?_ _ | refine blk_drew ?_ | refine blk_alloc ?_ _)); exact BK198.out), GW197.out, GE197.out, NB183_197.out, NB197_183.out, NB184_197.out, NB197_184.out, NB188_197.out, NB197_188.out, NB192_197.out, NB197_192.out, NB198_197.out, NB197_198.out, GW198.out, GE198.out, NB183_198.out, NB198_183.out, NB184_198.out, NB198_184.out, NB188_198.out, NB198_188.out, NB192_198.out, NB198_192.out, (by repeat (first | (with_reducible first | exact HB.out | apply below_alloc | apply pw_below_drewN | apply below_drew1 | refine below_set ?_ GE183.out | refine below_set ?_ GE184.out | refine below_set ?_ GE188.out | refine below_set ?_ GE192.out | refine below_set ?_ GE198.out | refine below_set ?_ GE197.out) | exact HB.out))⟩)
                    · skip
                      rintro gb197 w36 ⟨hS_, h0_, h1_, h2_, h3_, h4_, h5_, h6_, h7_, h8_, h9_, h10_, h11_, h12_, h13_, h14_, h15_⟩
                      have n0_ : Aside0 (w36.heap[gb183]? = some (.cells #[.int .u64 a0_0, .int .i64 a0_1] 24 (0, 0))) := ⟨h0_⟩
                      have n1_ : Aside0 (w36.heap[gb184]? = some (.cells #[.int .u64 a1_0, .int .i64 a1_1] 24 (0, 0))) := ⟨h1_⟩
                      have n2_ : Aside0 (w36.heap[gb188]? = some (.cells #[.int .u64 t185, .int .i64 t186] 24 (0, 0))) := ⟨h2_⟩
                      have n3_ : Aside0 (w36.heap[gb192]? = some (.cells #[.int .u64 t189, .int .i64 t190] 24 (0, 0))) := ⟨h3_⟩
                      have n4_ : Aside0 (w36.heap[gb197]? = some (.cells #[.int .u64 0, .int .i64 0] 24 (0, 0))) := ⟨h4_⟩
                      have n5_ : Aside0 (w.heap.size ≤ gb197) := ⟨h5_⟩
                      have n6_ : Aside0 (w.heap.size ≤ gb197) := ⟨h6_⟩
                      have n7_ : Aside0 (gb183 ≠ gb197) := ⟨h7_⟩
                      have n8_ : Aside0 (gb197 ≠ gb183) := ⟨h8_⟩
                      have n9_ : Aside0 (gb184 ≠ gb197) := ⟨h9_⟩
                      have n10_ : Aside0 (gb197 ≠ gb184) := ⟨h10_⟩
                      have n11_ : Aside0 (gb188 ≠ gb197) := ⟨h11_⟩
                      have n12_ : Aside0 (gb197 ≠ gb188) := ⟨h12_⟩
                      have n13_ : Aside0 (gb192 ≠ gb197) := ⟨h13_⟩
                      have n14_ : Aside0 (gb197 ≠ gb192) := ⟨h14_⟩
                      have n15_ : Aside0 (Below w.heap.size w w36) := ⟨h15_⟩
                      clear BK183
                      clear BK184
                      clear BK188
                      clear BK192
                      clear HB
                      clear h0_ h1_ h2_ h3_ h4_ h5_ h6_ h7_ h8_ h9_ h10_ h11_ h12_ h13_ h14_ h15_
                      have BK183 := n0_
                      have BK184 := n1_
                      have BK188 := n2_
                      have BK192 := n3_
                      have BK197 := n4_
                      have GW197 := n5_
                      have GE197 := n6_
                      have NB183_197 := n7_
                      have NB197_183 := n8_
                      have NB184_197 := n9_
                      have NB197_184 := n10_
                      have NB188_197 := n11_
                      have NB197_188 := n12_
                      have NB192_197 := n13_
                      have NB197_192 := n14_
                      have HB := n15_
                      clear n0_ n1_ n2_ n3_ n4_ n5_ n6_ n7_ n8_ n9_ n10_ n11_ n12_ n13_ n14_ n15_
                      have hHeld : w36.cell? ⟨gb183, 0, none⟩ = some (.int .u64 a0_0) ∧ w36.cell? ⟨gb183, 1, none⟩ = some (.int .i64 a0_1) ∧ w36.cell? ⟨gb184, 0, none⟩ = some (.int .u64 a1_0) ∧ w36.cell? ⟨gb184, 1, none⟩ = some (.int .i64 a1_1) := hS_
                      refine norm_ (a' := ?_) ?_ ?_
                      rotate_left
                      · simp only [putAll, Act.put, List.setIfInBounds_toArray, List.set_cons_zero, List.set_cons_succ]
                        rfl
                      refine two_ (i := 9) (j := 11) (Ni := some 36) (Nj := some 10) #[true, true, true, true, true, true, true, true, true, true, true, false, false, false] #[true, true, true, true, true, true, true, true, true, false, true, true, false, false] rfl rfl rfl rfl (two_of HT_.out (by kernel_rfl)) (by decide) (by decide) (fun K hK => ?_) (fun K hK => ?_)
                      · skip
                        refine goes_ Try.func17 (by kernel_rfl) rfl #[.int .u64 a1_0, .int .i64 a1_1, .int .i64 1048576] (by rfl) rfl rfl (by (try simp only [List.map_toArray, List.map_cons, List.map_nil]); first | done | rfl | (simp only [List.length_drop, List.length_take]; rfl)) ?_
                        with_reducible refine (stockyardlaw22_made.calls a1_0 a1_1 1048576 t195 t196 _ A6.out).mono ?_
                        rintro e w37 ⟨rfl, hb⟩
                        refine ⟨_, rfl, ?_⟩
                        have n0_ := Aside0.mk (blk_below (g := gb183) (o := .cells #[.int .u64 a0_0, .int .i64 a0_1] 24 (0, 0)) (by (with_reducible repeat (first | refine blk_drewN ?_ _ | refine blk_drew ?_ | refine blk_alloc ?_ _)); exact BK183.out) hb)
                        have n1_ := Aside0.mk (blk_below (g := gb184) (o := .cells #[.int .u64 a1_0, .int .i64 a1_1] 24 (0, 0)) (by (with_reducible repeat (first | refine blk_drewN ?_ _ | refine blk_drew ?_ | refine blk_alloc ?_ _)); exact BK184.out) hb)
                        have n2_ := Aside0.mk (blk_below (g := gb188) (o := .cells #[.int .u64 t185, .int .i64 t186] 24 (0, 0)) (by (with_reducible repeat (first | refine blk_drewN ?_ _ | refine blk_drew ?_ | refine blk_alloc ?_ _)); exact BK188.out) hb)
                        have n3_ := Aside0.mk (blk_below (g := gb192) (o := .cells #[.int .u64 t189, .int .i64 t190] 24 (0, 0)) (by (with_reducible repeat (first | refine blk_drewN ?_ _ | refine blk_drew ?_ | refine blk_alloc ?_ _)); exact BK192.out) hb)
                        have n4_ := Aside0.mk (blk_below (g := gb197) (o := .cells #[.int .u64 0, .int .i64 0] 24 (0, 0)) (by (with_reducible repeat (first | refine blk_drewN ?_ _ | refine blk_drew ?_ | refine blk_alloc ?_ _)); exact BK197.out) hb)
                        have n5_ := Aside0.mk (below_step (by repeat (first | (with_reducible first | exact HB.out | apply below_alloc | apply pw_below_drewN | apply below_drew1 | refine below_set ?_ GE183.out | refine below_set ?_ GE184.out | refine below_set ?_ GE188.out | refine below_set ?_ GE192.out | refine below_set ?_ GE197.out) | exact HB.out)) hb)
                        clear BK183
                        clear BK184
                        clear BK188
                        clear BK192
                        clear BK197
                        clear HB
                        have BK183 := n0_
                        have BK184 := n1_
                        have BK188 := n2_
                        have BK192 := n3_
                        have BK197 := n4_
                        have HB := n5_
                        clear n0_ n1_ n2_ n3_ n4_ n5_
                        (try clear hb)
                        (try clear hb2)
                        (try clear hk)
                        (try clear hi)
                        refine hK.out _ _ ⟨(blk_cell BK183.out 0).trans rfl, (blk_cell BK183.out 1).trans rfl, (blk_cell BK184.out 0).trans rfl, (blk_cell BK184.out 1).trans rfl⟩ (fun hHeld => ?_)
                        clear hK K
                        refine norm_ (a' := ?_) ?_ ?_
                        rotate_left
                        · show Act.put _ (some 36) _ = _
                          simp only [Act.put, List.setIfInBounds_toArray, List.set_cons_zero, List.set_cons_succ, i64_w, i32_w]
                          rfl
                        exact norm_ (by first | (simp only [putAll, Act.put, List.setIfInBounds_toArray, List.set_cons_zero, List.set_cons_succ]; done) | (simp only [putAll, Act.put, List.setIfInBounds_toArray, List.set_cons_zero, List.set_cons_succ]; rfl)) (hJ4_9_10 (gb197) _ ⟨hHeld, (by (with_reducible repeat (first | refine blk_drewN ?_ _ | refine blk_drew ?_ | refine blk_alloc ?_ _)); exact BK183.out), (by (with_reducible repeat (first | refine blk_drewN ?_ _ | refine blk_drew ?_ | refine blk_alloc ?_ _)); exact BK184.out), (by (with_reducible repeat (first | refine blk_drewN ?_ _ | refine blk_drew ?_ | refine blk_alloc ?_ _)); exact BK188.out), (by (with_reducible repeat (first | refine blk_drewN ?_ _ | refine blk_drew ?_ | refine blk_alloc ?_ _)); exact BK192.out), (by (with_reducible repeat (first | refine blk_drewN ?_ _ | refine blk_drew ?_ | refine blk_alloc ?_ _)); exact BK197.out), GW197.out, GE197.out, NB183_197.out, NB197_183.out, NB184_197.out, NB197_184.out, NB188_197.out, NB197_188.out, NB192_197.out, NB197_192.out, (by repeat (first | (with_reducible first | exact HB.out | apply below_alloc | apply pw_below_drewN | apply below_drew1 | refine below_set ?_ GE183.out | refine below_set ?_ GE184.out | refine below_set ?_ GE188.out | refine below_set ?_ GE192.out | refine below_set ?_ GE197.out) | exact HB.out))⟩)
                      · skip
                        refine box_step ?hg (N := 10) ?hd (cs := #[.int .u64 0, .int .i64 0]) (t := 24) ?hr ?_; (case hd => rfl); (case hg => rfl); (case hr => first | (go_simp; done) | (go_simp; rfl))
                        intro gb198 hg w37 hbox hb
                        have n0_ := Aside0.mk (blk_below (g := gb183) (o := .cells #[.int .u64 a0_0, .int .i64 a0_1] 24 (0, 0)) (by (with_reducible repeat (first | refine blk_drewN ?_ _ | refine blk_drew ?_ | refine blk_alloc ?_ _)); exact BK183.out) hb)
                        have n1_ := Aside0.mk (blk_below (g := gb184) (o := .cells #[.int .u64 a1_0, .int .i64 a1_1] 24 (0, 0)) (by (with_reducible repeat (first | refine blk_drewN ?_ _ | refine blk_drew ?_ | refine blk_alloc ?_ _)); exact BK184.out) hb)
                        have n2_ := Aside0.mk (blk_below (g := gb188) (o := .cells #[.int .u64 t185, .int .i64 t186] 24 (0, 0)) (by (with_reducible repeat (first | refine blk_drewN ?_ _ | refine blk_drew ?_ | refine blk_alloc ?_ _)); exact BK188.out) hb)
                        have n3_ := Aside0.mk (blk_below (g := gb192) (o := .cells #[.int .u64 t189, .int .i64 t190] 24 (0, 0)) (by (with_reducible repeat (first | refine blk_drewN ?_ _ | refine blk_drew ?_ | refine blk_alloc ?_ _)); exact BK192.out) hb)
                        have n4_ := Aside0.mk (blk_below (g := gb197) (o := .cells #[.int .u64 0, .int .i64 0] 24 (0, 0)) (by (with_reducible repeat (first | refine blk_drewN ?_ _ | refine blk_drew ?_ | refine blk_alloc ?_ _)); exact BK197.out) hb)
                        have n5_ := Aside0.mk (below_step (by repeat (first | (with_reducible first | exact HB.out | apply below_alloc | apply pw_below_drewN | apply below_drew1 | refine below_set ?_ GE183.out | refine below_set ?_ GE184.out | refine below_set ?_ GE188.out | refine below_set ?_ GE192.out | refine below_set ?_ GE197.out) | exact HB.out)) hb)
                        have n6_ := Aside0.mk (hbox)
                        have n7_ := Aside0.mk ((by rw [hg]; exact (below_size (by repeat (first | (with_reducible first | exact HB.out | apply below_alloc | apply pw_below_drewN | apply below_drew1 | refine below_set ?_ GE183.out | refine below_set ?_ GE184.out | refine below_set ?_ GE188.out | refine below_set ?_ GE192.out | refine below_set ?_ GE197.out) | exact HB.out))) : w.heap.size ≤ gb198))
                        have n8_ := Aside0.mk ((by rw [hg]; exact (below_size (by repeat (first | (with_reducible first | exact HB.out | apply below_alloc | apply pw_below_drewN | apply below_drew1 | refine below_set ?_ GE183.out | refine below_set ?_ GE184.out | refine below_set ?_ GE188.out | refine below_set ?_ GE192.out | refine below_set ?_ GE197.out) | exact HB.out))) : w.heap.size ≤ gb198))
                        have n9_ := Aside0.mk ((by rw [hg]; exact Nat.ne_of_lt (blk_lt (g := gb183) (o := .cells #[.int .u64 a0_0, .int .i64 a0_1] 24 (0, 0)) (by (with_reducible repeat (first | refine blk_drewN ?_ _ | refine blk_drew ?_ | refine blk_alloc ?_ _)); exact BK183.out)) : gb183 ≠ gb198))
                        have n10_ := Aside0.mk ((by rw [hg]; exact Nat.ne_of_gt (blk_lt (g := gb183) (o := .cells #[.int .u64 a0_0, .int .i64 a0_1] 24 (0, 0)) (by (with_reducible repeat (first | refine blk_drewN ?_ _ | refine blk_drew ?_ | refine blk_alloc ?_ _)); exact BK183.out)) : gb198 ≠ gb183))
                        have n11_ := Aside0.mk ((by rw [hg]; exact Nat.ne_of_lt (blk_lt (g := gb184) (o := .cells #[.int .u64 a1_0, .int .i64 a1_1] 24 (0, 0)) (by (with_reducible repeat (first | refine blk_drewN ?_ _ | refine blk_drew ?_ | refine blk_alloc ?_ _)); exact BK184.out)) : gb184 ≠ gb198))
                        have n12_ := Aside0.mk ((by rw [hg]; exact Nat.ne_of_gt (blk_lt (g := gb184) (o := .cells #[.int .u64 a1_0, .int .i64 a1_1] 24 (0, 0)) (by (with_reducible repeat (first | refine blk_drewN ?_ _ | refine blk_drew ?_ | refine blk_alloc ?_ _)); exact BK184.out)) : gb198 ≠ gb184))
                        have n13_ := Aside0.mk ((by rw [hg]; exact Nat.ne_of_lt (blk_lt (g := gb188) (o := .cells #[.int .u64 t185, .int .i64 t186] 24 (0, 0)) (by (with_reducible repeat (first | refine blk_drewN ?_ _ | refine blk_drew ?_ | refine blk_alloc ?_ _)); exact BK188.out)) : gb188 ≠ gb198))
                        have n14_ := Aside0.mk ((by rw [hg]; exact Nat.ne_of_gt (blk_lt (g := gb188) (o := .cells #[.int .u64 t185, .int .i64 t186] 24 (0, 0)) (by (with_reducible repeat (first | refine blk_drewN ?_ _ | refine blk_drew ?_ | refine blk_alloc ?_ _)); exact BK188.out)) : gb198 ≠ gb188))
                        have n15_ := Aside0.mk ((by rw [hg]; exact Nat.ne_of_lt (blk_lt (g := gb192) (o := .cells #[.int .u64 t189, .int .i64 t190] 24 (0, 0)) (by (with_reducible repeat (first | refine blk_drewN ?_ _ | refine blk_drew ?_ | refine blk_alloc ?_ _)); exact BK192.out)) : gb192 ≠ gb198))
                        have n16_ := Aside0.mk ((by rw [hg]; exact Nat.ne_of_gt (blk_lt (g := gb192) (o := .cells #[.int .u64 t189, .int .i64 t190] 24 (0, 0)) (by (with_reducible repeat (first | refine blk_drewN ?_ _ | refine blk_drew ?_ | refine blk_alloc ?_ _)); exact BK192.out)) : gb198 ≠ gb192))
                        have n17_ := Aside0.mk ((by rw [hg]; exact Nat.ne_of_lt (blk_lt (g := gb197) (o := .cells #[.int .u64 0, .int .i64 0] 24 (0, 0)) (by (with_reducible repeat (first | refine blk_drewN ?_ _ | refine blk_drew ?_ | refine blk_alloc ?_ _)); exact BK197.out)) : gb197 ≠ gb198))
                        have n18_ := Aside0.mk ((by rw [hg]; exact Nat.ne_of_gt (blk_lt (g := gb197) (o := .cells #[.int .u64 0, .int .i64 0] 24 (0, 0)) (by (with_reducible repeat (first | refine blk_drewN ?_ _ | refine blk_drew ?_ | refine blk_alloc ?_ _)); exact BK197.out)) : gb198 ≠ gb197))
                        clear BK183
                        clear BK184
                        clear BK188
                        clear BK192
                        clear BK197
                        clear HB
                        have BK183 := n0_
                        have BK184 := n1_
                        have BK188 := n2_
                        have BK192 := n3_
                        have BK197 := n4_
                        have HB := n5_
                        have BK198 := n6_
                        have GW198 := n7_
                        have GE198 := n8_
                        have NB183_198 := n9_
                        have NB198_183 := n10_
                        have NB184_198 := n11_
                        have NB198_184 := n12_
                        have NB188_198 := n13_
                        have NB198_188 := n14_
                        have NB192_198 := n15_
                        have NB198_192 := n16_
                        have NB197_198 := n17_
                        have NB198_197 := n18_
                        clear n0_ n1_ n2_ n3_ n4_ n5_ n6_ n7_ n8_ n9_ n10_ n11_ n12_ n13_ n14_ n15_ n16_ n17_ n18_
                        clear hb hbox hg
                        refine hK.out _ _ ⟨(blk_cell BK183.out 0).trans rfl, (blk_cell BK183.out 1).trans rfl, (blk_cell BK184.out 0).trans rfl, (blk_cell BK184.out 1).trans rfl⟩ (fun hHeld => ?_)
                        clear hK K
                        refine norm_ (a' := ?_) ?_ ?_
                        rotate_left
                        · show Act.put _ (some 10) _ = _
                          simp only [Act.put, List.setIfInBounds_toArray, List.set_cons_zero, List.set_cons_succ, i64_w, i32_w]
                          rfl
                        exact norm_ (by first | (simp only [putAll, Act.put, List.setIfInBounds_toArray, List.set_cons_zero, List.set_cons_succ]; done) | (simp only [putAll, Act.put, List.setIfInBounds_toArray, List.set_cons_zero, List.set_cons_succ]; rfl)) (hJ4_10_11 (gb197, gb198) _ ⟨hHeld, (by (with_reducible repeat (first | refine blk_drewN ?_ _ | refine blk_drew ?_ | refine blk_alloc ?_ _)); exact BK183.out), (by (with_reducible repeat (first | refine blk_drewN ?_ _ | refine blk_drew ?_ | refine blk_alloc ?_ _)); exact BK184.out), (by (with_reducible repeat (first | refine blk_drewN ?_ _ | refine blk_drew ?_ | refine blk_alloc ?_ _)); exact BK188.out), (by (with_reducible repeat (first | refine blk_drewN ?_ _ | refine blk_drew ?_ | refine blk_alloc ?_ _)); exact BK192.out), (by (with_reducible repeat (first | refine blk_drewN ?_ _ | refine blk_drew ?_ | refine blk_alloc ?_ _)); exact BK197.out), (by (with_reducible repeat (first | refine blk_drewN ?_ _ | refine blk_drew ?_ | refine blk_alloc ?_ _)); exact BK198.out), GW197.out, GE197.out, NB183_197.out, NB197_183.out, NB184_197.out, NB197_184.out, NB188_197.out, NB197_188.out, NB192_197.out, NB197_192.out, NB198_197.out, NB197_198.out, GW198.out, GE198.out, NB183_198.out, NB198_183.out, NB184_198.out, NB198_184.out, NB188_198.out, NB198_188.out, NB192_198.out, NB198_192.out, (by repeat (first | (with_reducible first | exact HB.out | apply below_alloc | apply pw_below_drewN | apply below_drew1 | refine below_set ?_ GE183.out | refine below_set ?_ GE184.out | refine below_set ?_ GE188.out | refine below_set ?_ GE192.out | refine below_set ?_ GE197.out | refine below_set ?_ GE198.out) | exact HB.out))⟩)
                  · skip
                    rintro _ w36 ⟨hS_, h0_, h1_, h2_, h3_, h4_⟩
                    have n0_ : Aside0 (w36.heap[gb183]? = some (.cells #[.int .u64 a0_0, .int .i64 a0_1] 24 (0, 0))) := ⟨h0_⟩
                    have n1_ : Aside0 (w36.heap[gb184]? = some (.cells #[.int .u64 a1_0, .int .i64 a1_1] 24 (0, 0))) := ⟨h1_⟩
                    have n2_ : Aside0 (w36.heap[gb188]? = some (.cells #[.int .u64 t185, .int .i64 t186] 24 (0, 0))) := ⟨h2_⟩
                    have n3_ : Aside0 (w36.heap[gb192]? = some (.cells #[.int .u64 t189, .int .i64 t190] 24 (0, 0))) := ⟨h3_⟩
                    have n4_ : Aside0 (Below w.heap.size w w36) := ⟨h4_⟩
                    clear BK183
                    clear BK184
                    clear BK188
                    clear BK192
                    clear HB
                    clear h0_ h1_ h2_ h3_ h4_
                    have BK183 := n0_
                    have BK184 := n1_
                    have BK188 := n2_
                    have BK192 := n3_
                    have HB := n4_
                    clear n0_ n1_ n2_ n3_ n4_
                    have hHeld : w36.cell? ⟨gb183, 0, none⟩ = some (.int .u64 a0_0) ∧ w36.cell? ⟨gb183, 1, none⟩ = some (.int .i64 a0_1) ∧ w36.cell? ⟨gb184, 0, none⟩ = some (.int .u64 a1_0) ∧ w36.cell? ⟨gb184, 1, none⟩ = some (.int .i64 a1_1) := hS_
                    refine norm_ (a' := ?_) ?_ ?_
                    rotate_left
                    · simp only [putAll, Act.put, List.setIfInBounds_toArray, List.set_cons_zero, List.set_cons_succ]
                      rfl
                    refine two_ (i := 10) (j := 11) (Ni := some 9) (Nj := some 10) #[true, true, true, true, true, true, true, true, true, true, true, false, false, false] #[true, true, true, true, true, true, true, true, true, true, false, true, false, false] rfl rfl rfl rfl (two_of HT_.out (by kernel_rfl)) (by decide) (by decide) (fun K hK => ?_) (fun K hK => ?_)
                    · skip
                      refine box_step ?hg (N := 9) ?hd (cs := #[.int .u64 0, .int .i64 0]) (t := 24) ?hr ?_; (case hd => rfl); (case hg => rfl); (case hr => first | (go_simp; done) | (go_simp; rfl))
                      intro gb197 hg w37 hbox hb
                      have n0_ := Aside0.mk (blk_below (g := gb183) (o := .cells #[.int .u64 a0_0, .int .i64 a0_1] 24 (0, 0)) (by (with_reducible repeat (first | refine blk_drewN ?_ _ | refine blk_drew ?_ | refine blk_alloc ?_ _)); exact BK183.out) hb)
                      have n1_ := Aside0.mk (blk_below (g := gb184) (o := .cells #[.int .u64 a1_0, .int .i64 a1_1] 24 (0, 0)) (by (with_reducible repeat (first | refine blk_drewN ?_ _ | refine blk_drew ?_ | refine blk_alloc ?_ _)); exact BK184.out) hb)
                      have n2_ := Aside0.mk (blk_below (g := gb188) (o := .cells #[.int .u64 t185, .int .i64 t186] 24 (0, 0)) (by (with_reducible repeat (first | refine blk_drewN ?_ _ | refine blk_drew ?_ | refine blk_alloc ?_ _)); exact BK188.out) hb)
                      have n3_ := Aside0.mk (blk_below (g := gb192) (o := .cells #[.int .u64 t189, .int .i64 t190] 24 (0, 0)) (by (with_reducible repeat (first | refine blk_drewN ?_ _ | refine blk_drew ?_ | refine blk_alloc ?_ _)); exact BK192.out) hb)
                      have n4_ := Aside0.mk (below_step (by repeat (first | (with_reducible first | exact HB.out | apply below_alloc | apply pw_below_drewN | apply below_drew1 | refine below_set ?_ GE183.out | refine below_set ?_ GE184.out | refine below_set ?_ GE188.out | refine below_set ?_ GE192.out) | exact HB.out)) hb)
                      have n5_ := Aside0.mk (hbox)
                      have n6_ := Aside0.mk ((by rw [hg]; exact (below_size (by repeat (first | (with_reducible first | exact HB.out | apply below_alloc | apply pw_below_drewN | apply below_drew1 | refine below_set ?_ GE183.out | refine below_set ?_ GE184.out | refine below_set ?_ GE188.out | refine below_set ?_ GE192.out) | exact HB.out))) : w.heap.size ≤ gb197))
                      have n7_ := Aside0.mk ((by rw [hg]; exact (below_size (by repeat (first | (with_reducible first | exact HB.out | apply below_alloc | apply pw_below_drewN | apply below_drew1 | refine below_set ?_ GE183.out | refine below_set ?_ GE184.out | refine below_set ?_ GE188.out | refine below_set ?_ GE192.out) | exact HB.out))) : w.heap.size ≤ gb197))
                      have n8_ := Aside0.mk ((by rw [hg]; exact Nat.ne_of_lt (blk_lt (g := gb183) (o := .cells #[.int .u64 a0_0, .int .i64 a0_1] 24 (0, 0)) (by (with_reducible repeat (first | refine blk_drewN ?_ _ | refine blk_drew ?_ | refine blk_alloc ?_ _)); exact BK183.out)) : gb183 ≠ gb197))
                      have n9_ := Aside0.mk ((by rw [hg]; exact Nat.ne_of_gt (blk_lt (g := gb183) (o := .cells #[.int .u64 a0_0, .int .i64 a0_1] 24 (0, 0)) (by (with_reducible repeat (first | refine blk_drewN ?_ _ | refine blk_drew ?_ | refine blk_alloc ?_ _)); exact BK183.out)) : gb197 ≠ gb183))
                      have n10_ := Aside0.mk ((by rw [hg]; exact Nat.ne_of_lt (blk_lt (g := gb184) (o := .cells #[.int .u64 a1_0, .int .i64 a1_1] 24 (0, 0)) (by (with_reducible repeat (first | refine blk_drewN ?_ _ | refine blk_drew ?_ | refine blk_alloc ?_ _)); exact BK184.out)) : gb184 ≠ gb197))
                      have n11_ := Aside0.mk ((by rw [hg]; exact Nat.ne_of_gt (blk_lt (g := gb184) (o := .cells #[.int .u64 a1_0, .int .i64 a1_1] 24 (0, 0)) (by (with_reducible repeat (first | refine blk_drewN ?_ _ | refine blk_drew ?_ | refine blk_alloc ?_ _)); exact BK184.out)) : gb197 ≠ gb184))
                      have n12_ := Aside0.mk ((by rw [hg]; exact Nat.ne_of_lt (blk_lt (g := gb188) (o := .cells #[.int .u64 t185, .int .i64 t186] 24 (0, 0)) (by (with_reducible repeat (first | refine blk_drewN ?_ _ | refine blk_drew ?_ | refine blk_alloc ?_ _)); exact BK188.out)) : gb188 ≠ gb197))
                      have n13_ := Aside0.mk ((by rw [hg]; exact Nat.ne_of_gt (blk_lt (g := gb188) (o := .cells #[.int .u64 t185, .int .i64 t186] 24 (0, 0)) (by (with_reducible repeat (first | refine blk_drewN ?_ _ | refine blk_drew ?_ | refine blk_alloc ?_ _)); exact BK188.out)) : gb197 ≠ gb188))
                      have n14_ := Aside0.mk ((by rw [hg]; exact Nat.ne_of_lt (blk_lt (g := gb192) (o := .cells #[.int .u64 t189, .int .i64 t190] 24 (0, 0)) (by (with_reducible repeat (first | refine blk_drewN ?_ _ | refine blk_drew ?_ | refine blk_alloc ?_ _)); exact BK192.out)) : gb192 ≠ gb197))
                      have n15_ := Aside0.mk ((by rw [hg]; exact Nat.ne_of_gt (blk_lt (g := gb192) (o := .cells #[.int .u64 t189, .int .i64 t190] 24 (0, 0)) (by (with_reducible repeat (first | refine blk_drewN ?_ _ | refine blk_drew ?_ | refine blk_alloc ?_ _)); exact BK192.out)) : gb197 ≠ gb192))
                      clear BK183
                      clear BK184
                      clear BK188
                      clear BK192
                      clear HB
                      have BK183 := n0_
                      have BK184 := n1_
                      have BK188 := n2_
                      have BK192 := n3_
                      have HB := n4_
                      have BK197 := n5_
                      have GW197 := n6_
                      have GE197 := n7_
                      have NB183_197 := n8_
                      have NB197_183 := n9_
                      have NB184_197 := n10_
                      have NB197_184 := n11_
                      have NB188_197 := n12_
                      have NB197_188 := n13_
                      have NB192_197 := n14_
                      have NB197_192 := n15_
                      clear n0_ n1_ n2_ n3_ n4_ n5_ n6_ n7_ n8_ n9_ n10_ n11_ n12_ n13_ n14_ n15_
                      clear hb hbox hg
                      refine hK.out _ _ ⟨(blk_cell BK183.out 0).trans rfl, (blk_cell BK183.out 1).trans rfl, (blk_cell BK184.out 0).trans rfl, (blk_cell BK184.out 1).trans rfl⟩ (fun hHeld => ?_)
                      clear hK K
                      refine norm_ (a' := ?_) ?_ ?_
                      rotate_left
                      · show Act.put _ (some 9) _ = _
                        simp only [Act.put, List.setIfInBounds_toArray, List.set_cons_zero, List.set_cons_succ, i64_w, i32_w]
                        rfl
                      exact norm_ (by first | (simp only [putAll, Act.put, List.setIfInBounds_toArray, List.set_cons_zero, List.set_cons_succ]; done) | (simp only [putAll, Act.put, List.setIfInBounds_toArray, List.set_cons_zero, List.set_cons_succ]; rfl)) (hJ4_9_10 (gb197) _ ⟨hHeld, (by (with_reducible repeat (first | refine blk_drewN ?_ _ | refine blk_drew ?_ | refine blk_alloc ?_ _)); exact BK183.out), (by (with_reducible repeat (first | refine blk_drewN ?_ _ | refine blk_drew ?_ | refine blk_alloc ?_ _)); exact BK184.out), (by (with_reducible repeat (first | refine blk_drewN ?_ _ | refine blk_drew ?_ | refine blk_alloc ?_ _)); exact BK188.out), (by (with_reducible repeat (first | refine blk_drewN ?_ _ | refine blk_drew ?_ | refine blk_alloc ?_ _)); exact BK192.out), (by (with_reducible repeat (first | refine blk_drewN ?_ _ | refine blk_drew ?_ | refine blk_alloc ?_ _)); exact BK197.out), GW197.out, GE197.out, NB183_197.out, NB197_183.out, NB184_197.out, NB197_184.out, NB188_197.out, NB197_188.out, NB192_197.out, NB197_192.out, (by repeat (first | (with_reducible first | exact HB.out | apply below_alloc | apply pw_below_drewN | apply below_drew1 | refine below_set ?_ GE183.out | refine below_set ?_ GE184.out | refine below_set ?_ GE188.out | refine below_set ?_ GE192.out | refine below_set ?_ GE197.out) | exact HB.out))⟩)
                    · skip
                      refine box_step ?hg (N := 10) ?hd (cs := #[.int .u64 0, .int .i64 0]) (t := 24) ?hr ?_; (case hd => rfl); (case hg => rfl); (case hr => first | (go_simp; done) | (go_simp; rfl))
                      intro gb198 hg w37 hbox hb
                      have n0_ := Aside0.mk (blk_below (g := gb183) (o := .cells #[.int .u64 a0_0, .int .i64 a0_1] 24 (0, 0)) (by (with_reducible repeat (first | refine blk_drewN ?_ _ | refine blk_drew ?_ | refine blk_alloc ?_ _)); exact BK183.out) hb)
                      have n1_ := Aside0.mk (blk_below (g := gb184) (o := .cells #[.int .u64 a1_0, .int .i64 a1_1] 24 (0, 0)) (by (with_reducible repeat (first | refine blk_drewN ?_ _ | refine blk_drew ?_ | refine blk_alloc ?_ _)); exact BK184.out) hb)
                      have n2_ := Aside0.mk (blk_below (g := gb188) (o := .cells #[.int .u64 t185, .int .i64 t186] 24 (0, 0)) (by (with_reducible repeat (first | refine blk_drewN ?_ _ | refine blk_drew ?_ | refine blk_alloc ?_ _)); exact BK188.out) hb)
                      have n3_ := Aside0.mk (blk_below (g := gb192) (o := .cells #[.int .u64 t189, .int .i64 t190] 24 (0, 0)) (by (with_reducible repeat (first | refine blk_drewN ?_ _ | refine blk_drew ?_ | refine blk_alloc ?_ _)); exact BK192.out) hb)
                      have n4_ := Aside0.mk (below_step (by repeat (first | (with_reducible first | exact HB.out | apply below_alloc | apply pw_below_drewN | apply below_drew1 | refine below_set ?_ GE183.out | refine below_set ?_ GE184.out | refine below_set ?_ GE188.out | refine below_set ?_ GE192.out) | exact HB.out)) hb)
                      have n5_ := Aside0.mk (hbox)
                      have n6_ := Aside0.mk ((by rw [hg]; exact (below_size (by repeat (first | (with_reducible first | exact HB.out | apply below_alloc | apply pw_below_drewN | apply below_drew1 | refine below_set ?_ GE183.out | refine below_set ?_ GE184.out | refine below_set ?_ GE188.out | refine below_set ?_ GE192.out) | exact HB.out))) : w.heap.size ≤ gb198))
                      have n7_ := Aside0.mk ((by rw [hg]; exact (below_size (by repeat (first | (with_reducible first | exact HB.out | apply below_alloc | apply pw_below_drewN | apply below_drew1 | refine below_set ?_ GE183.out | refine below_set ?_ GE184.out | refine below_set ?_ GE188.out | refine below_set ?_ GE192.out) | exact HB.out))) : w.heap.size ≤ gb198))
                      have n8_ := Aside0.mk ((by rw [hg]; exact Nat.ne_of_lt (blk_lt (g := gb183) (o := .cells #[.int .u64 a0_0, .int .i64 a0_1] 24 (0, 0)) (by (with_reducible repeat (first | refine blk_drewN ?_ _ | refine blk_drew ?_ | refine blk_alloc ?_ _)); exact BK183.out)) : gb183 ≠ gb198))
                      have n9_ := Aside0.mk ((by rw [hg]; exact Nat.ne_of_gt (blk_lt (g := gb183) (o := .cells #[.int .u64 a0_0, .int .i64 a0_1] 24 (0, 0)) (by (with_reducible repeat (first | refine blk_drewN ?_ _ | refine blk_drew ?_ | refine blk_alloc ?_ _)); exact BK183.out)) : gb198 ≠ gb183))
                      have n10_ := Aside0.mk ((by rw [hg]; exact Nat.ne_of_lt (blk_lt (g := gb184) (o := .cells #[.int .u64 a1_0, .int .i64 a1_1] 24 (0, 0)) (by (with_reducible repeat (first | refine blk_drewN ?_ _ | refine blk_drew ?_ | refine blk_alloc ?_ _)); exact BK184.out)) : gb184 ≠ gb198))
                      have n11_ := Aside0.mk ((by rw [hg]; exact Nat.ne_of_gt (blk_lt (g := gb184) (o := .cells #[.int .u64 a1_0, .int .i64 a1_1] 24 (0, 0)) (by (with_reducible repeat (first | refine blk_drewN ?_ _ | refine blk_drew ?_ | refine blk_alloc ?_ _)); exact BK184.out)) : gb198 ≠ gb184))
                      have n12_ := Aside0.mk ((by rw [hg]; exact Nat.ne_of_lt (blk_lt (g := gb188) (o := .cells #[.int .u64 t185, .int .i64 t186] 24 (0, 0)) (by (with_reducible repeat (first | refine blk_drewN ?_ _ | refine blk_drew ?_ | refine blk_alloc ?_ _)); exact BK188.out)) : gb188 ≠ gb198))
                      have n13_ := Aside0.mk ((by rw [hg]; exact Nat.ne_of_gt (blk_lt (g := gb188) (o := .cells #[.int .u64 t185, .int .i64 t186] 24 (0, 0)) (by (with_reducible repeat (first | refine blk_drewN ?_ _ | refine blk_drew ?_ | refine blk_alloc ?_ _)); exact BK188.out)) : gb198 ≠ gb188))
                      have n14_ := Aside0.mk ((by rw [hg]; exact Nat.ne_of_lt (blk_lt (g := gb192) (o := .cells #[.int .u64 t189, .int .i64 t190] 24 (0, 0)) (by (with_reducible repeat (first | refine blk_drewN ?_ _ | refine blk_drew ?_ | refine blk_alloc ?_ _)); exact BK192.out)) : gb192 ≠ gb198))
                      have n15_ := Aside0.mk ((by rw [hg]; exact Nat.ne_of_gt (blk_lt (g := gb192) (o := .cells #[.int .u64 t189, .int .i64 t190] 24 (0, 0)) (by (with_reducible repeat (first | refine blk_drewN ?_ _ | refine blk_drew ?_ | refine blk_alloc ?_ _)); exact BK192.out)) : gb198 ≠ gb192))
                      clear BK183
                      clear BK184
                      clear BK188
                      clear BK192
                      clear HB
                      have BK183 := n0_
                      have BK184 := n1_
                      have BK188 := n2_
                      have BK192 := n3_
                      have HB := n4_
                      have BK198 := n5_
                      have GW198 := n6_
                      have GE198 := n7_
                      have NB183_198 := n8_
                      have NB198_183 := n9_
                      have NB184_198 := n10_
                      have NB198_184 := n11_
                      have NB188_198 := n12_
                      have NB198_188 := n13_
                      have NB192_198 := n14_
                      have NB198_192 := n15_
                      clear n0_ n1_ n2_ n3_ n4_ n5_ n6_ n7_ n8_ n9_ n10_ n11_ n12_ n13_ n14_ n15_
                      clear hb hbox hg
                      refine hK.out _ _ ⟨(blk_cell BK183.out 0).trans rfl, (blk_cell BK183.out 1).trans rfl, (blk_cell BK184.out 0).trans rfl, (blk_cell BK184.out 1).trans rfl⟩ (fun hHeld => ?_)
                      clear hK K
                      refine norm_ (a' := ?_) ?_ ?_
                      rotate_left
                      · show Act.put _ (some 10) _ = _
                        simp only [Act.put, List.setIfInBounds_toArray, List.set_cons_zero, List.set_cons_succ, i64_w, i32_w]
                        rfl
                      exact norm_ (by first | (simp only [putAll, Act.put, List.setIfInBounds_toArray, List.set_cons_zero, List.set_cons_succ]; done) | (simp only [putAll, Act.put, List.setIfInBounds_toArray, List.set_cons_zero, List.set_cons_succ]; rfl)) (hJ4_9_11 (gb198) _ ⟨hHeld, (by (with_reducible repeat (first | refine blk_drewN ?_ _ | refine blk_drew ?_ | refine blk_alloc ?_ _)); exact BK183.out), (by (with_reducible repeat (first | refine blk_drewN ?_ _ | refine blk_drew ?_ | refine blk_alloc ?_ _)); exact BK184.out), (by (with_reducible repeat (first | refine blk_drewN ?_ _ | refine blk_drew ?_ | refine blk_alloc ?_ _)); exact BK188.out), (by (with_reducible repeat (first | refine blk_drewN ?_ _ | refine blk_drew ?_ | refine blk_alloc ?_ _)); exact BK192.out), (by (with_reducible repeat (first | refine blk_drewN ?_ _ | refine blk_drew ?_ | refine blk_alloc ?_ _)); exact BK198.out), GW198.out, GE198.out, NB183_198.out, NB198_183.out, NB184_198.out, NB198_184.out, NB188_198.out, NB198_188.out, NB192_198.out, NB198_192.out, (by repeat (first | (with_reducible first | exact HB.out | apply below_alloc | apply pw_below_drewN | apply below_drew1 | refine below_set ?_ GE183.out | refine below_set ?_ GE184.out | refine below_set ?_ GE188.out | refine below_set ?_ GE192.out | refine below_set ?_ GE198.out) | exact HB.out))⟩)
                · skip
                  rintro ⟨gb197, gb198⟩ w37 ⟨hS_, h0_, h1_, h2_, h3_, h4_, h5_, h6_, h7_, h8_, h9_, h10_, h11_, h12_, h13_, h14_, h15_, h16_, h17_, h18_, h19_, h20_, h21_, h22_, h23_, h24_, h25_, h26_, h27_, h28_⟩
                  have n0_ : Aside0 (w37.heap[gb183]? = some (.cells #[.int .u64 a0_0, .int .i64 a0_1] 24 (0, 0))) := ⟨h0_⟩
                  have n1_ : Aside0 (w37.heap[gb184]? = some (.cells #[.int .u64 a1_0, .int .i64 a1_1] 24 (0, 0))) := ⟨h1_⟩
                  have n2_ : Aside0 (w37.heap[gb188]? = some (.cells #[.int .u64 t185, .int .i64 t186] 24 (0, 0))) := ⟨h2_⟩
                  have n3_ : Aside0 (w37.heap[gb192]? = some (.cells #[.int .u64 t189, .int .i64 t190] 24 (0, 0))) := ⟨h3_⟩
                  have n4_ : Aside0 (w37.heap[gb197]? = some (.cells #[.int .u64 0, .int .i64 0] 24 (0, 0))) := ⟨h4_⟩
                  have n5_ : Aside0 (w37.heap[gb198]? = some (.cells #[.int .u64 0, .int .i64 0] 24 (0, 0))) := ⟨h5_⟩
                  have n6_ : Aside0 (w.heap.size ≤ gb197) := ⟨h6_⟩
                  have n7_ : Aside0 (w.heap.size ≤ gb197) := ⟨h7_⟩
                  have n8_ : Aside0 (gb183 ≠ gb197) := ⟨h8_⟩
                  have n9_ : Aside0 (gb197 ≠ gb183) := ⟨h9_⟩
                  have n10_ : Aside0 (gb184 ≠ gb197) := ⟨h10_⟩
                  have n11_ : Aside0 (gb197 ≠ gb184) := ⟨h11_⟩
                  have n12_ : Aside0 (gb188 ≠ gb197) := ⟨h12_⟩
                  have n13_ : Aside0 (gb197 ≠ gb188) := ⟨h13_⟩
                  have n14_ : Aside0 (gb192 ≠ gb197) := ⟨h14_⟩
                  have n15_ : Aside0 (gb197 ≠ gb192) := ⟨h15_⟩
                  have n16_ : Aside0 (gb198 ≠ gb197) := ⟨h16_⟩
                  have n17_ : Aside0 (gb197 ≠ gb198) := ⟨h17_⟩
                  have n18_ : Aside0 (w.heap.size ≤ gb198) := ⟨h18_⟩
                  have n19_ : Aside0 (w.heap.size ≤ gb198) := ⟨h19_⟩
                  have n20_ : Aside0 (gb183 ≠ gb198) := ⟨h20_⟩
                  have n21_ : Aside0 (gb198 ≠ gb183) := ⟨h21_⟩
                  have n22_ : Aside0 (gb184 ≠ gb198) := ⟨h22_⟩
                  have n23_ : Aside0 (gb198 ≠ gb184) := ⟨h23_⟩
                  have n24_ : Aside0 (gb188 ≠ gb198) := ⟨h24_⟩
                  have n25_ : Aside0 (gb198 ≠ gb188) := ⟨h25_⟩
                  have n26_ : Aside0 (gb192 ≠ gb198) := ⟨h26_⟩
                  have n27_ : Aside0 (gb198 ≠ gb192) := ⟨h27_⟩
                  have n28_ : Aside0 (Below w.heap.size w w37) := ⟨h28_⟩
                  clear BK183
                  clear BK184
                  clear BK188
                  clear BK192
                  clear HB
                  clear h0_ h1_ h2_ h3_ h4_ h5_ h6_ h7_ h8_ h9_ h10_ h11_ h12_ h13_ h14_ h15_ h16_ h17_ h18_ h19_ h20_ h21_ h22_ h23_ h24_ h25_ h26_ h27_ h28_
                  have BK183 := n0_
                  have BK184 := n1_
                  have BK188 := n2_
                  have BK192 := n3_
                  have BK197 := n4_
                  have BK198 := n5_
                  have GW197 := n6_
                  have GE197 := n7_
                  have NB183_197 := n8_
                  have NB197_183 := n9_
                  have NB184_197 := n10_
                  have NB197_184 := n11_
                  have NB188_197 := n12_
                  have NB197_188 := n13_
                  have NB192_197 := n14_
                  have NB197_192 := n15_
                  have NB198_197 := n16_
                  have NB197_198 := n17_
                  have GW198 := n18_
                  have GE198 := n19_
                  have NB183_198 := n20_
                  have NB198_183 := n21_
                  have NB184_198 := n22_
                  have NB198_184 := n23_
                  have NB188_198 := n24_
                  have NB198_188 := n25_
                  have NB192_198 := n26_
                  have NB198_192 := n27_
                  have HB := n28_
                  clear n0_ n1_ n2_ n3_ n4_ n5_ n6_ n7_ n8_ n9_ n10_ n11_ n12_ n13_ n14_ n15_ n16_ n17_ n18_ n19_ n20_ n21_ n22_ n23_ n24_ n25_ n26_ n27_ n28_
                  have hHeld : w37.cell? ⟨gb183, 0, none⟩ = some (.int .u64 a0_0) ∧ w37.cell? ⟨gb183, 1, none⟩ = some (.int .i64 a0_1) ∧ w37.cell? ⟨gb184, 0, none⟩ = some (.int .u64 a1_0) ∧ w37.cell? ⟨gb184, 1, none⟩ = some (.int .i64 a1_1) := hS_
                  refine norm_ (a' := ?_) ?_ ?_
                  rotate_left
                  · simp only [putAll, Act.put, List.setIfInBounds_toArray, List.set_cons_zero, List.set_cons_succ]
                    rfl
                  refine one_ (i := 9) (N := some 36) #[true, true, true, true, true, true, true, true, true, true, true, true, false, false] rfl rfl (one_of HT_.out (by kernel_rfl)) (by decide) (fun K hK => ?_)
                  refine goes_ Try.func17 (by kernel_rfl) rfl #[.int .u64 a1_0, .int .i64 a1_1, .int .i64 1048576] (by rfl) rfl rfl (by (try simp only [List.map_toArray, List.map_cons, List.map_nil]); first | done | rfl | (simp only [List.length_drop, List.length_take]; rfl)) ?_
                  with_reducible refine (stockyardlaw22_made.calls a1_0 a1_1 1048576 t195 t196 _ A6.out).mono ?_
                  rintro e w38 ⟨rfl, hb⟩
                  refine ⟨_, rfl, ?_⟩
                  have n0_ := Aside0.mk (blk_below (g := gb183) (o := .cells #[.int .u64 a0_0, .int .i64 a0_1] 24 (0, 0)) (by (with_reducible repeat (first | refine blk_drewN ?_ _ | refine blk_drew ?_ | refine blk_alloc ?_ _)); exact BK183.out) hb)
                  have n1_ := Aside0.mk (blk_below (g := gb184) (o := .cells #[.int .u64 a1_0, .int .i64 a1_1] 24 (0, 0)) (by (with_reducible repeat (first | refine blk_drewN ?_ _ | refine blk_drew ?_ | refine blk_alloc ?_ _)); exact BK184.out) hb)
                  have n2_ := Aside0.mk (blk_below (g := gb188) (o := .cells #[.int .u64 t185, .int .i64 t186] 24 (0, 0)) (by (with_reducible repeat (first | refine blk_drewN ?_ _ | refine blk_drew ?_ | refine blk_alloc ?_ _)); exact BK188.out) hb)
                  have n3_ := Aside0.mk (blk_below (g := gb192) (o := .cells #[.int .u64 t189, .int .i64 t190] 24 (0, 0)) (by (with_reducible repeat (first | refine blk_drewN ?_ _ | refine blk_drew ?_ | refine blk_alloc ?_ _)); exact BK192.out) hb)
                  have n4_ := Aside0.mk (blk_below (g := gb197) (o := .cells #[.int .u64 0, .int .i64 0] 24 (0, 0)) (by (with_reducible repeat (first | refine blk_drewN ?_ _ | refine blk_drew ?_ | refine blk_alloc ?_ _)); exact BK197.out) hb)
                  have n5_ := Aside0.mk (blk_below (g := gb198) (o := .cells #[.int .u64 0, .int .i64 0] 24 (0, 0)) (by (with_reducible repeat (first | refine blk_drewN ?_ _ | refine blk_drew ?_ | refine blk_alloc ?_ _)); exact BK198.out) hb)
                  have n6_ := Aside0.mk (below_step (by repeat (first | (with_reducible first | exact HB.out | apply below_alloc | apply pw_below_drewN | apply below_drew1 | refine below_set ?_ GE183.out | refine below_set ?_ GE184.out | refine below_set ?_ GE188.out | refine below_set ?_ GE192.out | refine below_set ?_ GE197.out | refine below_set ?_ GE198.out) | exact HB.out)) hb)
                  clear BK183
                  clear BK184
                  clear BK188
                  clear BK192
                  clear BK197
                  clear BK198
                  clear HB
                  have BK183 := n0_
                  have BK184 := n1_
                  have BK188 := n2_
                  have BK192 := n3_
                  have BK197 := n4_
                  have BK198 := n5_
                  have HB := n6_
                  clear n0_ n1_ n2_ n3_ n4_ n5_ n6_
                  (try clear hb)
                  (try clear hb2)
                  (try clear hk)
                  (try clear hi)
                  refine hK.out _ _ ⟨(blk_cell BK183.out 0).trans rfl, (blk_cell BK183.out 1).trans rfl, (blk_cell BK184.out 0).trans rfl, (blk_cell BK184.out 1).trans rfl⟩ (fun hHeld => ?_)
                  clear hK K
                  refine norm_ (a' := ?_) ?_ ?_
                  rotate_left
                  · show Act.put _ (some 36) _ = _
                    simp only [Act.put, List.setIfInBounds_toArray, List.set_cons_zero, List.set_cons_succ, i64_w, i32_w]
                    rfl
                  exact norm_ (by first | (simp only [putAll, Act.put, List.setIfInBounds_toArray, List.set_cons_zero, List.set_cons_succ]; done) | (simp only [putAll, Act.put, List.setIfInBounds_toArray, List.set_cons_zero, List.set_cons_succ]; rfl)) (hJ4_9_10_11 (gb197, gb198) _ ⟨hHeld, (by (with_reducible repeat (first | refine blk_drewN ?_ _ | refine blk_drew ?_ | refine blk_alloc ?_ _)); exact BK183.out), (by (with_reducible repeat (first | refine blk_drewN ?_ _ | refine blk_drew ?_ | refine blk_alloc ?_ _)); exact BK184.out), (by (with_reducible repeat (first | refine blk_drewN ?_ _ | refine blk_drew ?_ | refine blk_alloc ?_ _)); exact BK188.out), (by (with_reducible repeat (first | refine blk_drewN ?_ _ | refine blk_drew ?_ | refine blk_alloc ?_ _)); exact BK192.out), (by (with_reducible repeat (first | refine blk_drewN ?_ _ | refine blk_drew ?_ | refine blk_alloc ?_ _)); exact BK197.out), (by (with_reducible repeat (first | refine blk_drewN ?_ _ | refine blk_drew ?_ | refine blk_alloc ?_ _)); exact BK198.out), GW197.out, GE197.out, NB183_197.out, NB197_183.out, NB184_197.out, NB197_184.out, NB188_197.out, NB197_188.out, NB192_197.out, NB197_192.out, NB198_197.out, NB197_198.out, GW198.out, GE198.out, NB183_198.out, NB198_183.out, NB184_198.out, NB198_184.out, NB188_198.out, NB198_188.out, NB192_198.out, NB198_192.out, (by repeat (first | (with_reducible first | exact HB.out | apply below_alloc | apply pw_below_drewN | apply below_drew1 | refine below_set ?_ GE183.out | refine below_set ?_ GE184.out | refine below_set ?_ GE188.out | refine below_set ?_ GE192.out | refine below_set ?_ GE197.out | refine below_set ?_ GE198.out) | exact HB.out))⟩)
              · skip
                rintro gb198 w37 ⟨hS_, h0_, h1_, h2_, h3_, h4_, h5_, h6_, h7_, h8_, h9_, h10_, h11_, h12_, h13_, h14_, h15_⟩
                have n0_ : Aside0 (w37.heap[gb183]? = some (.cells #[.int .u64 a0_0, .int .i64 a0_1] 24 (0, 0))) := ⟨h0_⟩
                have n1_ : Aside0 (w37.heap[gb184]? = some (.cells #[.int .u64 a1_0, .int .i64 a1_1] 24 (0, 0))) := ⟨h1_⟩
                have n2_ : Aside0 (w37.heap[gb188]? = some (.cells #[.int .u64 t185, .int .i64 t186] 24 (0, 0))) := ⟨h2_⟩
                have n3_ : Aside0 (w37.heap[gb192]? = some (.cells #[.int .u64 t189, .int .i64 t190] 24 (0, 0))) := ⟨h3_⟩
                have n4_ : Aside0 (w37.heap[gb198]? = some (.cells #[.int .u64 0, .int .i64 0] 24 (0, 0))) := ⟨h4_⟩
                have n5_ : Aside0 (w.heap.size ≤ gb198) := ⟨h5_⟩
                have n6_ : Aside0 (w.heap.size ≤ gb198) := ⟨h6_⟩
                have n7_ : Aside0 (gb183 ≠ gb198) := ⟨h7_⟩
                have n8_ : Aside0 (gb198 ≠ gb183) := ⟨h8_⟩
                have n9_ : Aside0 (gb184 ≠ gb198) := ⟨h9_⟩
                have n10_ : Aside0 (gb198 ≠ gb184) := ⟨h10_⟩
                have n11_ : Aside0 (gb188 ≠ gb198) := ⟨h11_⟩
                have n12_ : Aside0 (gb198 ≠ gb188) := ⟨h12_⟩
                have n13_ : Aside0 (gb192 ≠ gb198) := ⟨h13_⟩
                have n14_ : Aside0 (gb198 ≠ gb192) := ⟨h14_⟩
                have n15_ : Aside0 (Below w.heap.size w w37) := ⟨h15_⟩
                clear BK183
                clear BK184
                clear BK188
                clear BK192
                clear HB
                clear h0_ h1_ h2_ h3_ h4_ h5_ h6_ h7_ h8_ h9_ h10_ h11_ h12_ h13_ h14_ h15_
                have BK183 := n0_
                have BK184 := n1_
                have BK188 := n2_
                have BK192 := n3_
                have BK198 := n4_
                have GW198 := n5_
                have GE198 := n6_
                have NB183_198 := n7_
                have NB198_183 := n8_
                have NB184_198 := n9_
                have NB198_184 := n10_
                have NB188_198 := n11_
                have NB198_188 := n12_
                have NB192_198 := n13_
                have NB198_192 := n14_
                have HB := n15_
                clear n0_ n1_ n2_ n3_ n4_ n5_ n6_ n7_ n8_ n9_ n10_ n11_ n12_ n13_ n14_ n15_
                have hHeld : w37.cell? ⟨gb183, 0, none⟩ = some (.int .u64 a0_0) ∧ w37.cell? ⟨gb183, 1, none⟩ = some (.int .i64 a0_1) ∧ w37.cell? ⟨gb184, 0, none⟩ = some (.int .u64 a1_0) ∧ w37.cell? ⟨gb184, 1, none⟩ = some (.int .i64 a1_1) := hS_
                refine norm_ (a' := ?_) ?_ ?_
                rotate_left
                · simp only [putAll, Act.put, List.setIfInBounds_toArray, List.set_cons_zero, List.set_cons_succ]
                  rfl
                refine one_ (i := 10) (N := some 9) #[true, true, true, true, true, true, true, true, true, true, true, true, false, false] rfl rfl (one_of HT_.out (by kernel_rfl)) (by decide) (fun K hK => ?_)
                refine box_step ?hg (N := 9) ?hd (cs := #[.int .u64 0, .int .i64 0]) (t := 24) ?hr ?_; (case hd => rfl); (case hg => rfl); (case hr => first | (go_simp; done) | (go_simp; rfl))
                intro gb197 hg w38 hbox hb
                have n0_ := Aside0.mk (blk_below (g := gb183) (o := .cells #[.int .u64 a0_0, .int .i64 a0_1] 24 (0, 0)) (by (with_reducible repeat (first | refine blk_drewN ?_ _ | refine blk_drew ?_ | refine blk_alloc ?_ _)); exact BK183.out) hb)
                have n1_ := Aside0.mk (blk_below (g := gb184) (o := .cells #[.int .u64 a1_0, .int .i64 a1_1] 24 (0, 0)) (by (with_reducible repeat (first | refine blk_drewN ?_ _ | refine blk_drew ?_ | refine blk_alloc ?_ _)); exact BK184.out) hb)
                have n2_ := Aside0.mk (blk_below (g := gb188) (o := .cells #[.int .u64 t185, .int .i64 t186] 24 (0, 0)) (by (with_reducible repeat (first | refine blk_drewN ?_ _ | refine blk_drew ?_ | refine blk_alloc ?_ _)); exact BK188.out) hb)
                have n3_ := Aside0.mk (blk_below (g := gb192) (o := .cells #[.int .u64 t189, .int .i64 t190] 24 (0, 0)) (by (with_reducible repeat (first | refine blk_drewN ?_ _ | refine blk_drew ?_ | refine blk_alloc ?_ _)); exact BK192.out) hb)
                have n4_ := Aside0.mk (blk_below (g := gb198) (o := .cells #[.int .u64 0, .int .i64 0] 24 (0, 0)) (by (with_reducible repeat (first | refine blk_drewN ?_ _ | refine blk_drew ?_ | refine blk_alloc ?_ _)); exact BK198.out) hb)
                have n5_ := Aside0.mk (below_step (by repeat (first | (with_reducible first | exact HB.out | apply below_alloc | apply pw_below_drewN | apply below_drew1 | refine below_set ?_ GE183.out | refine below_set ?_ GE184.out | refine below_set ?_ GE188.out | refine below_set ?_ GE192.out | refine below_set ?_ GE198.out) | exact HB.out)) hb)
                have n6_ := Aside0.mk (hbox)
                have n7_ := Aside0.mk ((by rw [hg]; exact (below_size (by repeat (first | (with_reducible first | exact HB.out | apply below_alloc | apply pw_below_drewN | apply below_drew1 | refine below_set ?_ GE183.out | refine below_set ?_ GE184.out | refine below_set ?_ GE188.out | refine below_set ?_ GE192.out | refine below_set ?_ GE198.out) | exact HB.out))) : w.heap.size ≤ gb197))
                have n8_ := Aside0.mk ((by rw [hg]; exact (below_size (by repeat (first | (with_reducible first | exact HB.out | apply below_alloc | apply pw_below_drewN | apply below_drew1 | refine below_set ?_ GE183.out | refine below_set ?_ GE184.out | refine below_set ?_ GE188.out | refine below_set ?_ GE192.out | refine below_set ?_ GE198.out) | exact HB.out))) : w.heap.size ≤ gb197))
                have n9_ := Aside0.mk ((by rw [hg]; exact Nat.ne_of_lt (blk_lt (g := gb183) (o := .cells #[.int .u64 a0_0, .int .i64 a0_1] 24 (0, 0)) (by (with_reducible repeat (first | refine blk_drewN ?_ _ | refine blk_drew ?_ | refine blk_alloc ?_ _)); exact BK183.out)) : gb183 ≠ gb197))
                have n10_ := Aside0.mk ((by rw [hg]; exact Nat.ne_of_gt (blk_lt (g := gb183) (o := .cells #[.int .u64 a0_0, .int .i64 a0_1] 24 (0, 0)) (by (with_reducible repeat (first | refine blk_drewN ?_ _ | refine blk_drew ?_ | refine blk_alloc ?_ _)); exact BK183.out)) : gb197 ≠ gb183))
                have n11_ := Aside0.mk ((by rw [hg]; exact Nat.ne_of_lt (blk_lt (g := gb184) (o := .cells #[.int .u64 a1_0, .int .i64 a1_1] 24 (0, 0)) (by (with_reducible repeat (first | refine blk_drewN ?_ _ | refine blk_drew ?_ | refine blk_alloc ?_ _)); exact BK184.out)) : gb184 ≠ gb197))
                have n12_ := Aside0.mk ((by rw [hg]; exact Nat.ne_of_gt (blk_lt (g := gb184) (o := .cells #[.int .u64 a1_0, .int .i64 a1_1] 24 (0, 0)) (by (with_reducible repeat (first | refine blk_drewN ?_ _ | refine blk_drew ?_ | refine blk_alloc ?_ _)); exact BK184.out)) : gb197 ≠ gb184))
                have n13_ := Aside0.mk ((by rw [hg]; exact Nat.ne_of_lt (blk_lt (g := gb188) (o := .cells #[.int .u64 t185, .int .i64 t186] 24 (0, 0)) (by (with_reducible repeat (first | refine blk_drewN ?_ _ | refine blk_drew ?_ | refine blk_alloc ?_ _)); exact BK188.out)) : gb188 ≠ gb197))
                have n14_ := Aside0.mk ((by rw [hg]; exact Nat.ne_of_gt (blk_lt (g := gb188) (o := .cells #[.int .u64 t185, .int .i64 t186] 24 (0, 0)) (by (with_reducible repeat (first | refine blk_drewN ?_ _ | refine blk_drew ?_ | refine blk_alloc ?_ _)); exact BK188.out)) : gb197 ≠ gb188))
                have n15_ := Aside0.mk ((by rw [hg]; exact Nat.ne_of_lt (blk_lt (g := gb192) (o := .cells #[.int .u64 t189, .int .i64 t190] 24 (0, 0)) (by (with_reducible repeat (first | refine blk_drewN ?_ _ | refine blk_drew ?_ | refine blk_alloc ?_ _)); exact BK192.out)) : gb192 ≠ gb197))
                have n16_ := Aside0.mk ((by rw [hg]; exact Nat.ne_of_gt (blk_lt (g := gb192) (o := .cells #[.int .u64 t189, .int .i64 t190] 24 (0, 0)) (by (with_reducible repeat (first | refine blk_drewN ?_ _ | refine blk_drew ?_ | refine blk_alloc ?_ _)); exact BK192.out)) : gb197 ≠ gb192))
                have n17_ := Aside0.mk ((by rw [hg]; exact Nat.ne_of_lt (blk_lt (g := gb198) (o := .cells #[.int .u64 0, .int .i64 0] 24 (0, 0)) (by (with_reducible repeat (first | refine blk_drewN ?_ _ | refine blk_drew ?_ | refine blk_alloc ?_ _)); exact BK198.out)) : gb198 ≠ gb197))
                have n18_ := Aside0.mk ((by rw [hg]; exact Nat.ne_of_gt (blk_lt (g := gb198) (o := .cells #[.int .u64 0, .int .i64 0] 24 (0, 0)) (by (with_reducible repeat (first | refine blk_drewN ?_ _ | refine blk_drew ?_ | refine blk_alloc ?_ _)); exact BK198.out)) : gb197 ≠ gb198))
                clear BK183
                clear BK184
                clear BK188
                clear BK192
                clear BK198
                clear HB
                have BK183 := n0_
                have BK184 := n1_
                have BK188 := n2_
                have BK192 := n3_
                have BK198 := n4_
                have HB := n5_
                have BK197 := n6_
                have GW197 := n7_
                have GE197 := n8_
                have NB183_197 := n9_
                have NB197_183 := n10_
                have NB184_197 := n11_
                have NB197_184 := n12_
                have NB188_197 := n13_
                have NB197_188 := n14_
                have NB192_197 := n15_
                have NB197_192 := n16_
                have NB198_197 := n17_
                have NB197_198 := n18_
                clear n0_ n1_ n2_ n3_ n4_ n5_ n6_ n7_ n8_ n9_ n10_ n11_ n12_ n13_ n14_ n15_ n16_ n17_ n18_
                clear hb hbox hg
                refine hK.out _ _ ⟨(blk_cell BK183.out 0).trans rfl, (blk_cell BK183.out 1).trans rfl, (blk_cell BK184.out 0).trans rfl, (blk_cell BK184.out 1).trans rfl⟩ (fun hHeld => ?_)
                clear hK K
                refine norm_ (a' := ?_) ?_ ?_
                rotate_left
                · show Act.put _ (some 9) _ = _
                  simp only [Act.put, List.setIfInBounds_toArray, List.set_cons_zero, List.set_cons_succ, i64_w, i32_w]
                  rfl
                exact norm_ (by first | (simp only [putAll, Act.put, List.setIfInBounds_toArray, List.set_cons_zero, List.set_cons_succ]; done) | (simp only [putAll, Act.put, List.setIfInBounds_toArray, List.set_cons_zero, List.set_cons_succ]; rfl)) (hJ4_9_10_11 (gb197, gb198) _ ⟨hHeld, (by (with_reducible repeat (first | refine blk_drewN ?_ _ | refine blk_drew ?_ | refine blk_alloc ?_ _)); exact BK183.out), (by (with_reducible repeat (first | refine blk_drewN ?_ _ | refine blk_drew ?_ | refine blk_alloc ?_ _)); exact BK184.out), (by (with_reducible repeat (first | refine blk_drewN ?_ _ | refine blk_drew ?_ | refine blk_alloc ?_ _)); exact BK188.out), (by (with_reducible repeat (first | refine blk_drewN ?_ _ | refine blk_drew ?_ | refine blk_alloc ?_ _)); exact BK192.out), (by (with_reducible repeat (first | refine blk_drewN ?_ _ | refine blk_drew ?_ | refine blk_alloc ?_ _)); exact BK197.out), (by (with_reducible repeat (first | refine blk_drewN ?_ _ | refine blk_drew ?_ | refine blk_alloc ?_ _)); exact BK198.out), GW197.out, GE197.out, NB183_197.out, NB197_183.out, NB184_197.out, NB197_184.out, NB188_197.out, NB197_188.out, NB192_197.out, NB197_192.out, NB198_197.out, NB197_198.out, GW198.out, GE198.out, NB183_198.out, NB198_183.out, NB184_198.out, NB198_184.out, NB188_198.out, NB198_188.out, NB192_198.out, NB198_192.out, (by repeat (first | (with_reducible first | exact HB.out | apply below_alloc | apply pw_below_drewN | apply below_drew1 | refine below_set ?_ GE183.out | refine below_set ?_ GE184.out | refine below_set ?_ GE188.out | refine below_set ?_ GE192.out | refine below_set ?_ GE198.out | refine below_set ?_ GE197.out) | exact HB.out))⟩)
            · skip
              rintro gb197 w37 ⟨hS_, h0_, h1_, h2_, h3_, h4_, h5_, h6_, h7_, h8_, h9_, h10_, h11_, h12_, h13_, h14_, h15_⟩
              have n0_ : Aside0 (w37.heap[gb183]? = some (.cells #[.int .u64 a0_0, .int .i64 a0_1] 24 (0, 0))) := ⟨h0_⟩
              have n1_ : Aside0 (w37.heap[gb184]? = some (.cells #[.int .u64 a1_0, .int .i64 a1_1] 24 (0, 0))) := ⟨h1_⟩
              have n2_ : Aside0 (w37.heap[gb188]? = some (.cells #[.int .u64 t185, .int .i64 t186] 24 (0, 0))) := ⟨h2_⟩
              have n3_ : Aside0 (w37.heap[gb192]? = some (.cells #[.int .u64 t189, .int .i64 t190] 24 (0, 0))) := ⟨h3_⟩
              have n4_ : Aside0 (w37.heap[gb197]? = some (.cells #[.int .u64 0, .int .i64 0] 24 (0, 0))) := ⟨h4_⟩
              have n5_ : Aside0 (w.heap.size ≤ gb197) := ⟨h5_⟩
              have n6_ : Aside0 (w.heap.size ≤ gb197) := ⟨h6_⟩
              have n7_ : Aside0 (gb183 ≠ gb197) := ⟨h7_⟩
              have n8_ : Aside0 (gb197 ≠ gb183) := ⟨h8_⟩
              have n9_ : Aside0 (gb184 ≠ gb197) := ⟨h9_⟩
              have n10_ : Aside0 (gb197 ≠ gb184) := ⟨h10_⟩
              have n11_ : Aside0 (gb188 ≠ gb197) := ⟨h11_⟩
              have n12_ : Aside0 (gb197 ≠ gb188) := ⟨h12_⟩
              have n13_ : Aside0 (gb192 ≠ gb197) := ⟨h13_⟩
              have n14_ : Aside0 (gb197 ≠ gb192) := ⟨h14_⟩
              have n15_ : Aside0 (Below w.heap.size w w37) := ⟨h15_⟩
              clear BK183
              clear BK184
              clear BK188
              clear BK192
              clear HB
              clear h0_ h1_ h2_ h3_ h4_ h5_ h6_ h7_ h8_ h9_ h10_ h11_ h12_ h13_ h14_ h15_
              have BK183 := n0_
              have BK184 := n1_
              have BK188 := n2_
              have BK192 := n3_
              have BK197 := n4_
              have GW197 := n5_
              have GE197 := n6_
              have NB183_197 := n7_
              have NB197_183 := n8_
              have NB184_197 := n9_
              have NB197_184 := n10_
              have NB188_197 := n11_
              have NB197_188 := n12_
              have NB192_197 := n13_
              have NB197_192 := n14_
              have HB := n15_
              clear n0_ n1_ n2_ n3_ n4_ n5_ n6_ n7_ n8_ n9_ n10_ n11_ n12_ n13_ n14_ n15_
              have hHeld : w37.cell? ⟨gb183, 0, none⟩ = some (.int .u64 a0_0) ∧ w37.cell? ⟨gb183, 1, none⟩ = some (.int .i64 a0_1) ∧ w37.cell? ⟨gb184, 0, none⟩ = some (.int .u64 a1_0) ∧ w37.cell? ⟨gb184, 1, none⟩ = some (.int .i64 a1_1) := hS_
              refine norm_ (a' := ?_) ?_ ?_
              rotate_left
              · simp only [putAll, Act.put, List.setIfInBounds_toArray, List.set_cons_zero, List.set_cons_succ]
                rfl
              refine one_ (i := 11) (N := some 10) #[true, true, true, true, true, true, true, true, true, true, true, true, false, false] rfl rfl (one_of HT_.out (by kernel_rfl)) (by decide) (fun K hK => ?_)
              refine box_step ?hg (N := 10) ?hd (cs := #[.int .u64 0, .int .i64 0]) (t := 24) ?hr ?_; (case hd => rfl); (case hg => rfl); (case hr => first | (go_simp; done) | (go_simp; rfl))
              intro gb198 hg w38 hbox hb
              have n0_ := Aside0.mk (blk_below (g := gb183) (o := .cells #[.int .u64 a0_0, .int .i64 a0_1] 24 (0, 0)) (by (with_reducible repeat (first | refine blk_drewN ?_ _ | refine blk_drew ?_ | refine blk_alloc ?_ _)); exact BK183.out) hb)
              have n1_ := Aside0.mk (blk_below (g := gb184) (o := .cells #[.int .u64 a1_0, .int .i64 a1_1] 24 (0, 0)) (by (with_reducible repeat (first | refine blk_drewN ?_ _ | refine blk_drew ?_ | refine blk_alloc ?_ _)); exact BK184.out) hb)
              have n2_ := Aside0.mk (blk_below (g := gb188) (o := .cells #[.int .u64 t185, .int .i64 t186] 24 (0, 0)) (by (with_reducible repeat (first | refine blk_drewN ?_ _ | refine blk_drew ?_ | refine blk_alloc ?_ _)); exact BK188.out) hb)
              have n3_ := Aside0.mk (blk_below (g := gb192) (o := .cells #[.int .u64 t189, .int .i64 t190] 24 (0, 0)) (by (with_reducible repeat (first | refine blk_drewN ?_ _ | refine blk_drew ?_ | refine blk_alloc ?_ _)); exact BK192.out) hb)
              have n4_ := Aside0.mk (blk_below (g := gb197) (o := .cells #[.int .u64 0, .int .i64 0] 24 (0, 0)) (by (with_reducible repeat (first | refine blk_drewN ?_ _ | refine blk_drew ?_ | refine blk_alloc ?_ _)); exact BK197.out) hb)
              have n5_ := Aside0.mk (below_step (by repeat (first | (with_reducible first | exact HB.out | apply below_alloc | apply pw_below_drewN | apply below_drew1 | refine below_set ?_ GE183.out | refine below_set ?_ GE184.out | refine below_set ?_ GE188.out | refine below_set ?_ GE192.out | refine below_set ?_ GE197.out) | exact HB.out)) hb)
              have n6_ := Aside0.mk (hbox)
              have n7_ := Aside0.mk ((by rw [hg]; exact (below_size (by repeat (first | (with_reducible first | exact HB.out | apply below_alloc | apply pw_below_drewN | apply below_drew1 | refine below_set ?_ GE183.out | refine below_set ?_ GE184.out | refine below_set ?_ GE188.out | refine below_set ?_ GE192.out | refine below_set ?_ GE197.out) | exact HB.out))) : w.heap.size ≤ gb198))
              have n8_ := Aside0.mk ((by rw [hg]; exact (below_size (by repeat (first | (with_reducible first | exact HB.out | apply below_alloc | apply pw_below_drewN | apply below_drew1 | refine below_set ?_ GE183.out | refine below_set ?_ GE184.out | refine below_set ?_ GE188.out | refine below_set ?_ GE192.out | refine below_set ?_ GE197.out) | exact HB.out))) : w.heap.size ≤ gb198))
              have n9_ := Aside0.mk ((by rw [hg]; exact Nat.ne_of_lt (blk_lt (g := gb183) (o := .cells #[.int .u64 a0_0, .int .i64 a0_1] 24 (0, 0)) (by (with_reducible repeat (first | refine blk_drewN ?_ _ | refine blk_drew ?_ | refine blk_alloc ?_ _)); exact BK183.out)) : gb183 ≠ gb198))
              have n10_ := Aside0.mk ((by rw [hg]; exact Nat.ne_of_gt (blk_lt (g := gb183) (o := .cells #[.int .u64 a0_0, .int .i64 a0_1] 24 (0, 0)) (by (with_reducible repeat (first | refine blk_drewN ?_ _ | refine blk_drew ?_ | refine blk_alloc ?_ _)); exact BK183.out)) : gb198 ≠ gb183))
              have n11_ := Aside0.mk ((by rw [hg]; exact Nat.ne_of_lt (blk_lt (g := gb184) (o := .cells #[.int .u64 a1_0, .int .i64 a1_1] 24 (0, 0)) (by (with_reducible repeat (first | refine blk_drewN ?_ _ | refine blk_drew ?_ | refine blk_alloc ?_ _)); exact BK184.out)) : gb184 ≠ gb198))
              have n12_ := Aside0.mk ((by rw [hg]; exact Nat.ne_of_gt (blk_lt (g := gb184) (o := .cells #[.int .u64 a1_0, .int .i64 a1_1] 24 (0, 0)) (by (with_reducible repeat (first | refine blk_drewN ?_ _ | refine blk_drew ?_ | refine blk_alloc ?_ _)); exact BK184.out)) : gb198 ≠ gb184))
              have n13_ := Aside0.mk ((by rw [hg]; exact Nat.ne_of_lt (blk_lt (g := gb188) (o := .cells #[.int .u64 t185, .int .i64 t186] 24 (0, 0)) (by (with_reducible repeat (first | refine blk_drewN ?_ _ | refine blk_drew ?_ | refine blk_alloc ?_ _)); exact BK188.out)) : gb188 ≠ gb198))
              have n14_ := Aside0.mk ((by rw [hg]; exact Nat.ne_of_gt (blk_lt (g := gb188) (o := .cells #[.int .u64 t185, .int .i64 t186] 24 (0, 0)) (by (with_reducible repeat (first | refine blk_drewN ?_ _ | refine blk_drew ?_ | refine blk_alloc ?_ _)); exact BK188.out)) : gb198 ≠ gb188))
              have n15_ := Aside0.mk ((by rw [hg]; exact Nat.ne_of_lt (blk_lt (g := gb192) (o := .cells #[.int .u64 t189, .int .i64 t190] 24 (0, 0)) (by (with_reducible repeat (first | refine blk_drewN ?_ _ | refine blk_drew ?_ | refine blk_alloc ?_ _)); exact BK192.out)) : gb192 ≠ gb198))
              have n16_ := Aside0.mk ((by rw [hg]; exact Nat.ne_of_gt (blk_lt (g := gb192) (o := .cells #[.int .u64 t189, .int .i64 t190] 24 (0, 0)) (by (with_reducible repeat (first | refine blk_drewN ?_ _ | refine blk_drew ?_ | refine blk_alloc ?_ _)); exact BK192.out)) : gb198 ≠ gb192))
              have n17_ := Aside0.mk ((by rw [hg]; exact Nat.ne_of_lt (blk_lt (g := gb197) (o := .cells #[.int .u64 0, .int .i64 0] 24 (0, 0)) (by (with_reducible repeat (first | refine blk_drewN ?_ _ | refine blk_drew ?_ | refine blk_alloc ?_ _)); exact BK197.out)) : gb197 ≠ gb198))
              have n18_ := Aside0.mk ((by rw [hg]; exact Nat.ne_of_gt (blk_lt (g := gb197) (o := .cells #[.int .u64 0, .int .i64 0] 24 (0, 0)) (by (with_reducible repeat (first | refine blk_drewN ?_ _ | refine blk_drew ?_ | refine blk_alloc ?_ _)); exact BK197.out)) : gb198 ≠ gb197))
              clear BK183
              clear BK184
              clear BK188
              clear BK192
              clear BK197
              clear HB
              have BK183 := n0_
              have BK184 := n1_
              have BK188 := n2_
              have BK192 := n3_
              have BK197 := n4_
              have HB := n5_
              have BK198 := n6_
              have GW198 := n7_
              have GE198 := n8_
              have NB183_198 := n9_
              have NB198_183 := n10_
              have NB184_198 := n11_
              have NB198_184 := n12_
              have NB188_198 := n13_
              have NB198_188 := n14_
              have NB192_198 := n15_
              have NB198_192 := n16_
              have NB197_198 := n17_
              have NB198_197 := n18_
              clear n0_ n1_ n2_ n3_ n4_ n5_ n6_ n7_ n8_ n9_ n10_ n11_ n12_ n13_ n14_ n15_ n16_ n17_ n18_
              clear hb hbox hg
              refine hK.out _ _ ⟨(blk_cell BK183.out 0).trans rfl, (blk_cell BK183.out 1).trans rfl, (blk_cell BK184.out 0).trans rfl, (blk_cell BK184.out 1).trans rfl⟩ (fun hHeld => ?_)
              clear hK K
              refine norm_ (a' := ?_) ?_ ?_
              rotate_left
              · show Act.put _ (some 10) _ = _
                simp only [Act.put, List.setIfInBounds_toArray, List.set_cons_zero, List.set_cons_succ, i64_w, i32_w]
                rfl
              exact norm_ (by first | (simp only [putAll, Act.put, List.setIfInBounds_toArray, List.set_cons_zero, List.set_cons_succ]; done) | (simp only [putAll, Act.put, List.setIfInBounds_toArray, List.set_cons_zero, List.set_cons_succ]; rfl)) (hJ4_9_10_11 (gb197, gb198) _ ⟨hHeld, (by (with_reducible repeat (first | refine blk_drewN ?_ _ | refine blk_drew ?_ | refine blk_alloc ?_ _)); exact BK183.out), (by (with_reducible repeat (first | refine blk_drewN ?_ _ | refine blk_drew ?_ | refine blk_alloc ?_ _)); exact BK184.out), (by (with_reducible repeat (first | refine blk_drewN ?_ _ | refine blk_drew ?_ | refine blk_alloc ?_ _)); exact BK188.out), (by (with_reducible repeat (first | refine blk_drewN ?_ _ | refine blk_drew ?_ | refine blk_alloc ?_ _)); exact BK192.out), (by (with_reducible repeat (first | refine blk_drewN ?_ _ | refine blk_drew ?_ | refine blk_alloc ?_ _)); exact BK197.out), (by (with_reducible repeat (first | refine blk_drewN ?_ _ | refine blk_drew ?_ | refine blk_alloc ?_ _)); exact BK198.out), GW197.out, GE197.out, NB183_197.out, NB197_183.out, NB184_197.out, NB197_184.out, NB188_197.out, NB197_188.out, NB192_197.out, NB197_192.out, NB198_197.out, NB197_198.out, GW198.out, GE198.out, NB183_198.out, NB198_183.out, NB184_198.out, NB198_184.out, NB188_198.out, NB198_188.out, NB192_198.out, NB198_192.out, (by repeat (first | (with_reducible first | exact HB.out | apply below_alloc | apply pw_below_drewN | apply below_drew1 | refine below_set ?_ GE183.out | refine below_set ?_ GE184.out | refine below_set ?_ GE188.out | refine below_set ?_ GE192.out | refine below_set ?_ GE197.out | refine below_set ?_ GE198.out) | exact HB.out))⟩)
          rintro ⟨gb197, gb198⟩ w38 ⟨hS_, h0_, h1_, h2_, h3_, h4_, h5_, h6_, h7_, h8_, h9_, h10_, h11_, h12_, h13_, h14_, h15_, h16_, h17_, h18_, h19_, h20_, h21_, h22_, h23_, h24_, h25_, h26_, h27_, h28_⟩
          have n0_ : Aside0 (w38.heap[gb183]? = some (.cells #[.int .u64 a0_0, .int .i64 a0_1] 24 (0, 0))) := ⟨h0_⟩
          have n1_ : Aside0 (w38.heap[gb184]? = some (.cells #[.int .u64 a1_0, .int .i64 a1_1] 24 (0, 0))) := ⟨h1_⟩
          have n2_ : Aside0 (w38.heap[gb188]? = some (.cells #[.int .u64 t185, .int .i64 t186] 24 (0, 0))) := ⟨h2_⟩
          have n3_ : Aside0 (w38.heap[gb192]? = some (.cells #[.int .u64 t189, .int .i64 t190] 24 (0, 0))) := ⟨h3_⟩
          have n4_ : Aside0 (w38.heap[gb197]? = some (.cells #[.int .u64 0, .int .i64 0] 24 (0, 0))) := ⟨h4_⟩
          have n5_ : Aside0 (w38.heap[gb198]? = some (.cells #[.int .u64 0, .int .i64 0] 24 (0, 0))) := ⟨h5_⟩
          have n6_ : Aside0 (w.heap.size ≤ gb197) := ⟨h6_⟩
          have n7_ : Aside0 (w.heap.size ≤ gb197) := ⟨h7_⟩
          have n8_ : Aside0 (gb183 ≠ gb197) := ⟨h8_⟩
          have n9_ : Aside0 (gb197 ≠ gb183) := ⟨h9_⟩
          have n10_ : Aside0 (gb184 ≠ gb197) := ⟨h10_⟩
          have n11_ : Aside0 (gb197 ≠ gb184) := ⟨h11_⟩
          have n12_ : Aside0 (gb188 ≠ gb197) := ⟨h12_⟩
          have n13_ : Aside0 (gb197 ≠ gb188) := ⟨h13_⟩
          have n14_ : Aside0 (gb192 ≠ gb197) := ⟨h14_⟩
          have n15_ : Aside0 (gb197 ≠ gb192) := ⟨h15_⟩
          have n16_ : Aside0 (gb198 ≠ gb197) := ⟨h16_⟩
          have n17_ : Aside0 (gb197 ≠ gb198) := ⟨h17_⟩
          have n18_ : Aside0 (w.heap.size ≤ gb198) := ⟨h18_⟩
          have n19_ : Aside0 (w.heap.size ≤ gb198) := ⟨h19_⟩
          have n20_ : Aside0 (gb183 ≠ gb198) := ⟨h20_⟩
          have n21_ : Aside0 (gb198 ≠ gb183) := ⟨h21_⟩
          have n22_ : Aside0 (gb184 ≠ gb198) := ⟨h22_⟩
          have n23_ : Aside0 (gb198 ≠ gb184) := ⟨h23_⟩
          have n24_ : Aside0 (gb188 ≠ gb198) := ⟨h24_⟩
          have n25_ : Aside0 (gb198 ≠ gb188) := ⟨h25_⟩
          have n26_ : Aside0 (gb192 ≠ gb198) := ⟨h26_⟩
          have n27_ : Aside0 (gb198 ≠ gb192) := ⟨h27_⟩
          have n28_ : Aside0 (Below w.heap.size w w38) := ⟨h28_⟩
          clear BK183
          clear BK184
          clear BK188
          clear BK192
          clear HB
          clear h0_ h1_ h2_ h3_ h4_ h5_ h6_ h7_ h8_ h9_ h10_ h11_ h12_ h13_ h14_ h15_ h16_ h17_ h18_ h19_ h20_ h21_ h22_ h23_ h24_ h25_ h26_ h27_ h28_
          have BK183 := n0_
          have BK184 := n1_
          have BK188 := n2_
          have BK192 := n3_
          have BK197 := n4_
          have BK198 := n5_
          have GW197 := n6_
          have GE197 := n7_
          have NB183_197 := n8_
          have NB197_183 := n9_
          have NB184_197 := n10_
          have NB197_184 := n11_
          have NB188_197 := n12_
          have NB197_188 := n13_
          have NB192_197 := n14_
          have NB197_192 := n15_
          have NB198_197 := n16_
          have NB197_198 := n17_
          have GW198 := n18_
          have GE198 := n19_
          have NB183_198 := n20_
          have NB198_183 := n21_
          have NB184_198 := n22_
          have NB198_184 := n23_
          have NB188_198 := n24_
          have NB198_188 := n25_
          have NB192_198 := n26_
          have NB198_192 := n27_
          have HB := n28_
          clear n0_ n1_ n2_ n3_ n4_ n5_ n6_ n7_ n8_ n9_ n10_ n11_ n12_ n13_ n14_ n15_ n16_ n17_ n18_ n19_ n20_ n21_ n22_ n23_ n24_ n25_ n26_ n27_ n28_
          have hHeld : w38.cell? ⟨gb183, 0, none⟩ = some (.int .u64 a0_0) ∧ w38.cell? ⟨gb183, 1, none⟩ = some (.int .i64 a0_1) ∧ w38.cell? ⟨gb184, 0, none⟩ = some (.int .u64 a1_0) ∧ w38.cell? ⟨gb184, 1, none⟩ = some (.int .i64 a1_1) := hS_
          refine norm_ (a' := ?_) ?_ ?_
          rotate_left
          · simp only [putAll, Act.put, List.setIfInBounds_toArray, List.set_cons_zero, List.set_cons_succ]
            rfl
          refine one_ (i := 12) (N := none) #[true, true, true, true, true, true, true, true, true, true, true, true, true, false] rfl rfl (one_of HT_.out (by kernel_rfl)) (by decide) (fun K hK => ?_)
          have hs39 : w38.cell? ⟨gb197, 0, none⟩ = some (.int .u64 0) := (blk_cell BK197.out 0).trans rfl
          have hfs39 := blk_frozen BK197.out 0
          have hns39_0 := NB183_197.out
          have hns39_1 := NB184_197.out
          have hns39_2 := NB188_197.out
          have hns39_3 := NB192_197.out
          have hns39_5 := NB198_197.out
          have hms39_0 := NB197_183.out
          have hms39_1 := NB197_184.out
          have hms39_2 := NB197_188.out
          have hms39_3 := NB197_192.out
          have hms39_5 := NB197_198.out
          have hs40 : w38.cell? ⟨gb197, 1, none⟩ = some (.int .i64 0) := (blk_cell BK197.out 1).trans rfl
          have hfs40 := blk_frozen BK197.out 1
          have hns40_0 := NB183_197.out
          have hns40_1 := NB184_197.out
          have hns40_2 := NB188_197.out
          have hns40_3 := NB192_197.out
          have hns40_5 := NB198_197.out
          have hms40_0 := NB197_183.out
          have hms40_1 := NB197_184.out
          have hms40_2 := NB197_188.out
          have hms40_3 := NB197_192.out
          have hms40_5 := NB197_198.out
          refine skip_ (w1 := ?_) (by rfl) rfl ?_ ?_
          rotate_left
          · go_simp
            rfl
          refine hK.out _ _ ⟨((cell_far (p := ⟨gb197, _, none⟩) NB183_197.out _).trans (((cell_far (p := ⟨gb197, _, none⟩) NB183_197.out _).trans (hHeld.1)))), ((cell_far (p := ⟨gb197, _, none⟩) NB183_197.out _).trans (((cell_far (p := ⟨gb197, _, none⟩) NB183_197.out _).trans (hHeld.2.1)))), ((cell_far (p := ⟨gb197, _, none⟩) NB184_197.out _).trans (((cell_far (p := ⟨gb197, _, none⟩) NB184_197.out _).trans (hHeld.2.2.1)))), ((cell_far (p := ⟨gb197, _, none⟩) NB184_197.out _).trans (((cell_far (p := ⟨gb197, _, none⟩) NB184_197.out _).trans (hHeld.2.2.2))))⟩ (fun hHeld => ?_)
          clear hK K
          refine one_ (i := 13) (N := none) #[true, true, true, true, true, true, true, true, true, true, true, true, true, true] rfl rfl (one_of HT_.out (by kernel_rfl)) (by decide) (fun K hK => ?_)
          have hs41 : w38.cell? ⟨gb198, 0, none⟩ = some (.int .u64 0) := (blk_cell BK198.out 0).trans rfl
          have hfs41 := blk_frozen BK198.out 0
          have hns41_0 := NB183_198.out
          have hns41_1 := NB184_198.out
          have hns41_2 := NB188_198.out
          have hns41_3 := NB192_198.out
          have hns41_4 := NB197_198.out
          have hms41_0 := NB198_183.out
          have hms41_1 := NB198_184.out
          have hms41_2 := NB198_188.out
          have hms41_3 := NB198_192.out
          have hms41_4 := NB198_197.out
          have hs42 : w38.cell? ⟨gb198, 1, none⟩ = some (.int .i64 0) := (blk_cell BK198.out 1).trans rfl
          have hfs42 := blk_frozen BK198.out 1
          have hns42_0 := NB183_198.out
          have hns42_1 := NB184_198.out
          have hns42_2 := NB188_198.out
          have hns42_3 := NB192_198.out
          have hns42_4 := NB197_198.out
          have hms42_0 := NB198_183.out
          have hms42_1 := NB198_184.out
          have hms42_2 := NB198_188.out
          have hms42_3 := NB198_192.out
          have hms42_4 := NB198_197.out
          refine skip_ (w1 := ?_) (by rfl) rfl ?_ ?_
          rotate_left
          · go_simp
            rfl
          refine hK.out _ _ ⟨((cell_far (p := ⟨gb198, _, none⟩) NB183_198.out _).trans (((cell_far (p := ⟨gb198, _, none⟩) NB183_198.out _).trans (hHeld.1)))), ((cell_far (p := ⟨gb198, _, none⟩) NB183_198.out _).trans (((cell_far (p := ⟨gb198, _, none⟩) NB183_198.out _).trans (hHeld.2.1)))), ((cell_far (p := ⟨gb198, _, none⟩) NB184_198.out _).trans (((cell_far (p := ⟨gb198, _, none⟩) NB184_198.out _).trans (hHeld.2.2.1)))), ((cell_far (p := ⟨gb198, _, none⟩) NB184_198.out _).trans (((cell_far (p := ⟨gb198, _, none⟩) NB184_198.out _).trans (hHeld.2.2.2))))⟩ (fun hHeld => ?_)
          clear hK K
          refine done_ (done_of HT_.out (by kernel_rfl)) ?_
          have hnb43 := NB197_183.out
          have hnc43 := NB183_197.out
          have hnb44 := NB197_184.out
          have hnc44 := NB184_197.out
          have hnb45 := NB197_188.out
          have hnc45 := NB188_197.out
          have hnb46 := NB197_192.out
          have hnc46 := NB192_197.out
          have hnb47 := NB197_198.out
          have hnc47 := NB198_197.out
          have hcz48_0 : w38.cell? ⟨gb197, 0, none⟩ = some (.int .u64 0) := (blk_cell BK197.out 0).trans rfl
          have hcz48_1 : w38.cell? ⟨gb197, 1, none⟩ = some (.int .i64 0) := (blk_cell BK197.out 1).trans rfl
          have hfz48_0 := blk_frozen BK197.out 0
          have hfz48_1 := blk_frozen BK197.out 1
          have hnb49 := NB198_183.out
          have hnc49 := NB183_198.out
          have hnb50 := NB198_184.out
          have hnc50 := NB184_198.out
          have hnb51 := NB198_188.out
          have hnc51 := NB188_198.out
          have hnb52 := NB198_192.out
          have hnc52 := NB192_198.out
          have hcz53_0 : w38.cell? ⟨gb198, 0, none⟩ = some (.int .u64 0) := (blk_cell BK198.out 0).trans rfl
          have hcz53_1 : w38.cell? ⟨gb198, 1, none⟩ = some (.int .i64 0) := (blk_cell BK198.out 1).trans rfl
          have hfz53_0 := blk_frozen BK198.out 0
          have hfz53_1 := blk_frozen BK198.out 1
          try go_wp2_with (first | ((with_reducible refine gate_callee (f := 26) rfl ?_); refine goesL_ (some 40) rfl rfl Try.func26 (by kernel_rfl) rfl #[.agg #[.int .u64 t193, .int .i64 t194], .agg #[.int .u64 t195, .int .i64 t196]] rfl (by (try simp only [List.map_toArray, List.map_cons, List.map_nil]); first | done | rfl | (simp only [List.length_drop, List.length_take]; rfl)) ?_; (with_reducible refine (fingerprint_Join.calls k t193 t194 t195 t196 t199 t200 t201 _ A7.out).mono ?_); rintro e w54 ⟨rfl, hb⟩; refine ⟨_, rfl, ?_⟩; have n0_ := Aside0.mk (blk_below (g := gb183) (o := .cells #[.int .u64 a0_0, .int .i64 a0_1] 24 (0, 0)) (by (with_reducible repeat (first | refine blk_drewN ?_ _ | refine blk_drew ?_ | refine blk_alloc ?_ _)); refine blk_far ?_ NB183_198.out _; (with_reducible repeat (first | refine blk_drewN ?_ _ | refine blk_drew ?_ | refine blk_alloc ?_ _)); refine blk_far ?_ NB183_198.out _; (with_reducible repeat (first | refine blk_drewN ?_ _ | refine blk_drew ?_ | refine blk_alloc ?_ _)); refine blk_far ?_ NB183_197.out _; (with_reducible repeat (first | refine blk_drewN ?_ _ | refine blk_drew ?_ | refine blk_alloc ?_ _)); refine blk_far ?_ NB183_197.out _; (with_reducible repeat (first | refine blk_drewN ?_ _ | refine blk_drew ?_ | refine blk_alloc ?_ _)); exact BK183.out) hb); have n1_ := Aside0.mk (blk_below (g := gb184) (o := .cells #[.int .u64 a1_0, .int .i64 a1_1] 24 (0, 0)) (by (with_reducible repeat (first | refine blk_drewN ?_ _ | refine blk_drew ?_ | refine blk_alloc ?_ _)); refine blk_far ?_ NB184_198.out _; (with_reducible repeat (first | refine blk_drewN ?_ _ | refine blk_drew ?_ | refine blk_alloc ?_ _)); refine blk_far ?_ NB184_198.out _; (with_reducible repeat (first | refine blk_drewN ?_ _ | refine blk_drew ?_ | refine blk_alloc ?_ _)); refine blk_far ?_ NB184_197.out _; (with_reducible repeat (first | refine blk_drewN ?_ _ | refine blk_drew ?_ | refine blk_alloc ?_ _)); refine blk_far ?_ NB184_197.out _; (with_reducible repeat (first | refine blk_drewN ?_ _ | refine blk_drew ?_ | refine blk_alloc ?_ _)); exact BK184.out) hb); have n2_ := Aside0.mk (blk_below (g := gb188) (o := .cells #[.int .u64 t185, .int .i64 t186] 24 (0, 0)) (by (with_reducible repeat (first | refine blk_drewN ?_ _ | refine blk_drew ?_ | refine blk_alloc ?_ _)); refine blk_far ?_ NB188_198.out _; (with_reducible repeat (first | refine blk_drewN ?_ _ | refine blk_drew ?_ | refine blk_alloc ?_ _)); refine blk_far ?_ NB188_198.out _; (with_reducible repeat (first | refine blk_drewN ?_ _ | refine blk_drew ?_ | refine blk_alloc ?_ _)); refine blk_far ?_ NB188_197.out _; (with_reducible repeat (first | refine blk_drewN ?_ _ | refine blk_drew ?_ | refine blk_alloc ?_ _)); refine blk_far ?_ NB188_197.out _; (with_reducible repeat (first | refine blk_drewN ?_ _ | refine blk_drew ?_ | refine blk_alloc ?_ _)); exact BK188.out) hb); have n3_ := Aside0.mk (blk_below (g := gb192) (o := .cells #[.int .u64 t189, .int .i64 t190] 24 (0, 0)) (by (with_reducible repeat (first | refine blk_drewN ?_ _ | refine blk_drew ?_ | refine blk_alloc ?_ _)); refine blk_far ?_ NB192_198.out _; (with_reducible repeat (first | refine blk_drewN ?_ _ | refine blk_drew ?_ | refine blk_alloc ?_ _)); refine blk_far ?_ NB192_198.out _; (with_reducible repeat (first | refine blk_drewN ?_ _ | refine blk_drew ?_ | refine blk_alloc ?_ _)); refine blk_far ?_ NB192_197.out _; (with_reducible repeat (first | refine blk_drewN ?_ _ | refine blk_drew ?_ | refine blk_alloc ?_ _)); refine blk_far ?_ NB192_197.out _; (with_reducible repeat (first | refine blk_drewN ?_ _ | refine blk_drew ?_ | refine blk_alloc ?_ _)); exact BK192.out) hb); have n4_ := Aside0.mk (blk_below (g := gb197) (o := .cells #[.int .u64 t193, .int .i64 t194] 24 (0, 0)) (by (with_reducible repeat (first | refine blk_drewN ?_ _ | refine blk_drew ?_ | refine blk_alloc ?_ _)); refine blk_far ?_ NB197_198.out _; (with_reducible repeat (first | refine blk_drewN ?_ _ | refine blk_drew ?_ | refine blk_alloc ?_ _)); refine blk_far ?_ NB197_198.out _; (with_reducible repeat (first | refine blk_drewN ?_ _ | refine blk_drew ?_ | refine blk_alloc ?_ _)); refine blk_put (cs := #[.int .u64 t193, .int .i64 0]) ?_ 1 _ rfl; (with_reducible repeat (first | refine blk_drewN ?_ _ | refine blk_drew ?_ | refine blk_alloc ?_ _)); refine blk_put (cs := #[.int .u64 0, .int .i64 0]) ?_ 0 _ rfl; (with_reducible repeat (first | refine blk_drewN ?_ _ | refine blk_drew ?_ | refine blk_alloc ?_ _)); exact BK197.out) hb); have n5_ := Aside0.mk (blk_below (g := gb198) (o := .cells #[.int .u64 t195, .int .i64 t196] 24 (0, 0)) (by (with_reducible repeat (first | refine blk_drewN ?_ _ | refine blk_drew ?_ | refine blk_alloc ?_ _)); refine blk_put (cs := #[.int .u64 t195, .int .i64 0]) ?_ 1 _ rfl; (with_reducible repeat (first | refine blk_drewN ?_ _ | refine blk_drew ?_ | refine blk_alloc ?_ _)); refine blk_put (cs := #[.int .u64 0, .int .i64 0]) ?_ 0 _ rfl; (with_reducible repeat (first | refine blk_drewN ?_ _ | refine blk_drew ?_ | refine blk_alloc ?_ _)); refine blk_far ?_ NB198_197.out _; (with_reducible repeat (first | refine blk_drewN ?_ _ | refine blk_drew ?_ | refine blk_alloc ?_ _)); refine blk_far ?_ NB198_197.out _; (with_reducible repeat (first | refine blk_drewN ?_ _ | refine blk_drew ?_ | refine blk_alloc ?_ _)); exact BK198.out) hb); have n6_ := Aside0.mk (below_step (by repeat (first | (with_reducible first | exact HB.out | apply below_alloc | apply pw_below_drewN | apply below_drew1 | refine below_set ?_ GE183.out | refine below_set ?_ GE184.out | refine below_set ?_ GE188.out | refine below_set ?_ GE192.out | refine below_set ?_ GE197.out | refine below_set ?_ GE198.out) | exact HB.out)) hb); clear BK183; clear BK184; clear BK188; clear BK192; clear BK197; clear BK198; clear HB; have BK183 := n0_; have BK184 := n1_; have BK188 := n2_; have BK192 := n3_; have BK197 := n4_; have BK198 := n5_; have HB := n6_; clear n0_ n1_ n2_ n3_ n4_ n5_ n6_; (try clear hb); (try clear hb2); (try clear hk); (try clear hi)) | ((with_reducible refine gate_dst (N := 11) rfl ?_); refine box_event ?hg (N := 11) ?hd (cs := #[.int .u64 0, .int .i64 0]) (t := 24) ?hr ?_; (case hd => rfl); (case hg => rfl); (case hr => first | (go_simp; done) | (go_simp; rfl)); intro gb202 hg w55 hbox hb; have n0_ := Aside0.mk (blk_below (g := gb183) (o := .cells #[.int .u64 a0_0, .int .i64 a0_1] 24 (0, 0)) (by (with_reducible repeat (first | refine blk_drewN ?_ _ | refine blk_drew ?_ | refine blk_alloc ?_ _)); exact BK183.out) hb); have n1_ := Aside0.mk (blk_below (g := gb184) (o := .cells #[.int .u64 a1_0, .int .i64 a1_1] 24 (0, 0)) (by (with_reducible repeat (first | refine blk_drewN ?_ _ | refine blk_drew ?_ | refine blk_alloc ?_ _)); exact BK184.out) hb); have n2_ := Aside0.mk (blk_below (g := gb188) (o := .cells #[.int .u64 t185, .int .i64 t186] 24 (0, 0)) (by (with_reducible repeat (first | refine blk_drewN ?_ _ | refine blk_drew ?_ | refine blk_alloc ?_ _)); exact BK188.out) hb); have n3_ := Aside0.mk (blk_below (g := gb192) (o := .cells #[.int .u64 t189, .int .i64 t190] 24 (0, 0)) (by (with_reducible repeat (first | refine blk_drewN ?_ _ | refine blk_drew ?_ | refine blk_alloc ?_ _)); exact BK192.out) hb); have n4_ := Aside0.mk (blk_below (g := gb197) (o := .cells #[.int .u64 t193, .int .i64 t194] 24 (0, 0)) (by (with_reducible repeat (first | refine blk_drewN ?_ _ | refine blk_drew ?_ | refine blk_alloc ?_ _)); exact BK197.out) hb); have n5_ := Aside0.mk (blk_below (g := gb198) (o := .cells #[.int .u64 t195, .int .i64 t196] 24 (0, 0)) (by (with_reducible repeat (first | refine blk_drewN ?_ _ | refine blk_drew ?_ | refine blk_alloc ?_ _)); exact BK198.out) hb); have n6_ := Aside0.mk (below_step (by repeat (first | (with_reducible first | exact HB.out | apply below_alloc | apply pw_below_drewN | apply below_drew1 | refine below_set ?_ GE183.out | refine below_set ?_ GE184.out | refine below_set ?_ GE188.out | refine below_set ?_ GE192.out | refine below_set ?_ GE197.out | refine below_set ?_ GE198.out) | exact HB.out)) hb); have n7_ := Aside0.mk (hbox); have n8_ := Aside0.mk ((by rw [hg]; exact (below_size (by repeat (first | (with_reducible first | exact HB.out | apply below_alloc | apply pw_below_drewN | apply below_drew1 | refine below_set ?_ GE183.out | refine below_set ?_ GE184.out | refine below_set ?_ GE188.out | refine below_set ?_ GE192.out | refine below_set ?_ GE197.out | refine below_set ?_ GE198.out) | exact HB.out))) : w.heap.size ≤ gb202)); have n9_ := Aside0.mk ((by rw [hg]; exact (below_size (by repeat (first | (with_reducible first | exact HB.out | apply below_alloc | apply pw_below_drewN | apply below_drew1 | refine below_set ?_ GE183.out | refine below_set ?_ GE184.out | refine below_set ?_ GE188.out | refine below_set ?_ GE192.out | refine below_set ?_ GE197.out | refine below_set ?_ GE198.out) | exact HB.out))) : w.heap.size ≤ gb202)); have n10_ := Aside0.mk ((by rw [hg]; exact Nat.ne_of_lt (blk_lt (g := gb183) (o := .cells #[.int .u64 a0_0, .int .i64 a0_1] 24 (0, 0)) (by (with_reducible repeat (first | refine blk_drewN ?_ _ | refine blk_drew ?_ | refine blk_alloc ?_ _)); exact BK183.out)) : gb183 ≠ gb202)); have n11_ := Aside0.mk ((by rw [hg]; exact Nat.ne_of_gt (blk_lt (g := gb183) (o := .cells #[.int .u64 a0_0, .int .i64 a0_1] 24 (0, 0)) (by (with_reducible repeat (first | refine blk_drewN ?_ _ | refine blk_drew ?_ | refine blk_alloc ?_ _)); exact BK183.out)) : gb202 ≠ gb183)); have n12_ := Aside0.mk ((by rw [hg]; exact Nat.ne_of_lt (blk_lt (g := gb184) (o := .cells #[.int .u64 a1_0, .int .i64 a1_1] 24 (0, 0)) (by (with_reducible repeat (first | refine blk_drewN ?_ _ | refine blk_drew ?_ | refine blk_alloc ?_ _)); exact BK184.out)) : gb184 ≠ gb202)); have n13_ := Aside0.mk ((by rw [hg]; exact Nat.ne_of_gt (blk_lt (g := gb184) (o := .cells #[.int .u64 a1_0, .int .i64 a1_1] 24 (0, 0)) (by (with_reducible repeat (first | refine blk_drewN ?_ _ | refine blk_drew ?_ | refine blk_alloc ?_ _)); exact BK184.out)) : gb202 ≠ gb184)); have n14_ := Aside0.mk ((by rw [hg]; exact Nat.ne_of_lt (blk_lt (g := gb188) (o := .cells #[.int .u64 t185, .int .i64 t186] 24 (0, 0)) (by (with_reducible repeat (first | refine blk_drewN ?_ _ | refine blk_drew ?_ | refine blk_alloc ?_ _)); exact BK188.out)) : gb188 ≠ gb202)); have n15_ := Aside0.mk ((by rw [hg]; exact Nat.ne_of_gt (blk_lt (g := gb188) (o := .cells #[.int .u64 t185, .int .i64 t186] 24 (0, 0)) (by (with_reducible repeat (first | refine blk_drewN ?_ _ | refine blk_drew ?_ | refine blk_alloc ?_ _)); exact BK188.out)) : gb202 ≠ gb188)); have n16_ := Aside0.mk ((by rw [hg]; exact Nat.ne_of_lt (blk_lt (g := gb192) (o := .cells #[.int .u64 t189, .int .i64 t190] 24 (0, 0)) (by (with_reducible repeat (first | refine blk_drewN ?_ _ | refine blk_drew ?_ | refine blk_alloc ?_ _)); exact BK192.out)) : gb192 ≠ gb202)); have n17_ := Aside0.mk ((by rw [hg]; exact Nat.ne_of_gt (blk_lt (g := gb192) (o := .cells #[.int .u64 t189, .int .i64 t190] 24 (0, 0)) (by (with_reducible repeat (first | refine blk_drewN ?_ _ | refine blk_drew ?_ | refine blk_alloc ?_ _)); exact BK192.out)) : gb202 ≠ gb192)); have n18_ := Aside0.mk ((by rw [hg]; exact Nat.ne_of_lt (blk_lt (g := gb197) (o := .cells #[.int .u64 t193, .int .i64 t194] 24 (0, 0)) (by (with_reducible repeat (first | refine blk_drewN ?_ _ | refine blk_drew ?_ | refine blk_alloc ?_ _)); exact BK197.out)) : gb197 ≠ gb202)); have n19_ := Aside0.mk ((by rw [hg]; exact Nat.ne_of_gt (blk_lt (g := gb197) (o := .cells #[.int .u64 t193, .int .i64 t194] 24 (0, 0)) (by (with_reducible repeat (first | refine blk_drewN ?_ _ | refine blk_drew ?_ | refine blk_alloc ?_ _)); exact BK197.out)) : gb202 ≠ gb197)); have n20_ := Aside0.mk ((by rw [hg]; exact Nat.ne_of_lt (blk_lt (g := gb198) (o := .cells #[.int .u64 t195, .int .i64 t196] 24 (0, 0)) (by (with_reducible repeat (first | refine blk_drewN ?_ _ | refine blk_drew ?_ | refine blk_alloc ?_ _)); exact BK198.out)) : gb198 ≠ gb202)); have n21_ := Aside0.mk ((by rw [hg]; exact Nat.ne_of_gt (blk_lt (g := gb198) (o := .cells #[.int .u64 t195, .int .i64 t196] 24 (0, 0)) (by (with_reducible repeat (first | refine blk_drewN ?_ _ | refine blk_drew ?_ | refine blk_alloc ?_ _)); exact BK198.out)) : gb202 ≠ gb198)); clear BK183; clear BK184; clear BK188; clear BK192; clear BK197; clear BK198; clear HB; have BK183 := n0_; have BK184 := n1_; have BK188 := n2_; have BK192 := n3_; have BK197 := n4_; have BK198 := n5_; have HB := n6_; have BK202 := n7_; have GW202 := n8_; have GE202 := n9_; have NB183_202 := n10_; have NB202_183 := n11_; have NB184_202 := n12_; have NB202_184 := n13_; have NB188_202 := n14_; have NB202_188 := n15_; have NB192_202 := n16_; have NB202_192 := n17_; have NB197_202 := n18_; have NB202_197 := n19_; have NB198_202 := n20_; have NB202_198 := n21_; clear n0_ n1_ n2_ n3_ n4_ n5_ n6_ n7_ n8_ n9_ n10_ n11_ n12_ n13_ n14_ n15_ n16_ n17_ n18_ n19_ n20_ n21_; clear hb hbox hg; have hnb56 := NB202_183.out; have hnc56 := NB183_202.out; have hnb57 := NB202_184.out; have hnc57 := NB184_202.out; have hnb58 := NB202_188.out; have hnc58 := NB188_202.out; have hnb59 := NB202_192.out; have hnc59 := NB192_202.out; have hnb60 := NB202_197.out; have hnc60 := NB197_202.out; have hnb61 := NB202_198.out; have hnc61 := NB198_202.out; have hcz62_0 : w55.cell? ⟨gb202, 0, none⟩ = some (.int .u64 0) := (blk_cell BK202.out 0).trans rfl; have hcz62_1 : w55.cell? ⟨gb202, 1, none⟩ = some (.int .i64 0) := (blk_cell BK202.out 1).trans rfl; have hfz62_0 := blk_frozen BK202.out 0; have hfz62_1 := blk_frozen BK202.out 1; have hcz63_0 : w55.cell? ⟨gb197, 0, none⟩ = some (.int .u64 t193) := (blk_cell BK197.out 0).trans rfl; have hcz63_1 : w55.cell? ⟨gb197, 1, none⟩ = some (.int .i64 t194) := (blk_cell BK197.out 1).trans rfl; have hfz63_0 := blk_frozen BK197.out 0; have hfz63_1 := blk_frozen BK197.out 1; have hcz64_0 : w55.cell? ⟨gb198, 0, none⟩ = some (.int .u64 t195) := (blk_cell BK198.out 0).trans rfl; have hcz64_1 : w55.cell? ⟨gb198, 1, none⟩ = some (.int .i64 t196) := (blk_cell BK198.out 1).trans rfl; have hfz64_0 := blk_frozen BK198.out 0; have hfz64_1 := blk_frozen BK198.out 1) | ((with_reducible refine gate_callee (f := 27) rfl ?_); refine goesL_ (some 46) rfl rfl Try.func27 (by kernel_rfl) rfl #[.agg #[.int .u64 t193, .int .i64 t194], .agg #[.int .u64 t195, .int .i64 t196]] rfl (by (try simp only [List.map_toArray, List.map_cons, List.map_nil]); first | done | rfl | (simp only [List.length_drop, List.length_take]; rfl)) ?_; (with_reducible refine (stockyardref22_Join.calls k t193 t194 t195 t196 t203 t204 t205 _ A8.out).mono ?_); rintro e w65 ⟨rfl, hb⟩; refine ⟨_, rfl, ?_⟩; have n0_ := Aside0.mk (blk_below (g := gb183) (o := .cells #[.int .u64 a0_0, .int .i64 a0_1] 24 (0, 0)) (by (with_reducible repeat (first | refine blk_drewN ?_ _ | refine blk_drew ?_ | refine blk_alloc ?_ _)); refine blk_far ?_ NB183_202.out _; (with_reducible repeat (first | refine blk_drewN ?_ _ | refine blk_drew ?_ | refine blk_alloc ?_ _)); refine blk_far ?_ NB183_202.out _; (with_reducible repeat (first | refine blk_drewN ?_ _ | refine blk_drew ?_ | refine blk_alloc ?_ _)); exact BK183.out) hb); have n1_ := Aside0.mk (blk_below (g := gb184) (o := .cells #[.int .u64 a1_0, .int .i64 a1_1] 24 (0, 0)) (by (with_reducible repeat (first | refine blk_drewN ?_ _ | refine blk_drew ?_ | refine blk_alloc ?_ _)); refine blk_far ?_ NB184_202.out _; (with_reducible repeat (first | refine blk_drewN ?_ _ | refine blk_drew ?_ | refine blk_alloc ?_ _)); refine blk_far ?_ NB184_202.out _; (with_reducible repeat (first | refine blk_drewN ?_ _ | refine blk_drew ?_ | refine blk_alloc ?_ _)); exact BK184.out) hb); have n2_ := Aside0.mk (blk_below (g := gb188) (o := .cells #[.int .u64 t185, .int .i64 t186] 24 (0, 0)) (by (with_reducible repeat (first | refine blk_drewN ?_ _ | refine blk_drew ?_ | refine blk_alloc ?_ _)); refine blk_far ?_ NB188_202.out _; (with_reducible repeat (first | refine blk_drewN ?_ _ | refine blk_drew ?_ | refine blk_alloc ?_ _)); refine blk_far ?_ NB188_202.out _; (with_reducible repeat (first | refine blk_drewN ?_ _ | refine blk_drew ?_ | refine blk_alloc ?_ _)); exact BK188.out) hb); have n3_ := Aside0.mk (blk_below (g := gb192) (o := .cells #[.int .u64 t189, .int .i64 t190] 24 (0, 0)) (by (with_reducible repeat (first | refine blk_drewN ?_ _ | refine blk_drew ?_ | refine blk_alloc ?_ _)); refine blk_far ?_ NB192_202.out _; (with_reducible repeat (first | refine blk_drewN ?_ _ | refine blk_drew ?_ | refine blk_alloc ?_ _)); refine blk_far ?_ NB192_202.out _; (with_reducible repeat (first | refine blk_drewN ?_ _ | refine blk_drew ?_ | refine blk_alloc ?_ _)); exact BK192.out) hb); have n4_ := Aside0.mk (blk_below (g := gb197) (o := .cells #[.int .u64 t193, .int .i64 t194] 24 (0, 0)) (by (with_reducible repeat (first | refine blk_drewN ?_ _ | refine blk_drew ?_ | refine blk_alloc ?_ _)); refine blk_far ?_ NB197_202.out _; (with_reducible repeat (first | refine blk_drewN ?_ _ | refine blk_drew ?_ | refine blk_alloc ?_ _)); refine blk_far ?_ NB197_202.out _; (with_reducible repeat (first | refine blk_drewN ?_ _ | refine blk_drew ?_ | refine blk_alloc ?_ _)); exact BK197.out) hb); have n5_ := Aside0.mk (blk_below (g := gb198) (o := .cells #[.int .u64 t195, .int .i64 t196] 24 (0, 0)) (by (with_reducible repeat (first | refine blk_drewN ?_ _ | refine blk_drew ?_ | refine blk_alloc ?_ _)); refine blk_far ?_ NB198_202.out _; (with_reducible repeat (first | refine blk_drewN ?_ _ | refine blk_drew ?_ | refine blk_alloc ?_ _)); refine blk_far ?_ NB198_202.out _; (with_reducible repeat (first | refine blk_drewN ?_ _ | refine blk_drew ?_ | refine blk_alloc ?_ _)); exact BK198.out) hb); have n6_ := Aside0.mk (blk_below (g := gb202) (o := .cells #[.int .u64 t199, .int .i64 t200] 24 (0, 0)) (by (with_reducible repeat (first | refine blk_drewN ?_ _ | refine blk_drew ?_ | refine blk_alloc ?_ _)); refine blk_put (cs := #[.int .u64 t199, .int .i64 0]) ?_ 1 _ rfl; (with_reducible repeat (first | refine blk_drewN ?_ _ | refine blk_drew ?_ | refine blk_alloc ?_ _)); refine blk_put (cs := #[.int .u64 0, .int .i64 0]) ?_ 0 _ rfl; (with_reducible repeat (first | refine blk_drewN ?_ _ | refine blk_drew ?_ | refine blk_alloc ?_ _)); exact BK202.out) hb); have n7_ := Aside0.mk (below_step (by repeat (first | (with_reducible first | exact HB.out | apply below_alloc | apply pw_below_drewN | apply below_drew1 | refine below_set ?_ GE183.out | refine below_set ?_ GE184.out | refine below_set ?_ GE188.out | refine below_set ?_ GE192.out | refine below_set ?_ GE197.out | refine below_set ?_ GE198.out | refine below_set ?_ GE202.out) | exact HB.out)) hb); clear BK183; clear BK184; clear BK188; clear BK192; clear BK197; clear BK198; clear BK202; clear HB; have BK183 := n0_; have BK184 := n1_; have BK188 := n2_; have BK192 := n3_; have BK197 := n4_; have BK198 := n5_; have BK202 := n6_; have HB := n7_; clear n0_ n1_ n2_ n3_ n4_ n5_ n6_ n7_; (try clear hb); (try clear hb2); (try clear hk); (try clear hi)) | ((with_reducible refine gate_dst (N := 13) rfl ?_); refine box_event ?hg (N := 13) ?hd (cs := #[.int .u64 0, .int .i64 0]) (t := 24) ?hr ?_; (case hd => rfl); (case hg => rfl); (case hr => first | (go_simp; done) | (go_simp; rfl)); intro gb206 hg w66 hbox hb; have n0_ := Aside0.mk (blk_below (g := gb183) (o := .cells #[.int .u64 a0_0, .int .i64 a0_1] 24 (0, 0)) (by (with_reducible repeat (first | refine blk_drewN ?_ _ | refine blk_drew ?_ | refine blk_alloc ?_ _)); exact BK183.out) hb); have n1_ := Aside0.mk (blk_below (g := gb184) (o := .cells #[.int .u64 a1_0, .int .i64 a1_1] 24 (0, 0)) (by (with_reducible repeat (first | refine blk_drewN ?_ _ | refine blk_drew ?_ | refine blk_alloc ?_ _)); exact BK184.out) hb); have n2_ := Aside0.mk (blk_below (g := gb188) (o := .cells #[.int .u64 t185, .int .i64 t186] 24 (0, 0)) (by (with_reducible repeat (first | refine blk_drewN ?_ _ | refine blk_drew ?_ | refine blk_alloc ?_ _)); exact BK188.out) hb); have n3_ := Aside0.mk (blk_below (g := gb192) (o := .cells #[.int .u64 t189, .int .i64 t190] 24 (0, 0)) (by (with_reducible repeat (first | refine blk_drewN ?_ _ | refine blk_drew ?_ | refine blk_alloc ?_ _)); exact BK192.out) hb); have n4_ := Aside0.mk (blk_below (g := gb197) (o := .cells #[.int .u64 t193, .int .i64 t194] 24 (0, 0)) (by (with_reducible repeat (first | refine blk_drewN ?_ _ | refine blk_drew ?_ | refine blk_alloc ?_ _)); exact BK197.out) hb); have n5_ := Aside0.mk (blk_below (g := gb198) (o := .cells #[.int .u64 t195, .int .i64 t196] 24 (0, 0)) (by (with_reducible repeat (first | refine blk_drewN ?_ _ | refine blk_drew ?_ | refine blk_alloc ?_ _)); exact BK198.out) hb); have n6_ := Aside0.mk (blk_below (g := gb202) (o := .cells #[.int .u64 t199, .int .i64 t200] 24 (0, 0)) (by (with_reducible repeat (first | refine blk_drewN ?_ _ | refine blk_drew ?_ | refine blk_alloc ?_ _)); exact BK202.out) hb); have n7_ := Aside0.mk (below_step (by repeat (first | (with_reducible first | exact HB.out | apply below_alloc | apply pw_below_drewN | apply below_drew1 | refine below_set ?_ GE183.out | refine below_set ?_ GE184.out | refine below_set ?_ GE188.out | refine below_set ?_ GE192.out | refine below_set ?_ GE197.out | refine below_set ?_ GE198.out | refine below_set ?_ GE202.out) | exact HB.out)) hb); have n8_ := Aside0.mk (hbox); have n9_ := Aside0.mk ((by rw [hg]; exact (below_size (by repeat (first | (with_reducible first | exact HB.out | apply below_alloc | apply pw_below_drewN | apply below_drew1 | refine below_set ?_ GE183.out | refine below_set ?_ GE184.out | refine below_set ?_ GE188.out | refine below_set ?_ GE192.out | refine below_set ?_ GE197.out | refine below_set ?_ GE198.out | refine below_set ?_ GE202.out) | exact HB.out))) : w.heap.size ≤ gb206)); have n10_ := Aside0.mk ((by rw [hg]; exact (below_size (by repeat (first | (with_reducible first | exact HB.out | apply below_alloc | apply pw_below_drewN | apply below_drew1 | refine below_set ?_ GE183.out | refine below_set ?_ GE184.out | refine below_set ?_ GE188.out | refine below_set ?_ GE192.out | refine below_set ?_ GE197.out | refine below_set ?_ GE198.out | refine below_set ?_ GE202.out) | exact HB.out))) : w.heap.size ≤ gb206)); have n11_ := Aside0.mk ((by rw [hg]; exact Nat.ne_of_lt (blk_lt (g := gb183) (o := .cells #[.int .u64 a0_0, .int .i64 a0_1] 24 (0, 0)) (by (with_reducible repeat (first | refine blk_drewN ?_ _ | refine blk_drew ?_ | refine blk_alloc ?_ _)); exact BK183.out)) : gb183 ≠ gb206)); have n12_ := Aside0.mk ((by rw [hg]; exact Nat.ne_of_gt (blk_lt (g := gb183) (o := .cells #[.int .u64 a0_0, .int .i64 a0_1] 24 (0, 0)) (by (with_reducible repeat (first | refine blk_drewN ?_ _ | refine blk_drew ?_ | refine blk_alloc ?_ _)); exact BK183.out)) : gb206 ≠ gb183)); have n13_ := Aside0.mk ((by rw [hg]; exact Nat.ne_of_lt (blk_lt (g := gb184) (o := .cells #[.int .u64 a1_0, .int .i64 a1_1] 24 (0, 0)) (by (with_reducible repeat (first | refine blk_drewN ?_ _ | refine blk_drew ?_ | refine blk_alloc ?_ _)); exact BK184.out)) : gb184 ≠ gb206)); have n14_ := Aside0.mk ((by rw [hg]; exact Nat.ne_of_gt (blk_lt (g := gb184) (o := .cells #[.int .u64 a1_0, .int .i64 a1_1] 24 (0, 0)) (by (with_reducible repeat (first | refine blk_drewN ?_ _ | refine blk_drew ?_ | refine blk_alloc ?_ _)); exact BK184.out)) : gb206 ≠ gb184)); have n15_ := Aside0.mk ((by rw [hg]; exact Nat.ne_of_lt (blk_lt (g := gb188) (o := .cells #[.int .u64 t185, .int .i64 t186] 24 (0, 0)) (by (with_reducible repeat (first | refine blk_drewN ?_ _ | refine blk_drew ?_ | refine blk_alloc ?_ _)); exact BK188.out)) : gb188 ≠ gb206)); have n16_ := Aside0.mk ((by rw [hg]; exact Nat.ne_of_gt (blk_lt (g := gb188) (o := .cells #[.int .u64 t185, .int .i64 t186] 24 (0, 0)) (by (with_reducible repeat (first | refine blk_drewN ?_ _ | refine blk_drew ?_ | refine blk_alloc ?_ _)); exact BK188.out)) : gb206 ≠ gb188)); have n17_ := Aside0.mk ((by rw [hg]; exact Nat.ne_of_lt (blk_lt (g := gb192) (o := .cells #[.int .u64 t189, .int .i64 t190] 24 (0, 0)) (by (with_reducible repeat (first | refine blk_drewN ?_ _ | refine blk_drew ?_ | refine blk_alloc ?_ _)); exact BK192.out)) : gb192 ≠ gb206)); have n18_ := Aside0.mk ((by rw [hg]; exact Nat.ne_of_gt (blk_lt (g := gb192) (o := .cells #[.int .u64 t189, .int .i64 t190] 24 (0, 0)) (by (with_reducible repeat (first | refine blk_drewN ?_ _ | refine blk_drew ?_ | refine blk_alloc ?_ _)); exact BK192.out)) : gb206 ≠ gb192)); have n19_ := Aside0.mk ((by rw [hg]; exact Nat.ne_of_lt (blk_lt (g := gb197) (o := .cells #[.int .u64 t193, .int .i64 t194] 24 (0, 0)) (by (with_reducible repeat (first | refine blk_drewN ?_ _ | refine blk_drew ?_ | refine blk_alloc ?_ _)); exact BK197.out)) : gb197 ≠ gb206)); have n20_ := Aside0.mk ((by rw [hg]; exact Nat.ne_of_gt (blk_lt (g := gb197) (o := .cells #[.int .u64 t193, .int .i64 t194] 24 (0, 0)) (by (with_reducible repeat (first | refine blk_drewN ?_ _ | refine blk_drew ?_ | refine blk_alloc ?_ _)); exact BK197.out)) : gb206 ≠ gb197)); have n21_ := Aside0.mk ((by rw [hg]; exact Nat.ne_of_lt (blk_lt (g := gb198) (o := .cells #[.int .u64 t195, .int .i64 t196] 24 (0, 0)) (by (with_reducible repeat (first | refine blk_drewN ?_ _ | refine blk_drew ?_ | refine blk_alloc ?_ _)); exact BK198.out)) : gb198 ≠ gb206)); have n22_ := Aside0.mk ((by rw [hg]; exact Nat.ne_of_gt (blk_lt (g := gb198) (o := .cells #[.int .u64 t195, .int .i64 t196] 24 (0, 0)) (by (with_reducible repeat (first | refine blk_drewN ?_ _ | refine blk_drew ?_ | refine blk_alloc ?_ _)); exact BK198.out)) : gb206 ≠ gb198)); have n23_ := Aside0.mk ((by rw [hg]; exact Nat.ne_of_lt (blk_lt (g := gb202) (o := .cells #[.int .u64 t199, .int .i64 t200] 24 (0, 0)) (by (with_reducible repeat (first | refine blk_drewN ?_ _ | refine blk_drew ?_ | refine blk_alloc ?_ _)); exact BK202.out)) : gb202 ≠ gb206)); have n24_ := Aside0.mk ((by rw [hg]; exact Nat.ne_of_gt (blk_lt (g := gb202) (o := .cells #[.int .u64 t199, .int .i64 t200] 24 (0, 0)) (by (with_reducible repeat (first | refine blk_drewN ?_ _ | refine blk_drew ?_ | refine blk_alloc ?_ _)); exact BK202.out)) : gb206 ≠ gb202)); clear BK183; clear BK184; clear BK188; clear BK192; clear BK197; clear BK198; clear BK202; clear HB; have BK183 := n0_; have BK184 := n1_; have BK188 := n2_; have BK192 := n3_; have BK197 := n4_; have BK198 := n5_; have BK202 := n6_; have HB := n7_; have BK206 := n8_; have GW206 := n9_; have GE206 := n10_; have NB183_206 := n11_; have NB206_183 := n12_; have NB184_206 := n13_; have NB206_184 := n14_; have NB188_206 := n15_; have NB206_188 := n16_; have NB192_206 := n17_; have NB206_192 := n18_; have NB197_206 := n19_; have NB206_197 := n20_; have NB198_206 := n21_; have NB206_198 := n22_; have NB202_206 := n23_; have NB206_202 := n24_; clear n0_ n1_ n2_ n3_ n4_ n5_ n6_ n7_ n8_ n9_ n10_ n11_ n12_ n13_ n14_ n15_ n16_ n17_ n18_ n19_ n20_ n21_ n22_ n23_ n24_; clear hb hbox hg; have hnb67 := NB206_183.out; have hnc67 := NB183_206.out; have hnb68 := NB206_184.out; have hnc68 := NB184_206.out; have hnb69 := NB206_188.out; have hnc69 := NB188_206.out; have hnb70 := NB206_192.out; have hnc70 := NB192_206.out; have hnb71 := NB206_197.out; have hnc71 := NB197_206.out; have hnb72 := NB206_198.out; have hnc72 := NB198_206.out; have hnb73 := NB206_202.out; have hnc73 := NB202_206.out; have hcz74_0 : w66.cell? ⟨gb206, 0, none⟩ = some (.int .u64 0) := (blk_cell BK206.out 0).trans rfl; have hcz74_1 : w66.cell? ⟨gb206, 1, none⟩ = some (.int .i64 0) := (blk_cell BK206.out 1).trans rfl; have hfz74_0 := blk_frozen BK206.out 0; have hfz74_1 := blk_frozen BK206.out 1) | ((with_reducible refine gate_callee (f := 18) rfl ?_); refine goesL_ (some 49) rfl rfl Try.func18 (by kernel_rfl) rfl #[] rfl (by (try simp only [List.map_toArray, List.map_cons, List.map_nil]); first | done | rfl | (simp only [List.length_drop, List.length_take]; rfl)) ?_; (with_reducible refine (stockyardlaw22_known.calls k  true _ A9.out).mono ?_); rintro e w75 ⟨rfl, hb⟩; refine ⟨_, rfl, ?_⟩; have n0_ := Aside0.mk (blk_below (g := gb183) (o := .cells #[.int .u64 a0_0, .int .i64 a0_1] 24 (0, 0)) (by (with_reducible repeat (first | refine blk_drewN ?_ _ | refine blk_drew ?_ | refine blk_alloc ?_ _)); refine blk_far ?_ NB183_206.out _; (with_reducible repeat (first | refine blk_drewN ?_ _ | refine blk_drew ?_ | refine blk_alloc ?_ _)); refine blk_far ?_ NB183_206.out _; (with_reducible repeat (first | refine blk_drewN ?_ _ | refine blk_drew ?_ | refine blk_alloc ?_ _)); exact BK183.out) hb); have n1_ := Aside0.mk (blk_below (g := gb184) (o := .cells #[.int .u64 a1_0, .int .i64 a1_1] 24 (0, 0)) (by (with_reducible repeat (first | refine blk_drewN ?_ _ | refine blk_drew ?_ | refine blk_alloc ?_ _)); refine blk_far ?_ NB184_206.out _; (with_reducible repeat (first | refine blk_drewN ?_ _ | refine blk_drew ?_ | refine blk_alloc ?_ _)); refine blk_far ?_ NB184_206.out _; (with_reducible repeat (first | refine blk_drewN ?_ _ | refine blk_drew ?_ | refine blk_alloc ?_ _)); exact BK184.out) hb); have n2_ := Aside0.mk (blk_below (g := gb188) (o := .cells #[.int .u64 t185, .int .i64 t186] 24 (0, 0)) (by (with_reducible repeat (first | refine blk_drewN ?_ _ | refine blk_drew ?_ | refine blk_alloc ?_ _)); refine blk_far ?_ NB188_206.out _; (with_reducible repeat (first | refine blk_drewN ?_ _ | refine blk_drew ?_ | refine blk_alloc ?_ _)); refine blk_far ?_ NB188_206.out _; (with_reducible repeat (first | refine blk_drewN ?_ _ | refine blk_drew ?_ | refine blk_alloc ?_ _)); exact BK188.out) hb); have n3_ := Aside0.mk (blk_below (g := gb192) (o := .cells #[.int .u64 t189, .int .i64 t190] 24 (0, 0)) (by (with_reducible repeat (first | refine blk_drewN ?_ _ | refine blk_drew ?_ | refine blk_alloc ?_ _)); refine blk_far ?_ NB192_206.out _; (with_reducible repeat (first | refine blk_drewN ?_ _ | refine blk_drew ?_ | refine blk_alloc ?_ _)); refine blk_far ?_ NB192_206.out _; (with_reducible repeat (first | refine blk_drewN ?_ _ | refine blk_drew ?_ | refine blk_alloc ?_ _)); exact BK192.out) hb); have n4_ := Aside0.mk (blk_below (g := gb197) (o := .cells #[.int .u64 t193, .int .i64 t194] 24 (0, 0)) (by (with_reducible repeat (first | refine blk_drewN ?_ _ | refine blk_drew ?_ | refine blk_alloc ?_ _)); refine blk_far ?_ NB197_206.out _; (with_reducible repeat (first | refine blk_drewN ?_ _ | refine blk_drew ?_ | refine blk_alloc ?_ _)); refine blk_far ?_ NB197_206.out _; (with_reducible repeat (first | refine blk_drewN ?_ _ | refine blk_drew ?_ | refine blk_alloc ?_ _)); exact BK197.out) hb); have n5_ := Aside0.mk (blk_below (g := gb198) (o := .cells #[.int .u64 t195, .int .i64 t196] 24 (0, 0)) (by (with_reducible repeat (first | refine blk_drewN ?_ _ | refine blk_drew ?_ | refine blk_alloc ?_ _)); refine blk_far ?_ NB198_206.out _; (with_reducible repeat (first | refine blk_drewN ?_ _ | refine blk_drew ?_ | refine blk_alloc ?_ _)); refine blk_far ?_ NB198_206.out _; (with_reducible repeat (first | refine blk_drewN ?_ _ | refine blk_drew ?_ | refine blk_alloc ?_ _)); exact BK198.out) hb); have n6_ := Aside0.mk (blk_below (g := gb202) (o := .cells #[.int .u64 t199, .int .i64 t200] 24 (0, 0)) (by (with_reducible repeat (first | refine blk_drewN ?_ _ | refine blk_drew ?_ | refine blk_alloc ?_ _)); refine blk_far ?_ NB202_206.out _; (with_reducible repeat (first | refine blk_drewN ?_ _ | refine blk_drew ?_ | refine blk_alloc ?_ _)); refine blk_far ?_ NB202_206.out _; (with_reducible repeat (first | refine blk_drewN ?_ _ | refine blk_drew ?_ | refine blk_alloc ?_ _)); exact BK202.out) hb); have n7_ := Aside0.mk (blk_below (g := gb206) (o := .cells #[.int .u64 t203, .int .i64 t204] 24 (0, 0)) (by (with_reducible repeat (first | refine blk_drewN ?_ _ | refine blk_drew ?_ | refine blk_alloc ?_ _)); refine blk_put (cs := #[.int .u64 t203, .int .i64 0]) ?_ 1 _ rfl; (with_reducible repeat (first | refine blk_drewN ?_ _ | refine blk_drew ?_ | refine blk_alloc ?_ _)); refine blk_put (cs := #[.int .u64 0, .int .i64 0]) ?_ 0 _ rfl; (with_reducible repeat (first | refine blk_drewN ?_ _ | refine blk_drew ?_ | refine blk_alloc ?_ _)); exact BK206.out) hb); have n8_ := Aside0.mk (below_step (by repeat (first | (with_reducible first | exact HB.out | apply below_alloc | apply pw_below_drewN | apply below_drew1 | refine below_set ?_ GE183.out | refine below_set ?_ GE184.out | refine below_set ?_ GE188.out | refine below_set ?_ GE192.out | refine below_set ?_ GE197.out | refine below_set ?_ GE198.out | refine below_set ?_ GE202.out | refine below_set ?_ GE206.out) | exact HB.out)) hb); clear BK183; clear BK184; clear BK188; clear BK192; clear BK197; clear BK198; clear BK202; clear BK206; clear HB; have BK183 := n0_; have BK184 := n1_; have BK188 := n2_; have BK192 := n3_; have BK197 := n4_; have BK198 := n5_; have BK202 := n6_; have BK206 := n7_; have HB := n8_; clear n0_ n1_ n2_ n3_ n4_ n5_ n6_ n7_ n8_; (try clear hb); (try clear hb2); (try clear hk); (try clear hi); have hcz76_0 : w75.cell? ⟨gb188, 0, none⟩ = some (.int .u64 t185) := (blk_cell BK188.out 0).trans rfl; have hcz76_1 : w75.cell? ⟨gb188, 1, none⟩ = some (.int .i64 t186) := (blk_cell BK188.out 1).trans rfl; have hfz76_0 := blk_frozen BK188.out 0; have hfz76_1 := blk_frozen BK188.out 1; have hcz77_0 : w75.cell? ⟨gb192, 0, none⟩ = some (.int .u64 t189) := (blk_cell BK192.out 0).trans rfl; have hcz77_1 : w75.cell? ⟨gb192, 1, none⟩ = some (.int .i64 t190) := (blk_cell BK192.out 1).trans rfl; have hfz77_0 := blk_frozen BK192.out 0; have hfz77_1 := blk_frozen BK192.out 1; have hcz78_0 : w75.cell? ⟨gb202, 0, none⟩ = some (.int .u64 t199) := (blk_cell BK202.out 0).trans rfl; have hcz78_1 : w75.cell? ⟨gb202, 1, none⟩ = some (.int .i64 t200) := (blk_cell BK202.out 1).trans rfl; have hfz78_0 := blk_frozen BK202.out 0; have hfz78_1 := blk_frozen BK202.out 1; have hcz79_0 : w75.cell? ⟨gb206, 0, none⟩ = some (.int .u64 t203) := (blk_cell BK206.out 0).trans rfl; have hcz79_1 : w75.cell? ⟨gb206, 1, none⟩ = some (.int .i64 t204) := (blk_cell BK206.out 1).trans rfl; have hfz79_0 := blk_frozen BK206.out 0; have hfz79_1 := blk_frozen BK206.out 1))
          go_ret
          exact ⟨by first | rfl | (simp [errW_none, errW_some] <;> rfl) | (simp [*, errW_none, errW_some] <;> rfl), by repeat (first | (with_reducible first | exact HB.out | apply below_alloc | apply pw_below_drewN | apply below_drew1 | refine below_set ?_ GE183.out | refine below_set ?_ GE184.out | refine below_set ?_ GE188.out | refine below_set ?_ GE192.out | refine below_set ?_ GE197.out | refine below_set ?_ GE198.out | refine below_set ?_ GE202.out | refine below_set ?_ GE206.out) | exact HB.out)⟩
        · rw [if_neg c13] at H
          have c13b0 : (t199 == t203 && (t200 == t204)) = false := by simpa using c13
          (try (have c13b1 : decide (t199 = t203 && (t200 == t204)) = false := by simpa using c13))
          (try (have c13b2 : (t199 == t203 && (t200 == t204)) = false := by simpa using c13))
          (try (have c13b3 : ¬ (t199 = t203 && (t200 == t204)) := by simpa using c13))
          clear c13
          exact absurd ((Option.some.inj H).trans HRT.out) (by decide)
      · rw [if_neg c12] at H
        have c12b0 : (t187 == t191) = false := beq_eq_false_iff_ne.mpr c12
        have c12b1 : (t187 != t191) = true := bne_iff_ne.mpr c12
        exact absurd ((Option.some.inj H).trans HRT.out) (by decide)
    · rw [if_neg c11] at H
      have c11b0 : (t185 == t189 && (t186 == t190)) = false := by simpa using c11
      (try (have c11b1 : decide (t185 = t189 && (t186 == t190)) = false := by simpa using c11))
      (try (have c11b2 : (t185 == t189 && (t186 == t190)) = false := by simpa using c11))
      (try (have c11b3 : ¬ (t185 = t189 && (t186 == t190)) := by simpa using c11))
      clear c11
      exact absurd ((Option.some.inj H).trans HRT.out) (by decide)
  · replace c10 := Bool.eq_false_iff.mpr c10
    subst c10
    have H1 : (some false) = some r := by rw [if_neg (show ¬ (false = true) by decide)] at H; exact H
    clear H
    have H := H1
    clear H1
    exact absurd ((Option.some.inj H).trans HRT.out) (by decide)

end Go.Proofs.Ytbjadpeolkpmcaa.P
