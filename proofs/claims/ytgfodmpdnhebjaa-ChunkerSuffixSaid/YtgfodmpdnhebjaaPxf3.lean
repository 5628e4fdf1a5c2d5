-- Printed by a program (pr.py over the kit's print) out of the translation.
import Derived.Test.YtgfodmpdnhebjaaPx0
import Derived.Test.YtgfodmpdnhebjaaPxf16
import Derived.Test.YtgfodmpdnhebjaaPxf18
import Derived.Test.YtgfodmpdnhebjaaPxf35
namespace Go.Proofs.Ytgfodmpdnhebjaa.P
open Go.RowKit Go.Proofs.YtgfodmpdnhebjaaW.PrintWords Go.Proofs.YtgfodmpdnhebjaaW.PrintLast Go.Proofs.YtgfodmpdnhebjaaW.PrintMore
attribute [local go_sem] max2_int min2_int max_two min_two max_three min_three max_four min_four   -- for this text's walks alone
set_option linter.unusedVariables false
set_option linter.unusedSimpArgs false

/-! ### stockyardlaw24_ChunkerSuffix: function 3 -/
mutual
def stockyardlaw24_ChunkerSuffix.j0 : Nat → Int → List Int → List Int → Bool → Int → Int → Int → Int → Option (Bool)
  | 0, _, _, _, _, _, _, _, _ => none
  | k + 1, x1, x7, x8, x32, x180000, x180001, x180002, x180003 => if x32 = true then (some false) else (if (x8.length : Int) = 0 then (some true) else ((stockyardmake_Fold.f x1 (x8.length : Int)).bind fun t189 => (if 0 ≤ t189 then (if t189 < (x8.length : Int) then (if (rd x8 t189) < 0 then (stockyardlaw24_ChunkerSuffix.j1 k x7 x8 t189 true x180000 x180001 x180002 x180003) else (stockyardlaw24_ChunkerSuffix.j1 k x7 x8 t189 (decide ((rd x8 t189) > (x7.length : Int))) x180000 x180001 x180002 x180003)) else (none)) else (none))))
def stockyardlaw24_ChunkerSuffix.j1 : Nat → List Int → List Int → Int → Bool → Int → Int → Int → Int → Option (Bool)
  | 0, _, _, _, _, _, _, _, _ => none
  | k + 1, x7, x8, x10, x53, x180000, x180001, x180002, x180003 => if x53 = true then (some false) else (if 0 ≤ x10 then (if x10 < (x8.length : Int) then (if 0 ≤ (rd x8 x10) then (if (rd x8 x10) ≤ (x7.length : Int) then ((stockyardlaw24_ends.f x180000 x180001 x180002 x180003 (x7.drop ((rd x8 x10) : Int).toNat)).bind fun bt197 => (if bt197.2 = true then (stockyardlaw24_ChunkerSuffix.j2 k x8 x10 bt197.1 ((bt197.1.length : Int) != (wrap64 ((wrap64 ((x8.length : Int) - x10)) - 1)))) else (stockyardlaw24_ChunkerSuffix.j2 k x8 x10 bt197.1 true))) else (none)) else (none)) else (none)) else (none))
def stockyardlaw24_ChunkerSuffix.j2 : Nat → List Int → Int → List Int → Bool → Option (Bool)
  | 0, _, _, _, _ => none
  | k + 1, x8, x10, x11, x76 => if x76 = true then (some false) else (stockyardlaw24_ChunkerSuffix.l0 k x8 x10 x11 0)
def stockyardlaw24_ChunkerSuffix.l0 : Nat → List Int → Int → List Int → Int → Option (Bool)
  | 0, _, _, _, _ => none
  | k + 1, x8, x10, x11, x13 => if x13 < (x11.length : Int) then (if 0 ≤ x13 then (if 0 ≤ x10 then (if x10 < (x8.length : Int) then (if 0 ≤ (wrap64 ((wrap64 (x10 + 1)) + x13)) then (if (wrap64 ((wrap64 (x10 + 1)) + x13)) < (x8.length : Int) then (if (wrap64 ((rd x11 x13) + (rd x8 x10))) = (rd x8 (wrap64 ((wrap64 (x10 + 1)) + x13))) then (stockyardlaw24_ChunkerSuffix.l0 k x8 x10 x11 (wrap64 (x13 + 1))) else (some false)) else (none)) else (none)) else (none)) else (none)) else (none)) else (some true)
end
def stockyardlaw24_ChunkerSuffix.f (k : Nat) (l0 : List Int) (a1 : Int) : Option (Bool) := (stockyardlaw24_made.f l0 0).bind fun bt174 => ((stockyardlaw24_text.f k l0 bt174.2.2.2.2 120).bind fun bt180 => ((stockyardlaw24_ends.f bt174.1 bt174.2.1 bt174.2.2.1 bt174.2.2.2.1 bt180.1).bind fun bt184 => ((stockyardlaw24_known.f k).bind fun t188 => (if t188 = true then (stockyardlaw24_ChunkerSuffix.j0 k a1 bt180.1 bt184.1 (!bt184.2) bt174.1 bt174.2.1 bt174.2.2.1 bt174.2.2.2.1) else (stockyardlaw24_ChunkerSuffix.j0 k a1 bt180.1 bt184.1 true bt174.1 bt174.2.1 bt174.2.2.1 bt174.2.2.2.1)))))
theorem stockyardlaw24_ChunkerSuffix.mono_l : ∀ k, (∀ y0 y1 y2 y3 y4 y5 y6 y7, LeO (stockyardlaw24_ChunkerSuffix.j0 k y0 y1 y2 y3 y4 y5 y6 y7) (stockyardlaw24_ChunkerSuffix.j0 (k + 1) y0 y1 y2 y3 y4 y5 y6 y7)) ∧ (∀ y0 y1 y2 y3 y4 y5 y6 y7, LeO (stockyardlaw24_ChunkerSuffix.j1 k y0 y1 y2 y3 y4 y5 y6 y7) (stockyardlaw24_ChunkerSuffix.j1 (k + 1) y0 y1 y2 y3 y4 y5 y6 y7)) ∧ (∀ y0 y1 y2 y3, LeO (stockyardlaw24_ChunkerSuffix.j2 k y0 y1 y2 y3) (stockyardlaw24_ChunkerSuffix.j2 (k + 1) y0 y1 y2 y3)) ∧ (∀ y0 y1 y2 y3, LeO (stockyardlaw24_ChunkerSuffix.l0 k y0 y1 y2 y3) (stockyardlaw24_ChunkerSuffix.l0 (k + 1) y0 y1 y2 y3))
  | 0 => ⟨fun _ _ _ _ _ _ _ _ r h => by simp [stockyardlaw24_ChunkerSuffix.j0] at h, fun _ _ _ _ _ _ _ _ r h => by simp [stockyardlaw24_ChunkerSuffix.j1] at h, fun _ _ _ _ r h => by simp [stockyardlaw24_ChunkerSuffix.j2] at h, fun _ _ _ _ r h => by simp [stockyardlaw24_ChunkerSuffix.l0] at h⟩
  | k + 1 => by
    obtain ⟨ih0, ih1, ih2, ih3⟩ := stockyardlaw24_ChunkerSuffix.mono_l k
    refine ⟨?_, ?_, ?_, ?_⟩
    · intro y0 y1 y2 y3 y4 y5 y6 y7
      unfold stockyardlaw24_ChunkerSuffix.j0
      repeat' first
      | (with_reducible exact ih0 _ _ _ _ _ _ _ _)
      | (with_reducible exact ih1 _ _ _ _ _ _ _ _)
      | (with_reducible exact ih2 _ _ _ _)
      | (with_reducible exact ih3 _ _ _ _)
      | (with_reducible exact stockyardlaw24_known.mono _)
      | (with_reducible exact stockyardlaw24_text.mono _ _ _ _)
      | (with_reducible exact LeO.refl _)
      | (with_reducible exact LeO.none _)
      | (with_reducible refine LeO.ite ?_ ?_)
      | (with_reducible refine LeO.bind ?_ (fun _ => ?_))
      | exact ih0 _ _ _ _ _ _ _ _
      | exact ih1 _ _ _ _ _ _ _ _
      | exact ih2 _ _ _ _
      | exact ih3 _ _ _ _
      | exact stockyardlaw24_known.mono _
      | exact stockyardlaw24_text.mono _ _ _ _
      | exact LeO.none _
      | refine LeO.ite ?_ ?_
      | refine LeO.bind ?_ (fun _ => ?_)
    · intro y0 y1 y2 y3 y4 y5 y6 y7
      unfold stockyardlaw24_ChunkerSuffix.j1
      repeat' first
      | (with_reducible exact ih0 _ _ _ _ _ _ _ _)
      | (with_reducible exact ih1 _ _ _ _ _ _ _ _)
      | (with_reducible exact ih2 _ _ _ _)
      | (with_reducible exact ih3 _ _ _ _)
      | (with_reducible exact stockyardlaw24_known.mono _)
      | (with_reducible exact stockyardlaw24_text.mono _ _ _ _)
      | (with_reducible exact LeO.refl _)
      | (with_reducible exact LeO.none _)
      | (with_reducible refine LeO.ite ?_ ?_)
      | (with_reducible refine LeO.bind ?_ (fun _ => ?_))
      | exact ih0 _ _ _ _ _ _ _ _
      | exact ih1 _ _ _ _ _ _ _ _
      | exact ih2 _ _ _ _
      | exact ih3 _ _ _ _
      | exact stockyardlaw24_known.mono _
      | exact stockyardlaw24_text.mono _ _ _ _
      | exact LeO.none _
      | refine LeO.ite ?_ ?_
      | refine LeO.bind ?_ (fun _ => ?_)
    · intro y0 y1 y2 y3
      unfold stockyardlaw24_ChunkerSuffix.j2
      repeat' first
      | (with_reducible exact ih0 _ _ _ _ _ _ _ _)
      | (with_reducible exact ih1 _ _ _ _ _ _ _ _)
      | (with_reducible exact ih2 _ _ _ _)
      | (with_reducible exact ih3 _ _ _ _)
      | (with_reducible exact stockyardlaw24_known.mono _)
      | (with_reducible exact stockyardlaw24_text.mono _ _ _ _)
      | (with_reducible exact LeO.refl _)
      | (with_reducible exact LeO.none _)
      | (with_reducible refine LeO.ite ?_ ?_)
      | (with_reducible refine LeO.bind ?_ (fun _ => ?_))
      | exact ih0 _ _ _ _ _ _ _ _
      | exact ih1 _ _ _ _ _ _ _ _
      | exact ih2 _ _ _ _
      | exact ih3 _ _ _ _
      | exact stockyardlaw24_known.mono _
      | exact stockyardlaw24_text.mono _ _ _ _
      | exact LeO.none _
      | refine LeO.ite ?_ ?_
      | refine LeO.bind ?_ (fun _ => ?_)
    · intro y0 y1 y2 y3
      unfold stockyardlaw24_ChunkerSuffix.l0
      repeat' first
      | (with_reducible exact ih0 _ _ _ _ _ _ _ _)
      | (with_reducible exact ih1 _ _ _ _ _ _ _ _)
      | (with_reducible exact ih2 _ _ _ _)
      | (with_reducible exact ih3 _ _ _ _)
      | (with_reducible exact stockyardlaw24_known.mono _)
      | (with_reducible exact stockyardlaw24_text.mono _ _ _ _)
      | (with_reducible exact LeO.refl _)
      | (with_reducible exact LeO.none _)
      | (with_reducible refine LeO.ite ?_ ?_)
      | (with_reducible refine LeO.bind ?_ (fun _ => ?_))
      | exact ih0 _ _ _ _ _ _ _ _
      | exact ih1 _ _ _ _ _ _ _ _
      | exact ih2 _ _ _ _
      | exact ih3 _ _ _ _
      | exact stockyardlaw24_known.mono _
      | exact stockyardlaw24_text.mono _ _ _ _
      | exact LeO.none _
      | refine LeO.ite ?_ ?_
      | refine LeO.bind ?_ (fun _ => ?_)
theorem stockyardlaw24_ChunkerSuffix.mono : ∀ a0 a1 k, LeO (stockyardlaw24_ChunkerSuffix.f k a0 a1) (stockyardlaw24_ChunkerSuffix.f (k + 1) a0 a1) := by
  intro a0 a1 k
  obtain ⟨ih0, ih1, ih2, ih3⟩ := stockyardlaw24_ChunkerSuffix.mono_l k
  unfold stockyardlaw24_ChunkerSuffix.f
  repeat' first
      | (with_reducible exact ih0 _ _ _ _ _ _ _ _)
      | (with_reducible exact ih1 _ _ _ _ _ _ _ _)
      | (with_reducible exact ih2 _ _ _ _)
      | (with_reducible exact ih3 _ _ _ _)
      | (with_reducible exact stockyardlaw24_known.mono _)
      | (with_reducible exact stockyardlaw24_text.mono _ _ _ _)
      | (with_reducible exact LeO.refl _)
      | (with_reducible exact LeO.none _)
      | (with_reducible refine LeO.ite ?_ ?_)
      | (with_reducible refine LeO.bind ?_ (fun _ => ?_))
      | exact ih0 _ _ _ _ _ _ _ _
      | exact ih1 _ _ _ _ _ _ _ _
      | exact ih2 _ _ _ _
      | exact ih3 _ _ _ _
      | exact stockyardlaw24_known.mono _
      | exact stockyardlaw24_text.mono _ _ _ _
      | exact LeO.none _
      | refine LeO.ite ?_ ?_
      | refine LeO.bind ?_ (fun _ => ?_)
def stockyardlaw24_ChunkerSuffix.T12 : Bool × List (List Nat × List Nat) := (true, [([], []), ([], []), ([], []), ([], []), ([2, 3], [2, 3]), ([4], [4]), ([1, 5], [1, 5]), ([0, 6], [0, 6]), ([7], [7]), ([8], [8]), ([8], [8]), ([9, 7, 0, 1, 2, 3, 4, 5, 6, 7, 8, 9], [9]), ([10, 11, 0, 1, 2, 3, 4, 5, 6, 7, 8, 9, 10, 11], [10])])
def stockyardlaw24_ChunkerSuffix.B12 : List Nat := [0, 0, 0, 0, 12, 28, 62, 127, 255, 511, 511, 1023, 4095]
theorem stockyardlaw24_ChunkerSuffix.tab12 : rtab .any (opsOf Try.f3 12) = stockyardlaw24_ChunkerSuffix.T12 := by kernel_rfl
theorem stockyardlaw24_ChunkerSuffix.bits12 : waitsOk stockyardlaw24_ChunkerSuffix.T12.2 stockyardlaw24_ChunkerSuffix.B12 = true := by kernel_rfl
def stockyardlaw24_ChunkerSuffix.T18 : Bool × List (List Nat × List Nat) := (true, [([], []), ([], []), ([0, 1], [0, 1]), ([2], [2]), ([], []), ([], []), ([4, 5], [4, 5]), ([6], [6]), ([3, 7], [3, 7]), ([], []), ([], []), ([10], [10]), ([], []), ([11, 12], [11, 12]), ([9, 13], [9, 13]), ([14], [14]), ([8, 15], [8, 15])])
def stockyardlaw24_ChunkerSuffix.B18 : List Nat := [0, 0, 3, 7, 0, 0, 48, 112, 255, 0, 0, 1024, 0, 7168, 15872, 32256, 65535]
theorem stockyardlaw24_ChunkerSuffix.tab18 : rtab .any (opsOf Try.f3 18) = stockyardlaw24_ChunkerSuffix.T18 := by kernel_rfl
theorem stockyardlaw24_ChunkerSuffix.bits18 : waitsOk stockyardlaw24_ChunkerSuffix.T18.2 stockyardlaw24_ChunkerSuffix.B18 = true := by kernel_rfl
set_option maxHeartbeats 8000000 in
set_option maxRecDepth 100000 in
theorem stockyardlaw24_ChunkerSuffix.calls (k : Nat) (A0 : Option Addr) (c0 : Nat) (l0 : List Int) (a1 : Int) (r : Bool) (w : World) (hr0 : Kd.C (Kd.int .i64) w A0 l0.length l0) (hc0 : l0.length ≤ c0) (h : stockyardlaw24_ChunkerSuffix.f k l0 a1 = some r) (hrt : r = true) :
    Calls Try.prog 3 #[.slice A0 l0.length c0, .int .i64 a1] w fun e w' => e = .returned (.bool r) ∧ Below w.heap.size w w' := by
  have HRT := Aside0.mk hrt
  clear hrt
  have hu25 := Try.underlying25
  have hu28 := Try.underlying28
  have HR0 := Aside0.mk hr0
  have HC0 := Aside0.mk hc0
  clear hr0 hc0
  have HB := Aside0.mk (Below.refl w.heap.size w)
  have H : ((stockyardlaw24_made.f l0 0).bind fun bt174 => ((stockyardlaw24_text.f k l0 bt174.2.2.2.2 120).bind fun bt180 => ((stockyardlaw24_ends.f bt174.1 bt174.2.1 bt174.2.2.1 bt174.2.2.2.1 bt180.1).bind fun bt184 => ((stockyardlaw24_known.f k).bind fun t188 => (if t188 = true then (stockyardlaw24_ChunkerSuffix.j0 k a1 bt180.1 bt184.1 (!bt184.2) bt174.1 bt174.2.1 bt174.2.2.1 bt174.2.2.2.1) else (stockyardlaw24_ChunkerSuffix.j0 k a1 bt180.1 bt184.1 true bt174.1 bt174.2.1 bt174.2.2.1 bt174.2.2.2.1)))))) = some r := h
  clear h
  replace H := Option.bind_eq_some_iff.mp H
  obtain ⟨⟨t174, t175, t176, t177, t178⟩, A30, H⟩ := H
  replace H : ((stockyardlaw24_text.f k l0 t178 120).bind fun bt180 => ((stockyardlaw24_ends.f t174 t175 t176 t177 bt180.1).bind fun bt184 => ((stockyardlaw24_known.f k).bind fun t188 => (if t188 = true then (stockyardlaw24_ChunkerSuffix.j0 k a1 bt180.1 bt184.1 (!bt184.2) t174 t175 t176 t177) else (stockyardlaw24_ChunkerSuffix.j0 k a1 bt180.1 bt184.1 true t174 t175 t176 t177))))) = some r := H
  have A3 := Aside0.mk A30
  clear A30
  replace H := Option.bind_eq_some_iff.mp H
  obtain ⟨⟨t180, t183⟩, A40, H⟩ := H
  replace H : ((stockyardlaw24_ends.f t174 t175 t176 t177 t180).bind fun bt184 => ((stockyardlaw24_known.f k).bind fun t188 => (if t188 = true then (stockyardlaw24_ChunkerSuffix.j0 k a1 t180 bt184.1 (!bt184.2) t174 t175 t176 t177) else (stockyardlaw24_ChunkerSuffix.j0 k a1 t180 bt184.1 true t174 t175 t176 t177)))) = some r := H
  have A4 := Aside0.mk A40
  clear A40
  replace H := Option.bind_eq_some_iff.mp H
  obtain ⟨⟨t184, t187⟩, A50, H⟩ := H
  replace H : ((stockyardlaw24_known.f k).bind fun t188 => (if t188 = true then (stockyardlaw24_ChunkerSuffix.j0 k a1 t180 t184 (!t187) t174 t175 t176 t177) else (stockyardlaw24_ChunkerSuffix.j0 k a1 t180 t184 true t174 t175 t176 t177))) = some r := H
  have A5 := Aside0.mk A50
  clear A50
  have HC6 := Aside0.mk H
  clear H
  go_enter Try.func3, Try.ntmps3
  go_upto_region 5 with (first | ((with_reducible refine gate_dst (N := 16) rfl ?_); (try (refine gate_guard (by rfl) ?_; dsimp only)); refine box_event ?hg (N := 16) ?hd (cs := #[.slice A0 l0.length c0, .int .i64 0]) (t := 25) ?hr ?_; (case hd => rfl); (case hg => rfl); (case hr => first | (go_simp; done) | (go_simp; rfl)); intro gb173 hg w7 hbox hb; have n0_ := Aside0.mk (below_step (by repeat (first | (with_reducible first | exact HB.out | apply below_alloc | apply pw_below_drewN | apply below_drew1) | exact HB.out)) hb); have n1_ := Aside0.mk ((by rw [hg]; exact (below_size (by repeat (first | (with_reducible first | exact HB.out | apply below_alloc | apply pw_below_drewN | apply below_drew1) | exact HB.out))) : w.heap.size ≤ gb173)); have n2_ := Aside0.mk ((by rw [hg]; exact (below_size (by repeat (first | (with_reducible first | exact HB.out | apply below_alloc | apply pw_below_drewN | apply below_drew1) | exact HB.out))) : w.heap.size ≤ gb173)); have n3_ := Aside0.mk ((show IsS25 w w7 gb173 l0 0 from ⟨_, _, hbox, (by rw [hg]; exact (below_size (by repeat (first | (with_reducible first | exact HB.out | apply below_alloc | apply pw_below_drewN | apply below_drew1) | exact HB.out))) : w.heap.size ≤ gb173), HR0.out⟩)); clear HB; have HB := n0_; have GW173 := n1_; have GE173 := n2_; have HI173 := n3_; clear n0_ n1_ n2_ n3_; clear hb hbox hg) | ((with_reducible refine gate_callee (f := 14) rfl ?_); refine goesL_ (some 18) rfl rfl Try.func14 (by kernel_rfl) rfl #[.pointer (some ⟨gb173, 0, none⟩)] rfl (by (try simp only [List.map_toArray, List.map_cons, List.map_nil]); first | done | rfl | (simp only [List.length_drop, List.length_take]; rfl)) ?_; (with_reducible refine (stockyardlaw24_made.calls gb173 l0 0 t174 t175 t176 t177 t178 w _ ?side1 ?side2 A3.out).mono ?_); (case side1 => repeat (first | (with_reducible first | exact HI173.out | apply IsS25.alloc | apply IsS25.drewN | apply IsS25.drew | apply IsS25.set_1) | exact HI173.out)); (case side2 => repeat (first | (with_reducible first | exact HB.out | apply below_alloc | apply pw_below_drewN | apply below_drew1 | refine below_set ?_ (IsS25.ge HI173.out)) | exact HB.out)); rintro e w8 ⟨rfl, hi, hb, hk⟩; refine ⟨_, rfl, ?_⟩; have n0_ := Aside0.mk (hb); have n1_ := Aside0.mk (hi); clear HB; clear HI173; have HB := n0_; have HI173 := n1_; clear n0_ n1_; (try clear hb); (try clear hb2); (try clear hk); (try clear hi)) | ((with_reducible refine gate_dst (N := 6) rfl ?_); (try (refine gate_guard (by rfl) ?_; dsimp only)); refine box_event ?hg (N := 6) ?hd (cs := #[.int .i64 0, .int .i64 0, .int .i64 0, .int .u64 0]) (t := 28) ?hr ?_; (case hd => rfl); (case hg => rfl); (case hr => first | (go_simp; done) | (go_simp; rfl)); intro gb179 hg w9 hbox hb; have n0_ := Aside0.mk (IsS25.below (by repeat (first | (with_reducible first | exact HI173.out | apply IsS25.alloc | apply IsS25.drewN | apply IsS25.drew | apply IsS25.set_1) | exact HI173.out)) hb); have n1_ := Aside0.mk (below_step (by repeat (first | (with_reducible first | exact HB.out | apply below_alloc | apply pw_below_drewN | apply below_drew1 | refine below_set ?_ (IsS25.ge HI173.out)) | exact HB.out)) hb); have n2_ := Aside0.mk (hbox); have n3_ := Aside0.mk ((by rw [hg]; exact (below_size (by repeat (first | (with_reducible first | exact HB.out | apply below_alloc | apply pw_below_drewN | apply below_drew1 | refine below_set ?_ (IsS25.ge HI173.out)) | exact HB.out))) : w.heap.size ≤ gb179)); have n4_ := Aside0.mk ((by rw [hg]; exact (below_size (by repeat (first | (with_reducible first | exact HB.out | apply below_alloc | apply pw_below_drewN | apply below_drew1 | refine below_set ?_ (IsS25.ge HI173.out)) | exact HB.out))) : w.heap.size ≤ gb179)); have n5_ := Aside0.mk ((by rw [hg]; exact Nat.ne_of_lt (IsS25.lt (show IsS25 w _ gb173 l0 t178 from by repeat (first | (with_reducible first | exact HI173.out | apply IsS25.alloc | apply IsS25.drewN | apply IsS25.drew | apply IsS25.set_1) | exact HI173.out))) : gb173 ≠ gb179)); have n6_ := Aside0.mk ((by rw [hg]; exact Nat.ne_of_gt (IsS25.lt (show IsS25 w _ gb173 l0 t178 from by repeat (first | (with_reducible first | exact HI173.out | apply IsS25.alloc | apply IsS25.drewN | apply IsS25.drew | apply IsS25.set_1) | exact HI173.out))) : gb179 ≠ gb173)); clear HI173; clear HB; have HI173 := n0_; have HB := n1_; have BK179 := n2_; have GW179 := n3_; have GE179 := n4_; have NB173_179 := n5_; have NB179_173 := n6_; clear n0_ n1_ n2_ n3_ n4_ n5_ n6_; clear hb hbox hg; have hnb10 := NB179_173.out; have hnc10 := NB173_179.out; have hcz11_0 : w9.cell? ⟨gb179, 0, none⟩ = some (.int .i64 0) := (blk_cell BK179.out 0).trans rfl; have hcz11_1 : w9.cell? ⟨gb179, 1, none⟩ = some (.int .i64 0) := (blk_cell BK179.out 1).trans rfl; have hcz11_2 : w9.cell? ⟨gb179, 2, none⟩ = some (.int .i64 0) := (blk_cell BK179.out 2).trans rfl; have hcz11_3 : w9.cell? ⟨gb179, 3, none⟩ = some (.int .u64 0) := (blk_cell BK179.out 3).trans rfl; have hfz11_0 := blk_frozen BK179.out 0; have hfz11_1 := blk_frozen BK179.out 1; have hfz11_2 := blk_frozen BK179.out 2; have hfz11_3 := blk_frozen BK179.out 3) | ((with_reducible refine gate_callee (f := 15) rfl ?_); refine goesL_ (some 20) rfl rfl Try.func15 (by kernel_rfl) rfl #[.pointer (some ⟨gb173, 0, none⟩), .int .i64 120] rfl (by (try simp only [List.map_toArray, List.map_cons, List.map_nil]); first | done | rfl | (simp only [List.length_drop, List.length_take]; rfl)) ?_; (with_reducible refine (stockyardlaw24_text.calls k gb173 l0 t178 120 t180 t183 w _ ?side1 ?side2 A4.out).mono ?_); (case side1 => repeat (first | (with_reducible first | exact HI173.out | apply IsS25.alloc | apply IsS25.drewN | apply IsS25.drew | apply IsS25.set_1 | refine IsS25.far ?_ NB173_179.out _) | exact HI173.out)); (case side2 => repeat (first | (with_reducible first | exact HB.out | apply below_alloc | apply pw_below_drewN | apply below_drew1 | refine below_set ?_ (IsS25.ge HI173.out) | refine below_set ?_ GE179.out) | exact HB.out)); rintro e w12 ⟨v181, rfl, ho0, hi, hb, hk⟩; refine ⟨_, rfl, ?_⟩; have n0_ := Aside0.mk (KeepBut.blk hk (g' := gb179) (o := .cells #[.int .i64 t174, .int .i64 t175, .int .i64 t176, .int .u64 t177] 28 (0, 0)) (by (with_reducible repeat (first | refine blk_drewN ?_ _ | refine blk_drew ?_ | refine blk_alloc ?_ _)); refine blk_put (cs := #[.int .i64 t174, .int .i64 t175, .int .i64 t176, .int .u64 0]) ?_ 3 _ rfl; (with_reducible repeat (first | refine blk_drewN ?_ _ | refine blk_drew ?_ | refine blk_alloc ?_ _)); refine blk_put (cs := #[.int .i64 t174, .int .i64 t175, .int .i64 0, .int .u64 0]) ?_ 2 _ rfl; (with_reducible repeat (first | refine blk_drewN ?_ _ | refine blk_drew ?_ | refine blk_alloc ?_ _)); refine blk_put (cs := #[.int .i64 t174, .int .i64 0, .int .i64 0, .int .u64 0]) ?_ 1 _ rfl; (with_reducible repeat (first | refine blk_drewN ?_ _ | refine blk_drew ?_ | refine blk_alloc ?_ _)); refine blk_put (cs := #[.int .i64 0, .int .i64 0, .int .i64 0, .int .u64 0]) ?_ 0 _ rfl; (with_reducible repeat (first | refine blk_drewN ?_ _ | refine blk_drew ?_ | refine blk_alloc ?_ _)); exact BK179.out) NB179_173.out (by simp)); have n1_ := Aside0.mk (Kd.R_lower ho0 (below_size (by repeat (first | (with_reducible first | exact HB.out | apply below_alloc | apply pw_below_drewN | apply below_drew1 | refine below_set ?_ (IsS25.ge HI173.out) | refine below_set ?_ GE179.out) | exact HB.out)))); have n2_ := Aside0.mk (hb); have n3_ := Aside0.mk (hi); clear BK179; clear HB; clear HI173; have BK179 := n0_; have HO182 := n1_; have HB := n2_; have HI173 := n3_; clear n0_ n1_ n2_ n3_; (try clear hb); (try clear hb2); (try clear hk); (try clear hi); (try clear ho0); have hcz13_0 : w12.cell? ⟨gb179, 0, none⟩ = some (.int .i64 t174) := (blk_cell BK179.out 0).trans rfl; have hcz13_1 : w12.cell? ⟨gb179, 1, none⟩ = some (.int .i64 t175) := (blk_cell BK179.out 1).trans rfl; have hcz13_2 : w12.cell? ⟨gb179, 2, none⟩ = some (.int .i64 t176) := (blk_cell BK179.out 2).trans rfl; have hcz13_3 : w12.cell? ⟨gb179, 3, none⟩ = some (.int .u64 t177) := (blk_cell BK179.out 3).trans rfl; have hfz13_0 := blk_frozen BK179.out 0; have hfz13_1 := blk_frozen BK179.out 1; have hfz13_2 := blk_frozen BK179.out 2; have hfz13_3 := blk_frozen BK179.out 3; obtain ⟨Ao14, co14, eo14⟩ := Kd.R_slice HO182.out; subst eo14) | ((with_reducible refine gate_callee (f := 16) rfl ?_); refine goesL_ (some 24) rfl rfl Try.func16 (by kernel_rfl) rfl #[.agg #[.int .i64 t174, .int .i64 t175, .int .i64 t176, .int .u64 t177], .slice Ao14 t180.length co14] rfl (by (try simp only [List.map_toArray, List.map_cons, List.map_nil]); first | done | rfl | (simp only [List.length_drop, List.length_take]; rfl)) ?_; (with_reducible refine (stockyardlaw24_ends.calls t174 t175 t176 t177 _ _ t180 t184 t187 _ ?side1 ?side2 A5.out).mono ?_); (case side1 => repeat (first | exact (Kd.R_reads' HO182.out).2.2 | (with_reducible refine Kd.C_alloc ?_ _) | (with_reducible refine Kd.C_drewN ?_ _) | (with_reducible refine Kd.C_drew ?_))); (case side2 => exact (Kd.R_reads' HO182.out).2.1); rintro e w15 ⟨v185, rfl, ho0, hb⟩; refine ⟨_, rfl, ?_⟩; have n0_ := Aside0.mk (Kd.R_below (by (with_reducible repeat (first | apply Kd.R_alloc | apply Kd.R_drewN | apply Kd.R_drew)); exact HO182.out) hb); have n1_ := Aside0.mk (Kd.R_lower ho0 (below_size (by repeat (first | (with_reducible first | exact HB.out | apply below_alloc | apply pw_below_drewN | apply below_drew1 | refine below_set ?_ (IsS25.ge HI173.out) | refine below_set ?_ GE179.out) | exact HB.out)))); have n2_ := Aside0.mk (IsS25.below (by repeat (first | (with_reducible first | exact HI173.out | apply IsS25.alloc | apply IsS25.drewN | apply IsS25.drew | apply IsS25.set_1 | refine IsS25.far ?_ NB173_179.out _) | exact HI173.out)) hb); have n3_ := Aside0.mk (blk_below (g := gb179) (o := .cells #[.int .i64 t174, .int .i64 t175, .int .i64 t176, .int .u64 t177] 28 (0, 0)) (by (with_reducible repeat (first | refine blk_drewN ?_ _ | refine blk_drew ?_ | refine blk_alloc ?_ _)); exact BK179.out) hb); have n4_ := Aside0.mk (below_step (by repeat (first | (with_reducible first | exact HB.out | apply below_alloc | apply pw_below_drewN | apply below_drew1 | refine below_set ?_ (IsS25.ge HI173.out) | refine below_set ?_ GE179.out) | exact HB.out)) hb); clear HO182; clear HI173; clear BK179; clear HB; have HO182 := n0_; have HO186 := n1_; have HI173 := n2_; have BK179 := n3_; have HB := n4_; clear n0_ n1_ n2_ n3_ n4_; (try clear hb); (try clear hb2); (try clear hk); (try clear hi); (try clear ho0)))
  (try simp only [Act.put, List.setIfInBounds_toArray, List.set_cons_zero, List.set_cons_succ])
  go_cut [32] (fun v32 wc => ∃ (kq : Nat) (x32_5 : Bool), v32 = .bool x32_5 ∧ Aside0 (stockyardlaw24_ChunkerSuffix.j0 kq a1 t180 t184 x32_5 t174 t175 t176 t177 = some r) ∧ Aside0 (kq ≤ k) ∧ Aside0 (Kd.R (Kd.int .u8) 5 wc w.heap.size (fun _ => True) (.slice Ao14 t180.length co14) t180) ∧ Aside0 (Kd.R (Kd.int .i64) 3 wc w.heap.size (fun _ => True) v185 t184) ∧ Aside0 (wc.heap[gb179]? = some (.cells #[.int .i64 t174, .int .i64 t175, .int .i64 t176, .int .u64 t177] 28 (0, 0))) ∧ Aside0 (Below w.heap.size w wc))
  case first =>
    have H := HC6.out
    clear HC6
    replace H := Option.bind_eq_some_iff.mp H
    obtain ⟨t188, A160, H⟩ := H
    replace H : (if t188 = true then (stockyardlaw24_ChunkerSuffix.j0 k a1 t180 t184 (!t187) t174 t175 t176 t177) else (stockyardlaw24_ChunkerSuffix.j0 k a1 t180 t184 true t174 t175 t176 t177)) = some r := H
    have A16 := Aside0.mk A160
    clear A160
    by_cases c17 : t188 = true
    · subst c17
      have H1 : (stockyardlaw24_ChunkerSuffix.j0 k a1 t180 t184 (!t187) t174 t175 t176 t177) = some r := by rw [if_pos rfl] at H; exact H
      clear H
      have H := H1
      clear H1
      have H' := Aside0.mk H
      clear H
      go_wp2_with (first | ((with_reducible refine gate_callee (f := 17) rfl ?_); refine goesL_ (some 27) rfl rfl Try.func17 (by kernel_rfl) rfl #[] rfl (by (try simp only [List.map_toArray, List.map_cons, List.map_nil]); first | done | rfl | (simp only [List.length_drop, List.length_take]; rfl)) ?_; (with_reducible refine (stockyardlaw24_known.calls k  true _ A16.out).mono ?_); rintro e w18 ⟨rfl, hb⟩; refine ⟨_, rfl, ?_⟩; have n0_ := Aside0.mk (Kd.R_below (by (with_reducible repeat (first | apply Kd.R_alloc | apply Kd.R_drewN | apply Kd.R_drew)); exact HO182.out) hb); have n1_ := Aside0.mk (Kd.R_below (by (with_reducible repeat (first | apply Kd.R_alloc | apply Kd.R_drewN | apply Kd.R_drew)); exact HO186.out) hb); have n2_ := Aside0.mk (IsS25.below (by repeat (first | (with_reducible first | exact HI173.out | apply IsS25.alloc | apply IsS25.drewN | apply IsS25.drew | apply IsS25.set_1 | refine IsS25.far ?_ NB173_179.out _) | exact HI173.out)) hb); have n3_ := Aside0.mk (blk_below (g := gb179) (o := .cells #[.int .i64 t174, .int .i64 t175, .int .i64 t176, .int .u64 t177] 28 (0, 0)) (by (with_reducible repeat (first | refine blk_drewN ?_ _ | refine blk_drew ?_ | refine blk_alloc ?_ _)); exact BK179.out) hb); have n4_ := Aside0.mk (below_step (by repeat (first | (with_reducible first | exact HB.out | apply below_alloc | apply pw_below_drewN | apply below_drew1 | refine below_set ?_ (IsS25.ge HI173.out) | refine below_set ?_ GE179.out) | exact HB.out)) hb); clear HO182; clear HO186; clear HI173; clear BK179; clear HB; have HO182 := n0_; have HO186 := n1_; have HI173 := n2_; have BK179 := n3_; have HB := n4_; clear n0_ n1_ n2_ n3_ n4_; (try clear hb); (try clear hb2); (try clear hk); (try clear hi)))
      go_meet
      case rel => exact ⟨_, (!t187), (by first | rfl | (simp; done) | (simp [*]; done)), H', ⟨by first | omega | exact Nat.le_refl _⟩, ⟨by (with_reducible repeat (first | apply Kd.R_alloc | apply Kd.R_drewN | apply Kd.R_drew)); exact HO182.out⟩, ⟨by (with_reducible repeat (first | apply Kd.R_alloc | apply Kd.R_drewN | apply Kd.R_drew)); exact HO186.out⟩, ⟨by (with_reducible repeat (first | refine blk_drewN ?_ _ | refine blk_drew ?_ | refine blk_alloc ?_ _)); exact BK179.out⟩, ⟨by repeat (first | (with_reducible first | exact HB.out | apply below_alloc | apply pw_below_drewN | apply below_drew1 | refine below_set ?_ (IsS25.ge HI173.out) | refine below_set ?_ GE179.out) | exact HB.out)⟩⟩
    · replace c17 := Bool.eq_false_iff.mpr c17
      subst c17
      have H1 : (stockyardlaw24_ChunkerSuffix.j0 k a1 t180 t184 true t174 t175 t176 t177) = some r := by rw [if_neg (show ¬ (false = true) by decide)] at H; exact H
      clear H
      have H := H1
      clear H1
      have H' := Aside0.mk H
      clear H
      go_wp2_with (first | ((with_reducible refine gate_callee (f := 17) rfl ?_); refine goesL_ (some 27) rfl rfl Try.func17 (by kernel_rfl) rfl #[] rfl (by (try simp only [List.map_toArray, List.map_cons, List.map_nil]); first | done | rfl | (simp only [List.length_drop, List.length_take]; rfl)) ?_; (with_reducible refine (stockyardlaw24_known.calls k  false _ A16.out).mono ?_); rintro e w19 ⟨rfl, hb⟩; refine ⟨_, rfl, ?_⟩; have n0_ := Aside0.mk (Kd.R_below (by (with_reducible repeat (first | apply Kd.R_alloc | apply Kd.R_drewN | apply Kd.R_drew)); exact HO182.out) hb); have n1_ := Aside0.mk (Kd.R_below (by (with_reducible repeat (first | apply Kd.R_alloc | apply Kd.R_drewN | apply Kd.R_drew)); exact HO186.out) hb); have n2_ := Aside0.mk (IsS25.below (by repeat (first | (with_reducible first | exact HI173.out | apply IsS25.alloc | apply IsS25.drewN | apply IsS25.drew | apply IsS25.set_1 | refine IsS25.far ?_ NB173_179.out _) | exact HI173.out)) hb); have n3_ := Aside0.mk (blk_below (g := gb179) (o := .cells #[.int .i64 t174, .int .i64 t175, .int .i64 t176, .int .u64 t177] 28 (0, 0)) (by (with_reducible repeat (first | refine blk_drewN ?_ _ | refine blk_drew ?_ | refine blk_alloc ?_ _)); exact BK179.out) hb); have n4_ := Aside0.mk (below_step (by repeat (first | (with_reducible first | exact HB.out | apply below_alloc | apply pw_below_drewN | apply below_drew1 | refine below_set ?_ (IsS25.ge HI173.out) | refine below_set ?_ GE179.out) | exact HB.out)) hb); clear HO182; clear HO186; clear HI173; clear BK179; clear HB; have HO182 := n0_; have HO186 := n1_; have HI173 := n2_; have BK179 := n3_; have HB := n4_; clear n0_ n1_ n2_ n3_ n4_; (try clear hb); (try clear hb2); (try clear hk); (try clear hi)))
      go_meet
      case rel => exact ⟨_, (true), (by first | rfl | (simp; done) | (simp [*]; done)), H', ⟨by first | omega | exact Nat.le_refl _⟩, ⟨by (with_reducible repeat (first | apply Kd.R_alloc | apply Kd.R_drewN | apply Kd.R_drew)); exact HO182.out⟩, ⟨by (with_reducible repeat (first | apply Kd.R_alloc | apply Kd.R_drewN | apply Kd.R_drew)); exact HO186.out⟩, ⟨by (with_reducible repeat (first | refine blk_drewN ?_ _ | refine blk_drew ?_ | refine blk_alloc ?_ _)); exact BK179.out⟩, ⟨by repeat (first | (with_reducible first | exact HB.out | apply below_alloc | apply pw_below_drewN | apply below_drew1 | refine below_set ?_ (IsS25.ge HI173.out) | refine below_set ?_ GE179.out) | exact HB.out)⟩⟩
  case rest =>
    clear HC6
    try clear c1
    try clear p2
    try clear c3
    try clear c10
    try clear c14
    try clear c15
    try clear c16
    try clear c17
    try clear hcz11_0
    try clear hcz11_1
    try clear hcz11_2
    try clear hcz11_3
    try clear hcz13_0
    try clear hcz13_1
    try clear hcz13_2
    try clear hcz13_3
    try clear hfz11_0
    try clear hfz11_1
    try clear hfz11_2
    try clear hfz11_3
    try clear hfz13_0
    try clear hfz13_1
    try clear hfz13_2
    try clear hfz13_3
    obtain ⟨kq, x32_5, rfl, HA, HJ5, HO_7, HO_8, BK179, HB⟩ := hcut
    cases kq with
    | zero => exact absurd HA.out (by simp [stockyardlaw24_ChunkerSuffix.j0])
    | succ kj5 =>
      have H := HA.out
      clear HA
      simp only [stockyardlaw24_ChunkerSuffix.j0] at H
      by_cases c20 : x32_5 = true
      · subst c20
        have H1 : (some false) = some r := by rw [if_pos rfl] at H; exact H
        clear H
        have H := H1
        clear H1
        exact absurd ((Option.some.inj H).trans HRT.out) (by decide)
      · replace c20 := Bool.eq_false_iff.mpr c20
        subst c20
        have H1 : (if (t184.length : Int) = 0 then (some true) else ((stockyardmake_Fold.f a1 (t184.length : Int)).bind fun t189 => (if 0 ≤ t189 then (if t189 < (t184.length : Int) then (if (rd t184 t189) < 0 then (stockyardlaw24_ChunkerSuffix.j1 kj5 t180 t184 t189 true t174 t175 t176 t177) else (stockyardlaw24_ChunkerSuffix.j1 kj5 t180 t184 t189 (decide ((rd t184 t189) > (t180.length : Int))) t174 t175 t176 t177)) else (none)) else (none)))) = some r := by rw [if_neg (show ¬ (false = true) by decide)] at H; exact H
        clear H
        have H := H1
        clear H1
        by_cases c21 : (t184.length : Int) = 0
        · rw [if_pos c21] at H
          have c21b0 : ((t184.length : Int) == 0) = true := beq_iff_eq.mpr c21
          have c21b1 : ((t184.length : Int) != 0) = false := bne_eq_false_iff_eq.mpr c21
          clear c21
          obtain rfl := Option.some.inj H
          obtain ⟨Ao22, co22, eo22⟩ := Kd.R_slice HO_8.out
          subst eo22
          go_wp2
          go_ret
          exact ⟨by first | rfl | (simp [errW_none, errW_some] <;> rfl) | (simp [*, errW_none, errW_some] <;> rfl), by repeat (first | (with_reducible first | exact HB.out | apply below_alloc | apply pw_below_drewN | apply below_drew1 | refine below_set ?_ GE179.out) | exact HB.out)⟩
        · rw [if_neg c21] at H
          have c21b0 : ((t184.length : Int) == 0) = false := beq_eq_false_iff_ne.mpr c21
          have c21b1 : ((t184.length : Int) != 0) = true := bne_iff_ne.mpr c21
          have c21b2 : ¬ (t184 = []) := fun h_ => c21 (by rw [h_]; rfl)
          replace H := Option.bind_eq_some_iff.mp H
          obtain ⟨t189, A230, H⟩ := H
          replace H : (if 0 ≤ t189 then (if t189 < (t184.length : Int) then (if (rd t184 t189) < 0 then (stockyardlaw24_ChunkerSuffix.j1 kj5 t180 t184 t189 true t174 t175 t176 t177) else (stockyardlaw24_ChunkerSuffix.j1 kj5 t180 t184 t189 (decide ((rd t184 t189) > (t180.length : Int))) t174 t175 t176 t177)) else (none)) else (none)) = some r := H
          have A23 := Aside0.mk A230
          clear A230
          have HC24 := Aside0.mk H
          clear H
          obtain ⟨Ao25, co25, eo25⟩ := Kd.R_slice HO_8.out
          subst eo25
          go_upto_region 10 with (first | ((with_reducible refine gate_callee (f := 18) rfl ?_); refine goesL_ (some 39) rfl rfl Try.func18 (by kernel_rfl) rfl #[.int .i64 a1, .int .i64 (t184.length : Int)] rfl (by (try simp only [List.map_toArray, List.map_cons, List.map_nil]); first | done | rfl | (simp only [List.length_drop, List.length_take]; rfl)) ?_; (with_reducible refine (stockyardmake_Fold.calls a1 (t184.length : Int) t189 _ A23.out).mono ?_); rintro e w' ⟨rfl, ⟨nd, rfl⟩⟩; refine ⟨_, rfl, ?_⟩))
          (try simp only [Act.put, List.setIfInBounds_toArray, List.set_cons_zero, List.set_cons_succ])
          go_cut [53] (fun v53 wc => ∃ (kq : Nat) (x53_23 : Bool), v53 = .bool x53_23 ∧ Aside0 (stockyardlaw24_ChunkerSuffix.j1 kq t180 t184 t189 x53_23 t174 t175 t176 t177 = some r) ∧ Aside0 (kq ≤ kj5) ∧ Aside0 (Kd.R (Kd.int .u8) 5 wc w.heap.size (fun _ => True) (.slice Ao14 t180.length co14) t180) ∧ Aside0 (Kd.R (Kd.int .i64) 3 wc w.heap.size (fun _ => True) (.slice Ao25 t184.length co25) t184) ∧ Aside0 (wc.heap[gb179]? = some (.cells #[.int .i64 t174, .int .i64 t175, .int .i64 t176, .int .u64 t177] 28 (0, 0))) ∧ Aside0 (Below w.heap.size w wc))
          case first =>
            have H := HC24.out
            clear HC24
            by_cases c26 : 0 ≤ t189
            · rw [if_pos c26] at H
              have c26b0 : decide (0 ≤ t189) = true := decide_eq_true c26
              clear c26
              (first | rw [c26b0] | (simp only [i64_w, i32_w]; rw [c26b0]) | skip)
              by_cases c27 : t189 < (t184.length : Int)
              · rw [if_pos c27] at H
                have c27b0 : decide (t189 < (t184.length : Int)) = true := decide_eq_true c27
                clear c27
                by_cases c28 : (rd t184 t189) < 0
                · rw [if_pos c28] at H
                  have c28b0 : decide ((rd t184 t189) < 0) = true := decide_eq_true c28
                  clear c28
                  have H' := Aside0.mk H
                  clear H
                  have p190 : 0 ≤ (t189 : Int) := of_decide_eq_true (by first | (with_reducible assumption) | assumption)
                  have q190 : t189 < (t184.length : Int) := of_decide_eq_true (by first | (with_reducible assumption) | assumption)
                  obtain ⟨ad190, e190, hx190_0⟩ := Kd.at_int (Kd.R_reads' HO_8.out).2.2 t189 p190 q190
                  cases e190
                  replace p190 := eq_true p190
                  replace q190 := eq_true q190
                  go_wp2
                  go_meet
                  case rel => exact ⟨_, (true), (by first | rfl | (simp; done) | (simp [*]; done)), H', ⟨by have := HJ5.out; first | omega | exact Nat.le_refl _⟩, ⟨by (with_reducible repeat (first | apply Kd.R_alloc | apply Kd.R_drewN | apply Kd.R_drew)); exact HO_7.out⟩, ⟨by (with_reducible repeat (first | apply Kd.R_alloc | apply Kd.R_drewN | apply Kd.R_drew)); exact HO_8.out⟩, ⟨by (with_reducible repeat (first | refine blk_drewN ?_ _ | refine blk_drew ?_ | refine blk_alloc ?_ _)); exact BK179.out⟩, ⟨by repeat (first | (with_reducible first | exact HB.out | apply below_alloc | apply pw_below_drewN | apply below_drew1 | refine below_set ?_ GE179.out) | exact HB.out)⟩⟩
                · rw [if_neg c28] at H
                  have c28b0 : decide ((rd t184 t189) < 0) = false := decide_eq_false c28
                  clear c28
                  have H' := Aside0.mk H
                  clear H
                  have p190 : 0 ≤ (t189 : Int) := of_decide_eq_true (by first | (with_reducible assumption) | assumption)
                  have q190 : t189 < (t184.length : Int) := of_decide_eq_true (by first | (with_reducible assumption) | assumption)
                  obtain ⟨ad190, e190, hx190_0⟩ := Kd.at_int (Kd.R_reads' HO_8.out).2.2 t189 p190 q190
                  cases e190
                  replace p190 := eq_true p190
                  replace q190 := eq_true q190
                  have p191 : 0 ≤ (t189 : Int) := of_decide_eq_true (by first | (with_reducible assumption) | assumption)
                  have q191 : t189 < (t184.length : Int) := of_decide_eq_true (by first | (with_reducible assumption) | assumption)
                  obtain ⟨ad191, e191, hx191_0⟩ := Kd.at_int (Kd.R_reads' HO_8.out).2.2 t189 p191 q191
                  obtain rfl : ad190 = ad191 := (by injection e191)
                  replace p191 := eq_true p191
                  replace q191 := eq_true q191
                  go_wp2
                  go_meet
                  case rel => exact ⟨_, (decide ((rd t184 t189) > (t180.length : Int))), (by first | rfl | (simp; done) | (simp [*]; done)), H', ⟨by have := HJ5.out; first | omega | exact Nat.le_refl _⟩, ⟨by (with_reducible repeat (first | apply Kd.R_alloc | apply Kd.R_drewN | apply Kd.R_drew)); exact HO_7.out⟩, ⟨by (with_reducible repeat (first | apply Kd.R_alloc | apply Kd.R_drewN | apply Kd.R_drew)); exact HO_8.out⟩, ⟨by (with_reducible repeat (first | refine blk_drewN ?_ _ | refine blk_drew ?_ | refine blk_alloc ?_ _)); exact BK179.out⟩, ⟨by repeat (first | (with_reducible first | exact HB.out | apply below_alloc | apply pw_below_drewN | apply below_drew1 | refine below_set ?_ GE179.out) | exact HB.out)⟩⟩
              · rw [if_neg c27] at H
                exact absurd H (by simp)
            · rw [if_neg c26] at H
              exact absurd H (by simp)
          case rest =>
            clear HC24
            try clear c1
            try clear p1
            try clear q1
            try clear hx1
            try clear c2
            try clear p2
            try clear c3
            try clear c10
            try clear c14
            try clear c15
            try clear c16
            try clear c17
            try clear c18
            try clear p19
            try clear q19
            try clear hx19
            try clear c20
            try clear c21
            try clear c21b0
            try clear c21b1
            try clear c21b2
            try clear c26
            try clear c26b0
            try clear c27
            try clear c27b0
            try clear c28
            try clear c28b0
            try clear hcz11_0
            try clear hcz11_1
            try clear hcz11_2
            try clear hcz11_3
            try clear hcz13_0
            try clear hcz13_1
            try clear hcz13_2
            try clear hcz13_3
            try clear hfz11_0
            try clear hfz11_1
            try clear hfz11_2
            try clear hfz11_3
            try clear hfz13_0
            try clear hfz13_1
            try clear hfz13_2
            try clear hfz13_3
            try clear hx190_0
            try clear hx191_0
            try clear p190
            try clear p191
            try clear p2
            try clear q190
            try clear q191
            obtain ⟨kq, x53_23, rfl, HA, HJ23, HO_7, HO_8, BK179, HB⟩ := hcut
            cases kq with
            | zero => exact absurd HA.out (by simp [stockyardlaw24_ChunkerSuffix.j1])
            | succ kj23 =>
              have H := HA.out
              clear HA
              simp only [stockyardlaw24_ChunkerSuffix.j1] at H
              by_cases c29 : x53_23 = true
              · subst c29
                have H1 : (some false) = some r := by rw [if_pos rfl] at H; exact H
                clear H
                have H := H1
                clear H1
                exact absurd ((Option.some.inj H).trans HRT.out) (by decide)
              · replace c29 := Bool.eq_false_iff.mpr c29
                subst c29
                have H1 : (if 0 ≤ t189 then (if t189 < (t184.length : Int) then (if 0 ≤ (rd t184 t189) then (if (rd t184 t189) ≤ (t180.length : Int) then ((stockyardlaw24_ends.f t174 t175 t176 t177 (t180.drop ((rd t184 t189) : Int).toNat)).bind fun bt197 => (if bt197.2 = true then (stockyardlaw24_ChunkerSuffix.j2 kj23 t184 t189 bt197.1 ((bt197.1.length : Int) != (wrap64 ((wrap64 ((t184.length : Int) - t189)) - 1)))) else (stockyardlaw24_ChunkerSuffix.j2 kj23 t184 t189 bt197.1 true))) else (none)) else (none)) else (none)) else (none)) = some r := by rw [if_neg (show ¬ (false = true) by decide)] at H; exact H
                clear H
                have H := H1
                clear H1
                by_cases c30 : 0 ≤ t189
                · rw [if_pos c30] at H
                  have c30b0 : decide (0 ≤ t189) = true := decide_eq_true c30
                  clear c30
                  by_cases c31 : t189 < (t184.length : Int)
                  · rw [if_pos c31] at H
                    have c31b0 : decide (t189 < (t184.length : Int)) = true := decide_eq_true c31
                    clear c31
                    by_cases c32 : 0 ≤ (rd t184 t189)
                    · rw [if_pos c32] at H
                      have c32b0 := eq_true c32
                      have c32b1 : decide (0 ≤ (rd t184 t189)) = true := decide_eq_true c32
                      clear c32
                      by_cases c33 : (rd t184 t189) ≤ (t180.length : Int)
                      · rw [if_pos c33] at H
                        have c33b0 := eq_true c33
                        have c33b1 : decide ((rd t184 t189) ≤ (t180.length : Int)) = true := decide_eq_true c33
                        clear c33
                        obtain ⟨y193, hy193⟩ : ∃ y_ : List Int, y_ = (t180.drop ((rd t184 t189) : Int).toNat) := ⟨_, rfl⟩
                        replace H : ((stockyardlaw24_ends.f t174 t175 t176 t177 y193).bind fun bt197 => (if bt197.2 = true then (stockyardlaw24_ChunkerSuffix.j2 kj23 t184 t189 bt197.1 ((bt197.1.length : Int) != (wrap64 ((wrap64 ((t184.length : Int) - t189)) - 1)))) else (stockyardlaw24_ChunkerSuffix.j2 kj23 t184 t189 bt197.1 true))) = some r := by first | (rw [hy193]; with_reducible exact H) | (have H2_ := (Option.bind_some _ _).symm.trans H; rw [hy193]; with_reducible exact H2_) | (have H2_ := (Option.bind_some _ _).symm.trans H; with_reducible exact H2_) | with_reducible exact H | (rw [hy193]; exact H) | exact H
                        have Ny193 := Aside0.mk hy193
                        clear hy193
                        replace H := Option.bind_eq_some_iff.mp H
                        obtain ⟨⟨t197, t200⟩, A340, H⟩ := H
                        replace H : (if t200 = true then (stockyardlaw24_ChunkerSuffix.j2 kj23 t184 t189 t197 ((t197.length : Int) != (wrap64 ((wrap64 ((t184.length : Int) - t189)) - 1)))) else (stockyardlaw24_ChunkerSuffix.j2 kj23 t184 t189 t197 true)) = some r := H
                        have A34 := Aside0.mk A340
                        clear A340
                        have HC35 := Aside0.mk H
                        clear H
                        try go_wp2
                        have n0_ := Aside0.mk (Kd.R_drew HO_7.out)
                        have n1_ := Aside0.mk (Kd.R_drew HO_8.out)
                        have n2_ := Aside0.mk (blk_drew BK179.out)
                        have n3_ := Aside0.mk (below_drew1 HB.out)
                        clear HO_7
                        clear HO_8
                        clear BK179
                        clear HB
                        have HO_7 := n0_
                        have HO_8 := n1_
                        have BK179 := n2_
                        have HB := n3_
                        clear n0_ n1_ n2_ n3_
                        have p192 : 0 ≤ (t189 : Int) := of_decide_eq_true (by first | (with_reducible assumption) | assumption)
                        have q192 : t189 < (t184.length : Int) := of_decide_eq_true (by first | (with_reducible assumption) | assumption)
                        obtain ⟨ad192, e192, hx192_0⟩ := Kd.at_int (Kd.R_reads' HO_8.out).2.2 t189 p192 q192
                        cases e192
                        replace p192 := eq_true p192
                        replace q192 := eq_true q192
                        have q37 : ((rd t184 t189) : Int) ≤ ((t180.length : Int) : Int) := of_decide_eq_true (by first | (with_reducible assumption) | assumption)
                        obtain ⟨i037, hi037, _, hsz37, _⟩ := info_parts info5
                        have hroom37 : t180.length ≤ co14 := (Kd.R_reads' HO_7.out).2.1
                        have hC37 : Kd.C (Kd.int .u8) _ Ao14 t180.length t180 := (Kd.R_reads' HO_7.out).2.2
                        have q037 : (0 : Int) ≤ ((rd t184 t189) : Int) := of_decide_eq_true (by first | (with_reducible assumption) | assumption)
                        have hcut37 := cut_from (P := Try.prog) 30 5 .i64 Try.underlying30 hi037 1 hsz37 Ao14 t180.length co14 (rd t184 t189) q037 q37
                        have hr37 := Kd.C_drop (m := ((rd t184 t189) : Int).toNat) (c := co14) hC37 (by omega) hroom37
                        obtain ⟨A37, hA37⟩ : ∃ A1, A1 = (if co14 = ((rd t184 t189) : Int).toNat then Ao14 else (Ao14 : Option Addr).map (·.add (((rd t184 t189) : Int).toNat * 1))) := ⟨_, rfl⟩
                        obtain ⟨c37, hc37⟩ : ∃ c1, c1 = co14 - ((rd t184 t189) : Int).toNat := ⟨_, rfl⟩
                        have hy37 : y193.length = t180.length - ((rd t184 t189) : Int).toNat := (by rw [Ny193.out, List.length_drop] <;> omega)
                        rw [show (t180).drop ((rd t184 t189) : Int).toNat = y193 from Ny193.out.symm] at hr37
                        replace hr37 : Kd.C (Kd.int .u8) _ A37 y193.length y193 := (by rw [hA37]; exact hr37)
                        rw [← hy37, ← hA37, ← hc37] at hcut37
                        have HR196 := Aside0.mk hr37
                        have HC196 := Aside0.mk (show y193.length ≤ c37 from by rw [hy37, hc37]; exact Nat.sub_le_sub_right hroom37 _)
                        clear hr37 hC37 hroom37 hi037 hsz37 hc37
                        have KY37 := Aside0.mk hy37
                        have KA37 := Aside0.mk hA37
                        clear hy37 hA37
                        have KL37 := Aside0.mk (show ((rd t184 t189) : Int).toNat ≤ t180.length from by omega)
                        replace q37 := eq_true q37
                        refine start_ (n := 13) (S := fun w' => w'.cell? ⟨gb179, 0, none⟩ = some (.int .i64 t174) ∧ w'.cell? ⟨gb179, 1, none⟩ = some (.int .i64 t175) ∧ w'.cell? ⟨gb179, 2, none⟩ = some (.int .i64 t176) ∧ w'.cell? ⟨gb179, 3, none⟩ = some (.int .u64 t177) ∧ w'.cell? (ad192.add (t189).toNat) = some (.int .i64 (rd t184 t189))) (ds := []) #[false, false, false, false, false, false, false, false, false, false, false, false, false] (by kernel_rfl) rfl rfl ⟨(blk_cell BK179.out 0).trans rfl, (blk_cell BK179.out 1).trans rfl, (blk_cell BK179.out 2).trans rfl, (blk_cell BK179.out 3).trans rfl, hx192_0⟩ (fun hHeld => ?_); refine with_tabW stockyardlaw24_ChunkerSuffix.tab12 stockyardlaw24_ChunkerSuffix.bits12 (fun HT_ HW_ => ?_)
                        generalize wc.drew = w36 at HO_7 HO_8 BK179 HB HR196 hx192_0 hHeld ⊢
                        refine pure_ (i := 1) (N := some 56) (v := ?_) (a' := ?_) #[false, true, false, false, false, false, false, false, false, false, false, false, false] rfl rfl (any_of HT_.out (by kernel_rfl)) (fun _ _ _ h => h) (Or.inl ⟨by rfl, ?_⟩) ?_ ?_
                        rotate_left
                        · intro w'
                          go_simp
                          with_reducible rfl
                        rotate_left
                        · simp only [Act.put, List.setIfInBounds_toArray, List.set_cons_zero, List.set_cons_succ, i64_w, i32_w]
                          rfl
                        refine pure_ (i := 2) (N := some 57) (v := ?_) (a' := ?_) #[false, true, true, false, false, false, false, false, false, false, false, false, false] rfl rfl (any_of HT_.out (by kernel_rfl)) (fun _ _ _ h => h) (Or.inl ⟨by rfl, ?_⟩) ?_ ?_
                        rotate_left
                        · intro w'
                          go_simp
                          with_reducible rfl
                        rotate_left
                        · simp only [Act.put, List.setIfInBounds_toArray, List.set_cons_zero, List.set_cons_succ, i64_w, i32_w]
                          rfl
                        refine pure_ (i := 3) (N := some 58) (v := ?_) (a' := ?_) #[false, true, true, true, false, false, false, false, false, false, false, false, false] rfl rfl (any_of HT_.out (by kernel_rfl)) (fun _ _ _ h => h) (Or.inl ⟨by rfl, ?_⟩) ?_ ?_
                        rotate_left
                        · intro w'
                          go_simp
                          with_reducible rfl
                        rotate_left
                        · simp only [Act.put, List.setIfInBounds_toArray, List.set_cons_zero, List.set_cons_succ, i64_w, i32_w]
                          rfl
                        refine pure_ (i := 4) (N := some 59) (v := ?_) (a' := ?_) #[false, true, true, true, true, false, false, false, false, false, false, false, false] rfl rfl (any_of HT_.out (by kernel_rfl)) (fun _ _ _ h => h) (Or.inl ⟨by rfl, ?_⟩) ?_ ?_
                        rotate_left
                        · intro w'
                          go_simp
                          with_reducible rfl
                        rotate_left
                        · simp only [Act.put, List.setIfInBounds_toArray, List.set_cons_zero, List.set_cons_succ, i64_w, i32_w]
                          rfl
                        refine take_ (i := 0) (N := some 55) (v := ?_) (a' := ?_) #[true, true, true, true, true, false, false, false, false, false, false, false, false] rfl rfl (take_ofW HT_.out HW_.out (by kernel_rfl)) (fun _ _ _ h => h) (Or.inl ⟨by rfl, ?_⟩) hHeld ?_ ?_
                        rotate_left
                        · rintro w' ⟨s0, s1, s2, s3, s4⟩
                          go_simp
                          with_reducible rfl
                        rotate_left
                        · simp only [Act.put, List.setIfInBounds_toArray, List.set_cons_zero, List.set_cons_succ, i64_w, i32_w]
                          rfl
                        refine take_ (i := 5) (N := some 60) (v := ?_) (a' := ?_) #[true, true, true, true, true, true, false, false, false, false, false, false, false] rfl rfl (take_ofW HT_.out HW_.out (by kernel_rfl)) (fun _ _ _ h => h) (Or.inl ⟨by rfl, ?_⟩) hHeld ?_ ?_
                        rotate_left
                        · rintro w' ⟨s0, s1, s2, s3, s4⟩
                          go_simp
                          with_reducible rfl
                        rotate_left
                        · simp only [Act.put, List.setIfInBounds_toArray, List.set_cons_zero, List.set_cons_succ, i64_w, i32_w]
                          rfl
                        refine pure_ (i := 6) (N := some 61) (v := ?_) (a' := ?_) #[true, true, true, true, true, true, true, false, false, false, false, false, false] rfl rfl (any_of HT_.out (by kernel_rfl)) (fun _ _ _ h => h) (Or.inl ⟨by rfl, ?_⟩) ?_ ?_
                        rotate_left
                        · intro w'
                          go_simp
                          with_reducible rfl
                        rotate_left
                        · simp only [Act.put, List.setIfInBounds_toArray, List.set_cons_zero, List.set_cons_succ, i64_w, i32_w]
                          rfl
                        refine one_ (i := 7) (N := some 62) #[true, true, true, true, true, true, true, true, false, false, false, false, false] rfl rfl (one_of HT_.out (by kernel_rfl)) (by decide) (fun K hK => ?_)
                        refine goes_ Try.func16 (by kernel_rfl) rfl #[.agg #[.int .i64 t174, .int .i64 t175, .int .i64 t176, .int .u64 t177], .slice A37 y193.length c37] (by rfl) rfl rfl (by (try simp only [List.map_toArray, List.map_cons, List.map_nil]); first | done | rfl | (simp only [List.length_drop, List.length_take]; rfl)) ?_
                        with_reducible refine (stockyardlaw24_ends.calls t174 t175 t176 t177 _ _ y193 t197 t200 _ ?side1 ?side2 A34.out).mono ?_
                        (case side1 => repeat (first | exact (by repeat (first | (with_reducible exact HR196.out) | (with_reducible refine Kd.C_alloc ?_ _) | (with_reducible refine Kd.C_drewN ?_ _) | (with_reducible refine Kd.C_drew ?_) | exact HR196.out)) | (with_reducible refine Kd.C_alloc ?_ _) | (with_reducible refine Kd.C_drewN ?_ _) | (with_reducible refine Kd.C_drew ?_)))
                        (case side2 => exact HC196.out)
                        rintro e w38 ⟨v198, rfl, ho0, hb⟩
                        have HS4_ := (hb.cell (World.block_lt_of_cell? _ _ (hHeld.2.2.2.2))).trans (hHeld.2.2.2.2)
                        refine ⟨_, rfl, ?_⟩
                        have n0_ := Aside0.mk (Kd.R_below (by (with_reducible repeat (first | apply Kd.R_alloc | apply Kd.R_drewN | apply Kd.R_drew)); exact HO_7.out) hb)
                        have n1_ := Aside0.mk (Kd.R_elder' (by (with_reducible repeat (first | apply Kd.R_alloc | apply Kd.R_drewN | apply Kd.R_drew)); exact HO_8.out) (Kd.R_base ho0) hb)
                        have n2_ := Aside0.mk (Kd.R_lower (Kd.R_new' ho0 (Kd.R_lt (by (with_reducible repeat (first | apply Kd.R_alloc | apply Kd.R_drewN | apply Kd.R_drew)); exact HO_8.out))) (below_size (by repeat (first | (with_reducible first | exact HB.out | apply below_alloc | apply pw_below_drewN | apply below_drew1 | refine below_set ?_ GE179.out) | exact HB.out))))
                        have n3_ := Aside0.mk (blk_below (g := gb179) (o := .cells #[.int .i64 t174, .int .i64 t175, .int .i64 t176, .int .u64 t177] 28 (0, 0)) (by (with_reducible repeat (first | refine blk_drewN ?_ _ | refine blk_drew ?_ | refine blk_alloc ?_ _)); exact BK179.out) hb)
                        have n4_ := Aside0.mk (Kd.C_below (by repeat (first | (with_reducible exact HR196.out) | (with_reducible refine Kd.C_alloc ?_ _) | (with_reducible refine Kd.C_drewN ?_ _) | (with_reducible refine Kd.C_drew ?_) | exact HR196.out)) hb)
                        have n5_ := Aside0.mk (below_step (by repeat (first | (with_reducible first | exact HB.out | apply below_alloc | apply pw_below_drewN | apply below_drew1 | refine below_set ?_ GE179.out) | exact HB.out)) hb)
                        clear HO_7
                        clear HO_8
                        clear BK179
                        clear HR196
                        clear HB
                        have HO_7 := n0_
                        have HO_8 := n1_
                        have HO199 := n2_
                        have BK179 := n3_
                        have HR196 := n4_
                        have HB := n5_
                        clear n0_ n1_ n2_ n3_ n4_ n5_
                        (try clear hb)
                        (try clear hb2)
                        (try clear hk)
                        (try clear hi)
                        (try clear ho0)
                        refine hK.out _ _ ⟨(blk_cell BK179.out 0).trans rfl, (blk_cell BK179.out 1).trans rfl, (blk_cell BK179.out 2).trans rfl, (blk_cell BK179.out 3).trans rfl, HS4_⟩ (fun hHeld => ?_)
                        clear hK K
                        refine norm_ (a' := ?_) ?_ ?_
                        rotate_left
                        · show Act.put _ (some 62) _ = _
                          simp only [Act.put, List.setIfInBounds_toArray, List.set_cons_zero, List.set_cons_succ, i64_w, i32_w]
                          rfl
                        refine pure_ (i := 8) (N := some 54) (v := ?_) (a' := ?_) #[true, true, true, true, true, true, true, true, true, false, false, false, false] rfl rfl (any_of HT_.out (by kernel_rfl)) (fun _ _ _ h => h) (Or.inl ⟨by rfl, ?_⟩) ?_ ?_
                        rotate_left
                        · intro w'
                          go_simp
                          with_reducible rfl
                        rotate_left
                        · simp only [Act.put, List.setIfInBounds_toArray, List.set_cons_zero, List.set_cons_succ, i64_w, i32_w]
                          rfl
                        refine pure_ (i := 9) (N := some 63) (v := ?_) (a' := ?_) #[true, true, true, true, true, true, true, true, true, true, false, false, false] rfl rfl (any_of HT_.out (by kernel_rfl)) (fun _ _ _ h => h) (Or.inl ⟨by rfl, ?_⟩) ?_ ?_
                        rotate_left
                        · intro w'
                          go_simp
                          with_reducible rfl
                        rotate_left
                        · simp only [Act.put, List.setIfInBounds_toArray, List.set_cons_zero, List.set_cons_succ, i64_w, i32_w]
                          rfl
                        refine pure_ (i := 10) (N := some 64) (v := ?_) (a' := ?_) #[true, true, true, true, true, true, true, true, true, true, true, false, false] rfl rfl (any_of HT_.out (by kernel_rfl)) (fun _ _ _ h => h) (Or.inl ⟨by rfl, ?_⟩) ?_ ?_
                        rotate_left
                        · intro w'
                          go_simp
                          with_reducible rfl
                        rotate_left
                        · simp only [Act.put, List.setIfInBounds_toArray, List.set_cons_zero, List.set_cons_succ, i64_w, i32_w]
                          rfl
                        refine pure_ (i := 11) (N := some 11) (v := ?_) (a' := ?_) #[true, true, true, true, true, true, true, true, true, true, true, true, false] rfl rfl (any_of HT_.out (by kernel_rfl)) (fun _ _ _ h => h) (Or.inl ⟨by rfl, ?_⟩) ?_ ?_
                        rotate_left
                        · intro w'
                          go_simp
                          with_reducible rfl
                        rotate_left
                        · simp only [Act.put, List.setIfInBounds_toArray, List.set_cons_zero, List.set_cons_succ, i64_w, i32_w]
                          rfl
                        refine pure_ (i := 12) (N := some 12) (v := ?_) (a' := ?_) #[true, true, true, true, true, true, true, true, true, true, true, true, true] rfl rfl (any_of HT_.out (by kernel_rfl)) (fun _ _ _ h => h) (Or.inl ⟨by rfl, ?_⟩) ?_ ?_
                        rotate_left
                        · intro w'
                          go_simp
                          with_reducible rfl
                        rotate_left
                        · simp only [Act.put, List.setIfInBounds_toArray, List.set_cons_zero, List.set_cons_succ, i64_w, i32_w]
                          rfl
                        refine done_ (done_of HT_.out (by kernel_rfl)) ?_
                        go_upto_region 13 with (fail)
                        go_cut [76] (fun v76 wc => ∃ (kq : Nat) (x76_34 : Bool), v76 = .bool x76_34 ∧ Aside0 (stockyardlaw24_ChunkerSuffix.j2 kq t184 t189 t197 x76_34 = some r) ∧ Aside0 (kq ≤ kj23) ∧ Aside0 (Kd.R (Kd.int .i64) 3 wc w.heap.size (fun k_ => some k_ ≠ (v198 : Value).ownBlock) (.slice (some ad192) t184.length co25) t184) ∧ Aside0 (Kd.R (Kd.int .i64) 3 wc w.heap.size (fun k_ => some k_ ≠ ((.slice (some ad192) t184.length co25) : Value).ownBlock) v198 t197) ∧ Aside0 (wc.heap[gb179]? = some (.cells #[.int .i64 t174, .int .i64 t175, .int .i64 t176, .int .u64 t177] 28 (0, 0))) ∧ Aside0 (Kd.C (Kd.int .u8) wc A37 y193.length y193) ∧ Aside0 (Below w.heap.size w wc))
                        case first =>
                          have H := HC35.out
                          clear HC35
                          by_cases c39 : t200 = true
                          · subst c39
                            have H1 : (stockyardlaw24_ChunkerSuffix.j2 kj23 t184 t189 t197 ((t197.length : Int) != (wrap64 ((wrap64 ((t184.length : Int) - t189)) - 1)))) = some r := by rw [if_pos rfl] at H; exact H
                            clear H
                            have H := H1
                            clear H1
                            have H' := Aside0.mk H
                            clear H
                            obtain ⟨Ao40, co40, eo40⟩ := Kd.R_slice HO199.out
                            subst eo40
                            go_wp2
                            go_meet
                            case rel => exact ⟨_, (((t197.length : Int) != (wrap64 ((wrap64 ((t184.length : Int) - t189)) - 1)))), (by first | rfl | (simp; done) | (simp [*]; done)), H', ⟨by have := HJ5.out; have := HJ23.out; first | omega | exact Nat.le_refl _⟩, ⟨by (with_reducible repeat (first | apply Kd.R_alloc | apply Kd.R_drewN | apply Kd.R_drew)); exact Kd.R_mono HO_8.out (fun _ hk => hk.2)⟩, ⟨by (with_reducible repeat (first | apply Kd.R_alloc | apply Kd.R_drewN | apply Kd.R_drew)); exact Kd.R_mono HO199.out (fun _ hk => hk.2)⟩, ⟨by (with_reducible repeat (first | refine blk_drewN ?_ _ | refine blk_drew ?_ | refine blk_alloc ?_ _)); exact BK179.out⟩, ⟨by repeat (first | (with_reducible exact HR196.out) | (with_reducible refine Kd.C_alloc ?_ _) | (with_reducible refine Kd.C_drewN ?_ _) | (with_reducible refine Kd.C_drew ?_) | exact HR196.out)⟩, ⟨by repeat (first | (with_reducible first | exact HB.out | apply below_alloc | apply pw_below_drewN | apply below_drew1 | refine below_set ?_ GE179.out) | exact HB.out)⟩⟩
                          · replace c39 := Bool.eq_false_iff.mpr c39
                            subst c39
                            have H1 : (stockyardlaw24_ChunkerSuffix.j2 kj23 t184 t189 t197 true) = some r := by rw [if_neg (show ¬ (false = true) by decide)] at H; exact H
                            clear H
                            have H := H1
                            clear H1
                            have H' := Aside0.mk H
                            clear H
                            go_wp2
                            go_meet
                            case rel => exact ⟨_, (true), (by first | rfl | (simp; done) | (simp [*]; done)), H', ⟨by have := HJ5.out; have := HJ23.out; first | omega | exact Nat.le_refl _⟩, ⟨by (with_reducible repeat (first | apply Kd.R_alloc | apply Kd.R_drewN | apply Kd.R_drew)); exact Kd.R_mono HO_8.out (fun _ hk => hk.2)⟩, ⟨by (with_reducible repeat (first | apply Kd.R_alloc | apply Kd.R_drewN | apply Kd.R_drew)); exact Kd.R_mono HO199.out (fun _ hk => hk.2)⟩, ⟨by (with_reducible repeat (first | refine blk_drewN ?_ _ | refine blk_drew ?_ | refine blk_alloc ?_ _)); exact BK179.out⟩, ⟨by repeat (first | (with_reducible exact HR196.out) | (with_reducible refine Kd.C_alloc ?_ _) | (with_reducible refine Kd.C_drewN ?_ _) | (with_reducible refine Kd.C_drew ?_) | exact HR196.out)⟩, ⟨by repeat (first | (with_reducible first | exact HB.out | apply below_alloc | apply pw_below_drewN | apply below_drew1 | refine below_set ?_ GE179.out) | exact HB.out)⟩⟩
                        case rest =>
                          clear HC35
                          try clear c1
                          try clear p1
                          try clear q1
                          try clear hx1
                          try clear c2
                          try clear p2
                          try clear c3
                          try clear q3
                          try clear p6
                          try clear c10
                          try clear c14
                          try clear c15
                          try clear c16
                          try clear c17
                          try clear c18
                          try clear p19
                          try clear q19
                          try clear hx19
                          try clear c20
                          try clear c21
                          try clear c21b0
                          try clear c21b1
                          try clear c21b2
                          try clear c26
                          try clear c26b0
                          try clear c27
                          try clear c27b0
                          try clear c28
                          try clear c28b0
                          try clear c29
                          try clear c30
                          try clear c30b0
                          try clear c31
                          try clear c31b0
                          try clear c32
                          try clear c32b0
                          try clear c32b1
                          try clear c33
                          try clear c33b0
                          try clear c33b1
                          try clear c37
                          try clear q37
                          try clear c39
                          try clear hcz11_0
                          try clear hcz11_1
                          try clear hcz11_2
                          try clear hcz11_3
                          try clear hcz13_0
                          try clear hcz13_1
                          try clear hcz13_2
                          try clear hcz13_3
                          try clear hfz11_0
                          try clear hfz11_1
                          try clear hfz11_2
                          try clear hfz11_3
                          try clear hfz13_0
                          try clear hfz13_1
                          try clear hfz13_2
                          try clear hfz13_3
                          try clear hx190_0
                          try clear hx191_0
                          try clear hx192_0
                          try clear p1
                          try clear p19
                          try clear p190
                          try clear p191
                          try clear p192
                          try clear p2
                          try clear q037
                          try clear q1
                          try clear q19
                          try clear q190
                          try clear q191
                          try clear q192
                          try clear q37
                          obtain ⟨kq, x76_34, rfl, HA, HJ34, HO_8, HO_11, BK179, HR196, HB⟩ := hcut
                          cases kq with
                          | zero => exact absurd HA.out (by simp [stockyardlaw24_ChunkerSuffix.j2])
                          | succ kj34 =>
                            have H := HA.out
                            clear HA
                            simp only [stockyardlaw24_ChunkerSuffix.j2] at H
                            by_cases c41 : x76_34 = true
                            · subst c41
                              have H1 : (some false) = some r := by rw [if_pos rfl] at H; exact H
                              clear H
                              have H := H1
                              clear H1
                              exact absurd ((Option.some.inj H).trans HRT.out) (by decide)
                            · replace c41 := Bool.eq_false_iff.mpr c41
                              subst c41
                              have H1 : (stockyardlaw24_ChunkerSuffix.l0 kj34 t184 t189 t197 0) = some r := by rw [if_neg (show ¬ (false = true) by decide)] at H; exact H
                              clear H
                              have H := H1
                              clear H1
                              have H' := Aside0.mk H
                              clear H
                              go_wp2
                              go_loopg [13] kj34 (fun kq v13 w' => ∃ (x13_4 : Int), v13 = .int .i64 x13_4 ∧ Aside0 (stockyardlaw24_ChunkerSuffix.l0 kq t184 t189 t197 x13_4 = some r) ∧ Aside0 (kq ≤ kj34) ∧ Aside0 (Kd.R (Kd.int .i64) 3 w' w.heap.size (fun k_ => some k_ ≠ (v198 : Value).ownBlock) (.slice (some ad192) t184.length co25) t184) ∧ Aside0 (Kd.R (Kd.int .i64) 3 w' w.heap.size (fun k_ => some k_ ≠ ((.slice (some ad192) t184.length co25) : Value).ownBlock) v198 t197) ∧ Aside0 (w'.heap[gb179]? = some (.cells #[.int .i64 t174, .int .i64 t175, .int .i64 t176, .int .u64 t177] 28 (0, 0))) ∧ Aside0 (Kd.C (Kd.int .u8) w' A37 y193.length y193) ∧ Aside0 (Below w.heap.size w w'))
                              case atStart => exact ⟨(0), (by first | rfl | (simp; done) | (simp [*]; done)), H', ⟨Nat.le_refl _⟩, ⟨by (with_reducible repeat (first | apply Kd.R_alloc | apply Kd.R_drewN | apply Kd.R_drew)); exact HO_8.out⟩, ⟨by (with_reducible repeat (first | apply Kd.R_alloc | apply Kd.R_drewN | apply Kd.R_drew)); exact HO_11.out⟩, ⟨by (with_reducible repeat (first | refine blk_drewN ?_ _ | refine blk_drew ?_ | refine blk_alloc ?_ _)); exact BK179.out⟩, ⟨by repeat (first | (with_reducible exact HR196.out) | (with_reducible refine Kd.C_alloc ?_ _) | (with_reducible refine Kd.C_drewN ?_ _) | (with_reducible refine Kd.C_drew ?_) | exact HR196.out)⟩, ⟨by repeat (first | (with_reducible first | exact HB.out | apply below_alloc | apply pw_below_drewN | apply below_drew1 | refine below_set ?_ GE179.out) | exact HB.out)⟩⟩
                              case round =>
                                clear H'
                                try clear c1
                                try clear p1
                                try clear q1
                                try clear hx1
                                try clear c2
                                try clear p2
                                try clear c3
                                try clear q3
                                try clear c4
                                try clear p6
                                try clear c10
                                try clear c14
                                try clear c15
                                try clear c16
                                try clear c17
                                try clear c18
                                try clear p19
                                try clear q19
                                try clear hx19
                                try clear c20
                                try clear c21
                                try clear c21b0
                                try clear c21b1
                                try clear c21b2
                                try clear c26
                                try clear c26b0
                                try clear c27
                                try clear c27b0
                                try clear c28
                                try clear c28b0
                                try clear c29
                                try clear c30
                                try clear c30b0
                                try clear c31
                                try clear c31b0
                                try clear c32
                                try clear c32b0
                                try clear c32b1
                                try clear c33
                                try clear c33b0
                                try clear c33b1
                                try clear c37
                                try clear q37
                                try clear c39
                                try clear c41
                                try clear hcz11_0
                                try clear hcz11_1
                                try clear hcz11_2
                                try clear hcz11_3
                                try clear hcz13_0
                                try clear hcz13_1
                                try clear hcz13_2
                                try clear hcz13_3
                                try clear hfz11_0
                                try clear hfz11_1
                                try clear hfz11_2
                                try clear hfz11_3
                                try clear hfz13_0
                                try clear hfz13_1
                                try clear hfz13_2
                                try clear hfz13_3
                                try clear hx190_0
                                try clear hx191_0
                                try clear hx192_0
                                try clear p1
                                try clear p19
                                try clear p190
                                try clear p191
                                try clear p192
                                try clear p2
                                try clear p6
                                try clear q037
                                try clear q1
                                try clear q19
                                try clear q190
                                try clear q191
                                try clear q192
                                try clear q3
                                try clear q37
                                obtain ⟨x13_4, rfl, HA, HK4, HO_8, HO_11, BK179, HR196, HB⟩ := hrel
                                cases gk with
                                | zero => exact absurd HA.out (by simp [stockyardlaw24_ChunkerSuffix.l0])
                                | succ k4 =>
                                  have H := HA.out
                                  clear HA
                                  simp only [stockyardlaw24_ChunkerSuffix.l0] at H
                                  by_cases c42 : x13_4 < (t197.length : Int)
                                  · rw [if_pos c42] at H
                                    have c42b0 : decide (x13_4 < (t197.length : Int)) = true := decide_eq_true c42
                                    clear c42
                                    by_cases c43 : 0 ≤ x13_4
                                    · rw [if_pos c43] at H
                                      have c43b0 : decide (0 ≤ x13_4) = true := decide_eq_true c43
                                      clear c43
                                      by_cases c44 : 0 ≤ t189
                                      · rw [if_pos c44] at H
                                        have c44b0 : decide (0 ≤ t189) = true := decide_eq_true c44
                                        clear c44
                                        by_cases c45 : t189 < (t184.length : Int)
                                        · rw [if_pos c45] at H
                                          have c45b0 : decide (t189 < (t184.length : Int)) = true := decide_eq_true c45
                                          clear c45
                                          obtain ⟨ji46, hji46⟩ : ∃ j_ : Int, (wrap64 ((wrap64 (t189 + 1)) + x13_4)) = j_ := ⟨_, rfl⟩
                                          replace H : (if 0 ≤ (ji46) then (if (ji46) < (t184.length : Int) then (if (wrap64 ((rd t197 x13_4) + (rd t184 t189))) = (rd t184 (ji46)) then (stockyardlaw24_ChunkerSuffix.l0 k4 t184 t189 t197 (wrap64 (x13_4 + 1))) else (some false)) else (none)) else (none)) = some r := by first | (rw [hji46] at H; exact H) | (simp only [hji46] at H ⊢; exact H)
                                          have hji46w : (IntKind.i64.wrap ((wrap64 (t189 + 1)) + x13_4)) = ji46 := (i64_w _).trans hji46
                                          by_cases c47 : 0 ≤ (ji46)
                                          · rw [if_pos c47] at H
                                            have c47b0 : decide (0 ≤ (ji46)) = true := decide_eq_true c47
                                            clear c47
                                            by_cases c48 : (ji46) < (t184.length : Int)
                                            · rw [if_pos c48] at H
                                              have c48b0 : decide ((ji46) < (t184.length : Int)) = true := decide_eq_true c48
                                              clear c48
                                              by_cases c49 : (wrap64 ((rd t197 x13_4) + (rd t184 t189))) = (rd t184 (ji46))
                                              · rw [if_pos c49] at H
                                                have c49b0 : ((wrap64 ((rd t197 x13_4) + (rd t184 t189))) == (rd t184 (ji46))) = true := beq_iff_eq.mpr c49
                                                have c49b1 : ((wrap64 ((rd t197 x13_4) + (rd t184 t189))) != (rd t184 (ji46))) = false := bne_eq_false_iff_eq.mpr c49
                                                clear c49
                                                have H' := Aside0.mk H
                                                clear H
                                                obtain ⟨Ao50, co50, eo50⟩ := Kd.R_slice HO_11.out
                                                subst eo50
                                                try go_wp2
                                                have n0_ := Aside0.mk (Kd.R_drew HO_8.out)
                                                have n1_ := Aside0.mk (Kd.R_drew HO_11.out)
                                                have n2_ := Aside0.mk (blk_drew BK179.out)
                                                have n3_ := Aside0.mk (Kd.C_drew HR196.out)
                                                have n4_ := Aside0.mk (below_drew1 HB.out)
                                                clear HO_8
                                                clear HO_11
                                                clear BK179
                                                clear HR196
                                                clear HB
                                                have HO_8 := n0_
                                                have HO_11 := n1_
                                                have BK179 := n2_
                                                have HR196 := n3_
                                                have HB := n4_
                                                clear n0_ n1_ n2_ n3_ n4_
                                                have p201 : 0 ≤ (x13_4 : Int) := of_decide_eq_true (by first | (with_reducible assumption) | assumption)
                                                have q201 : x13_4 < (t197.length : Int) := of_decide_eq_true (by first | (with_reducible assumption) | assumption)
                                                obtain ⟨ad201, e201, hx201_0⟩ := Kd.at_int (Kd.R_reads' HO_11.out).2.2 x13_4 p201 q201
                                                cases e201
                                                replace p201 := eq_true p201
                                                replace q201 := eq_true q201
                                                have p202 : 0 ≤ (t189 : Int) := of_decide_eq_true (by first | (with_reducible assumption) | assumption)
                                                have q202 : t189 < (t184.length : Int) := of_decide_eq_true (by first | (with_reducible assumption) | assumption)
                                                obtain ⟨ad202, e202, hx202_0⟩ := Kd.at_int (Kd.R_reads' HO_8.out).2.2 t189 p202 q202
                                                obtain rfl : ad192 = ad202 := (by injection e202)
                                                replace p202 := eq_true p202
                                                replace q202 := eq_true q202
                                                have p203 : 0 ≤ ((ji46) : Int) := of_decide_eq_true (by first | (with_reducible assumption) | assumption)
                                                have q203 : (ji46) < (t184.length : Int) := of_decide_eq_true (by first | (with_reducible assumption) | assumption)
                                                obtain ⟨ad203, e203, hx203_0⟩ := Kd.at_int (Kd.R_reads' HO_8.out).2.2 (ji46) p203 q203
                                                obtain rfl : ad192 = ad203 := (by injection e203)
                                                replace p203 := eq_true p203
                                                replace q203 := eq_true q203
                                                refine start_ (n := 17) (S := fun w' => w'.cell? (ad201.add (x13_4).toNat) = some (.int .i64 (rd t197 x13_4)) ∧ w'.cell? (ad192.add (t189).toNat) = some (.int .i64 (rd t184 t189)) ∧ w'.cell? (ad192.add ((ji46)).toNat) = some (.int .i64 (rd t184 (ji46)))) (ds := []) #[false, false, false, false, false, false, false, false, false, false, false, false, false, false, false, false, false] (by kernel_rfl) rfl rfl ⟨hx201_0, hx202_0, hx203_0⟩ (fun hHeld => ?_); refine with_tabW stockyardlaw24_ChunkerSuffix.tab18 stockyardlaw24_ChunkerSuffix.bits18 (fun HT_ HW_ => ?_)
                                                generalize wr.drew = w51 at HO_8 HO_11 BK179 HR196 HB hx201_0 hx202_0 hx203_0 hHeld ⊢
                                                refine pure_ (i := 0) (N := some 83) (v := ?_) (a' := ?_) #[true, false, false, false, false, false, false, false, false, false, false, false, false, false, false, false, false] rfl rfl (any_of HT_.out (by kernel_rfl)) (fun _ _ _ h => h) (Or.inl ⟨by rfl, ?_⟩) ?_ ?_
                                                rotate_left
                                                · intro w'
                                                  go_simp
                                                  with_reducible rfl
                                                rotate_left
                                                · simp only [Act.put, List.setIfInBounds_toArray, List.set_cons_zero, List.set_cons_succ, i64_w, i32_w]
                                                  rfl
                                                refine pure_ (i := 1) (N := some 84) (v := ?_) (a' := ?_) #[true, true, false, false, false, false, false, false, false, false, false, false, false, false, false, false, false] rfl rfl (any_of HT_.out (by kernel_rfl)) (fun _ _ _ h => h) (Or.inl ⟨by rfl, ?_⟩) ?_ ?_
                                                rotate_left
                                                · intro w'
                                                  go_simp
                                                  with_reducible rfl
                                                rotate_left
                                                · simp only [Act.put, List.setIfInBounds_toArray, List.set_cons_zero, List.set_cons_succ, i64_w, i32_w]
                                                  rfl
                                                refine pure_ (i := 2) (N := some 85) (v := ?_) (a' := ?_) #[true, true, true, false, false, false, false, false, false, false, false, false, false, false, false, false, false] rfl rfl (any_of HT_.out (by kernel_rfl)) (fun _ _ _ h => h) (Or.inl ⟨by rfl, ?_⟩) ?_ ?_
                                                rotate_left
                                                · intro w'
                                                  go_simp
                                                  with_reducible rfl
                                                rotate_left
                                                · simp only [Act.put, List.setIfInBounds_toArray, List.set_cons_zero, List.set_cons_succ, i64_w, i32_w]
                                                  rfl
                                                refine pure_ (i := 4) (N := some 87) (v := ?_) (a' := ?_) #[true, true, true, false, true, false, false, false, false, false, false, false, false, false, false, false, false] rfl rfl (any_of HT_.out (by kernel_rfl)) (fun _ _ _ h => h) (Or.inl ⟨by rfl, ?_⟩) ?_ ?_
                                                rotate_left
                                                · intro w'
                                                  go_simp
                                                  with_reducible rfl
                                                rotate_left
                                                · simp only [Act.put, List.setIfInBounds_toArray, List.set_cons_zero, List.set_cons_succ, i64_w, i32_w]
                                                  rfl
                                                refine pure_ (i := 5) (N := some 88) (v := ?_) (a' := ?_) #[true, true, true, false, true, true, false, false, false, false, false, false, false, false, false, false, false] rfl rfl (any_of HT_.out (by kernel_rfl)) (fun _ _ _ h => h) (Or.inl ⟨by rfl, ?_⟩) ?_ ?_
                                                rotate_left
                                                · intro w'
                                                  go_simp
                                                  with_reducible rfl
                                                rotate_left
                                                · simp only [Act.put, List.setIfInBounds_toArray, List.set_cons_zero, List.set_cons_succ, i64_w, i32_w]
                                                  rfl
                                                refine pure_ (i := 6) (N := some 89) (v := ?_) (a' := ?_) #[true, true, true, false, true, true, true, false, false, false, false, false, false, false, false, false, false] rfl rfl (any_of HT_.out (by kernel_rfl)) (fun _ _ _ h => h) (Or.inl ⟨by rfl, ?_⟩) ?_ ?_
                                                rotate_left
                                                · intro w'
                                                  go_simp
                                                  with_reducible rfl
                                                rotate_left
                                                · simp only [Act.put, List.setIfInBounds_toArray, List.set_cons_zero, List.set_cons_succ, i64_w, i32_w]
                                                  rfl
                                                refine pure_ (i := 9) (N := some 92) (v := ?_) (a' := ?_) #[true, true, true, false, true, true, true, false, false, true, false, false, false, false, false, false, false] rfl rfl (any_of HT_.out (by kernel_rfl)) (fun _ _ _ h => h) (Or.inl ⟨by rfl, ?_⟩) ?_ ?_
                                                rotate_left
                                                · intro w'
                                                  go_simp
                                                  with_reducible rfl
                                                rotate_left
                                                · simp only [Act.put, List.setIfInBounds_toArray, List.set_cons_zero, List.set_cons_succ, i64_w, i32_w]
                                                  rfl
                                                refine pure_ (i := 10) (N := some 93) (v := ?_) (a' := ?_) #[true, true, true, false, true, true, true, false, false, true, true, false, false, false, false, false, false] rfl rfl (any_of HT_.out (by kernel_rfl)) (fun _ _ _ h => h) (Or.inl ⟨by rfl, ?_⟩) ?_ ?_
                                                rotate_left
                                                · intro w'
                                                  go_simp
                                                  with_reducible rfl
                                                rotate_left
                                                · simp only [Act.put, List.setIfInBounds_toArray, List.set_cons_zero, List.set_cons_succ, i64_w, i32_w]
                                                  rfl
                                                refine pure_ (i := 11) (N := some 94) (v := ?_) (a' := ?_) #[true, true, true, false, true, true, true, false, false, true, true, true, false, false, false, false, false] rfl rfl (any_of HT_.out (by kernel_rfl)) (fun _ _ _ h => h) (Or.inl ⟨by rfl, ?_⟩) ?_ ?_
                                                rotate_left
                                                · intro w'
                                                  go_simp
                                                  with_reducible rfl
                                                rotate_left
                                                · simp only [Act.put, List.setIfInBounds_toArray, List.set_cons_zero, List.set_cons_succ, i64_w, i32_w]
                                                  rfl
                                                refine pure_ (i := 12) (N := some 95) (v := ?_) (a' := ?_) #[true, true, true, false, true, true, true, false, false, true, true, true, true, false, false, false, false] rfl rfl (any_of HT_.out (by kernel_rfl)) (fun _ _ _ h => h) (Or.inl ⟨by rfl, ?_⟩) ?_ ?_
                                                rotate_left
                                                · intro w'
                                                  go_simp
                                                  with_reducible rfl
                                                rotate_left
                                                · simp only [Act.put, List.setIfInBounds_toArray, List.set_cons_zero, List.set_cons_succ, i64_w, i32_w]
                                                  rfl
                                                refine pure_ (i := 13) (N := some 96) (v := ?_) (a' := ?_) #[true, true, true, false, true, true, true, false, false, true, true, true, true, true, false, false, false] rfl rfl (any_of HT_.out (by kernel_rfl)) (fun _ _ _ h => h) (Or.inl ⟨by rfl, ?_⟩) ?_ ?_
                                                rotate_left
                                                · intro w'
                                                  go_simp
                                                  with_reducible rfl
                                                rotate_left
                                                · simp only [Act.put, List.setIfInBounds_toArray, List.set_cons_zero, List.set_cons_succ, i64_w, i32_w]
                                                  rfl
                                                refine pure_ (i := 14) (N := some 97) (v := ?_) (a' := ?_) #[true, true, true, false, true, true, true, false, false, true, true, true, true, true, true, false, false] rfl rfl (any_of HT_.out (by kernel_rfl)) (fun _ _ _ h => h) (Or.inl ⟨by rfl, ?_⟩) ?_ ?_
                                                rotate_left
                                                · intro w'
                                                  go_simp
                                                  with_reducible rfl
                                                rotate_left
                                                · simp only [Act.put, List.setIfInBounds_toArray, List.set_cons_zero, List.set_cons_succ, i64_w, i32_w]
                                                  rfl
                                                refine take_ (i := 3) (N := some 86) (v := ?_) (a' := ?_) #[true, true, true, true, true, true, true, false, false, true, true, true, true, true, true, false, false] rfl rfl (take_ofW HT_.out HW_.out (by kernel_rfl)) (fun _ _ _ h => h) (Or.inl ⟨by rfl, ?_⟩) hHeld ?_ ?_
                                                rotate_left
                                                · rintro w' ⟨s0, s1, s2⟩
                                                  go_simp
                                                  with_reducible rfl
                                                rotate_left
                                                · simp only [Act.put, List.setIfInBounds_toArray, List.set_cons_zero, List.set_cons_succ, i64_w, i32_w]
                                                  rfl
                                                refine take_ (i := 7) (N := some 90) (v := ?_) (a' := ?_) #[true, true, true, true, true, true, true, true, false, true, true, true, true, true, true, false, false] rfl rfl (take_ofW HT_.out HW_.out (by kernel_rfl)) (fun _ _ _ h => h) (Or.inl ⟨by rfl, ?_⟩) hHeld ?_ ?_
                                                rotate_left
                                                · rintro w' ⟨s0, s1, s2⟩
                                                  go_simp
                                                  with_reducible rfl
                                                rotate_left
                                                · simp only [Act.put, List.setIfInBounds_toArray, List.set_cons_zero, List.set_cons_succ, i64_w, i32_w]
                                                  rfl
                                                refine pure_ (i := 8) (N := some 91) (v := ?_) (a' := ?_) #[true, true, true, true, true, true, true, true, true, true, true, true, true, true, true, false, false] rfl rfl (any_of HT_.out (by kernel_rfl)) (fun _ _ _ h => h) (Or.inl ⟨by rfl, ?_⟩) ?_ ?_
                                                rotate_left
                                                · intro w'
                                                  go_simp
                                                  with_reducible rfl
                                                rotate_left
                                                · simp only [Act.put, List.setIfInBounds_toArray, List.set_cons_zero, List.set_cons_succ, i64_w, i32_w]
                                                  rfl
                                                refine take_ (i := 15) (N := some 98) (v := ?_) (a' := ?_) #[true, true, true, true, true, true, true, true, true, true, true, true, true, true, true, true, false] rfl rfl (take_ofW HT_.out HW_.out (by kernel_rfl)) (fun _ _ _ h => h) (Or.inl ⟨by rfl, ?_⟩) hHeld ?_ ?_
                                                rotate_left
                                                · rintro w' ⟨s0, s1, s2⟩
                                                  go_simp
                                                  with_reducible rfl
                                                rotate_left
                                                · simp only [Act.put, List.setIfInBounds_toArray, List.set_cons_zero, List.set_cons_succ, i64_w, i32_w]
                                                  rfl
                                                refine pure_ (i := 16) (N := some 99) (v := ?_) (a' := ?_) #[true, true, true, true, true, true, true, true, true, true, true, true, true, true, true, true, true] rfl rfl (any_of HT_.out (by kernel_rfl)) (fun _ _ _ h => h) (Or.inl ⟨by rfl, ?_⟩) ?_ ?_
                                                rotate_left
                                                · intro w'
                                                  go_simp
                                                  with_reducible rfl
                                                rotate_left
                                                · simp only [Act.put, List.setIfInBounds_toArray, List.set_cons_zero, List.set_cons_succ, i64_w, i32_w]
                                                  rfl
                                                refine done_ (done_of HT_.out (by kernel_rfl)) ?_
                                                try go_wp2
                                                go_roundg k4
                                                case measure => have := HJ5.out; have := HJ23.out; have := HJ34.out; have := HK4.out; omega
                                                case rel => exact ⟨(wrap64 (x13_4 + 1)), (by first | rfl | (simp; done) | (simp [*]; done)), H', ⟨by have := HJ5.out; have := HJ23.out; have := HJ34.out; have := HK4.out; omega⟩, ⟨by (with_reducible repeat (first | apply Kd.R_alloc | apply Kd.R_drewN | apply Kd.R_drew)); exact HO_8.out⟩, ⟨by (with_reducible repeat (first | apply Kd.R_alloc | apply Kd.R_drewN | apply Kd.R_drew)); exact HO_11.out⟩, ⟨by (with_reducible repeat (first | refine blk_drewN ?_ _ | refine blk_drew ?_ | refine blk_alloc ?_ _)); exact BK179.out⟩, ⟨by repeat (first | (with_reducible exact HR196.out) | (with_reducible refine Kd.C_alloc ?_ _) | (with_reducible refine Kd.C_drewN ?_ _) | (with_reducible refine Kd.C_drew ?_) | exact HR196.out)⟩, ⟨by repeat (first | (with_reducible first | exact HB.out | apply below_alloc | apply pw_below_drewN | apply below_drew1 | refine below_set ?_ GE179.out) | exact HB.out)⟩⟩
                                              · rw [if_neg c49] at H
                                                have c49b0 : ((wrap64 ((rd t197 x13_4) + (rd t184 t189))) == (rd t184 (ji46))) = false := beq_eq_false_iff_ne.mpr c49
                                                have c49b1 : ((wrap64 ((rd t197 x13_4) + (rd t184 t189))) != (rd t184 (ji46))) = true := bne_iff_ne.mpr c49
                                                exact absurd ((Option.some.inj H).trans HRT.out) (by decide)
                                            · rw [if_neg c48] at H
                                              exact absurd H (by simp)
                                          · rw [if_neg c47] at H
                                            exact absurd H (by simp)
                                        · rw [if_neg c45] at H
                                          exact absurd H (by simp)
                                      · rw [if_neg c44] at H
                                        exact absurd H (by simp)
                                    · rw [if_neg c43] at H
                                      exact absurd H (by simp)
                                  · rw [if_neg c42] at H
                                    have c42b0 : decide (x13_4 < (t197.length : Int)) = false := decide_eq_false c42
                                    clear c42
                                    obtain rfl := Option.some.inj H
                                    obtain ⟨Ao52, co52, eo52⟩ := Kd.R_slice HO_11.out
                                    subst eo52
                                    go_wp2
                                    go_ret
                                    exact ⟨by first | rfl | (simp [errW_none, errW_some] <;> rfl) | (simp [*, errW_none, errW_some] <;> rfl), by repeat (first | (with_reducible first | exact HB.out | apply below_alloc | apply pw_below_drewN | apply below_drew1 | refine below_set ?_ GE179.out) | exact HB.out)⟩
                      · rw [if_neg c33] at H
                        exact absurd H (by simp)
                    · rw [if_neg c32] at H
                      exact absurd H (by simp)
                  · rw [if_neg c31] at H
                    exact absurd H (by simp)
                · rw [if_neg c30] at H
                  exact absurd H (by simp)

/-- THE ONE PURE STATEMENT of stockyardlaw24_ChunkerSuffix: yours. -/
def stockyardlaw24_ChunkerSuffix.Pure : Prop := ∀ (l0 : List Int) (a1 : Int), l0.length ≤ maxLen → l0.length * 8 ≤ 140737488351232 → (∀ x ∈ l0, (Lit.int .i64 x).wf = true) → (Lit.int .i64 a1).wf = true → ∃ k, stockyardlaw24_ChunkerSuffix.f k l0 a1 = some true
theorem stockyardlaw24_ChunkerSuffix.walk (P : stockyardlaw24_ChunkerSuffix.Pure) (a0 : Option Addr) (len0 cap0 : Nat) (z0 : List Int) (a1 : Int) (w : World) (w0 : (a0 = none ∧ len0 = 0 ∧ cap0 = 0 ∧ z0 = []) ∨ ∃ x, a0 = some x ∧ len0 ≤ cap0 ∧ cap0 ≤ maxLen ∧ z0.length = cap0 ∧ (∀ i, i < z0.length → w.cell? (x.add i) = some (.int .i64 (z0.getD i 0))) ∧ ∀ n ∈ z0, (Lit.int .i64 n).wf = true) (y0 : len0 * 8 ≤ 140737488351232) (w1 : (Lit.int .i64 a1).wf = true) :
    Calls Try.prog 3 #[.slice a0 len0 cap0, .int .i64 a1] w fun e w' => e = .returned (.bool true) ∧ Below w.heap.size w w' := by
  obtain ⟨l0, rfl, hr0, hm0, hw0, hc0⟩ := ReadsInt.ofRowC w0
  obtain ⟨k, h⟩ := P l0 a1 hm0 y0 hw0 w1
  refine (stockyardlaw24_ChunkerSuffix.calls k _ _ l0 a1 true w (Kd.C_of_reads (d := (0 : Int)) (h1 := fun _ => rfl) hr0) hc0 h rfl).mono ?_
  rintro e w' ⟨rfl, hd⟩
  exact ⟨rfl, hd⟩

end Go.Proofs.Ytgfodmpdnhebjaa.P
