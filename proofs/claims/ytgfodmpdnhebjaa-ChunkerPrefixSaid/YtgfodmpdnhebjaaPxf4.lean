-- Printed by a program (pr.py over the kit's print) out of the translation.
import Derived.Test.YtgfodmpdnhebjaaPx0
import Derived.Test.YtgfodmpdnhebjaaPxf16
import Derived.Test.YtgfodmpdnhebjaaPxf18
import Derived.Test.YtgfodmpdnhebjaaPxf19
import Derived.Test.YtgfodmpdnhebjaaPxf35
namespace Go.Proofs.Ytgfodmpdnhebjaa.P
open Go.RowKit Go.Proofs.YtgfodmpdnhebjaaW.PrintWords Go.Proofs.YtgfodmpdnhebjaaW.PrintLast Go.Proofs.YtgfodmpdnhebjaaW.PrintMore
attribute [local go_sem] max2_int min2_int max_two min_two max_three min_three max_four min_four   -- for this text's walks alone
set_option linter.unusedVariables false
set_option linter.unusedSimpArgs false

/-! ### stockyardlaw24_ChunkerPrefix: function 4 -/
mutual
def stockyardlaw24_ChunkerPrefix.j0 : Nat → List Int → List Int → Bool → Option (Bool)
  | 0, _, _, _ => none
  | k + 1, x7, x9, x52 => if x52 = true then (some false) else (stockyardlaw24_ChunkerPrefix.l0 k x7 x9 0)
def stockyardlaw24_ChunkerPrefix.l0 : Nat → List Int → List Int → Int → Option (Bool)
  | 0, _, _, _ => none
  | k + 1, x7, x9, x11 => if (wrap64 (x11 + 1)) < (x7.length : Int) then (if 0 ≤ x11 then (if x11 < (x7.length : Int) then (if x11 < (x9.length : Int) then (if (rd x7 x11) = (rd x9 x11) then (stockyardlaw24_ChunkerPrefix.l0 k x7 x9 (wrap64 (x11 + 1))) else (some false)) else (none)) else (none)) else (none)) else (some true)
end
def stockyardlaw24_ChunkerPrefix.f (k : Nat) (l0 : List Int) : Option (Bool) := (stockyardlaw24_made.f l0 0).bind fun bt209 => ((stockyardlaw24_text.f k l0 bt209.2.2.2.2 90).bind fun bt215 => ((stockyardlaw24_text.f k l0 bt215.2 40).bind fun bt219 => ((stockyardlaw24_ends.f bt209.1 bt209.2.1 bt209.2.2.1 bt209.2.2.2.1 bt215.1).bind fun bt223 => ((stockyardmake_Joined.f k (([bt215.1, bt219.1] : List (List Int)))).bind fun t230 => ((stockyardlaw24_ends.f bt209.1 bt209.2.1 bt209.2.2.1 bt209.2.2.2.1 t230).bind fun bt233 => ((stockyardlaw24_known.f k).bind fun t237 => (if t237 = true then (if bt223.2 = true then (if bt233.2 = true then (stockyardlaw24_ChunkerPrefix.j0 k bt223.1 bt233.1 (decide ((bt233.1.length : Int) < (bt223.1.length : Int)))) else (stockyardlaw24_ChunkerPrefix.j0 k bt223.1 bt233.1 true)) else (stockyardlaw24_ChunkerPrefix.j0 k bt223.1 bt233.1 true)) else (stockyardlaw24_ChunkerPrefix.j0 k bt223.1 bt233.1 true))))))))
theorem stockyardlaw24_ChunkerPrefix.mono_l : ∀ k, (∀ y0 y1 y2, LeO (stockyardlaw24_ChunkerPrefix.j0 k y0 y1 y2) (stockyardlaw24_ChunkerPrefix.j0 (k + 1) y0 y1 y2)) ∧ (∀ y0 y1 y2, LeO (stockyardlaw24_ChunkerPrefix.l0 k y0 y1 y2) (stockyardlaw24_ChunkerPrefix.l0 (k + 1) y0 y1 y2))
  | 0 => ⟨fun _ _ _ r h => by simp [stockyardlaw24_ChunkerPrefix.j0] at h, fun _ _ _ r h => by simp [stockyardlaw24_ChunkerPrefix.l0] at h⟩
  | k + 1 => by
    obtain ⟨ih0, ih1⟩ := stockyardlaw24_ChunkerPrefix.mono_l k
    refine ⟨?_, ?_⟩
    · intro y0 y1 y2
      unfold stockyardlaw24_ChunkerPrefix.j0
      repeat' first
      | (with_reducible exact ih0 _ _ _)
      | (with_reducible exact ih1 _ _ _)
      | (with_reducible exact stockyardlaw24_known.mono _)
      | (with_reducible exact stockyardlaw24_text.mono _ _ _ _)
      | (with_reducible exact stockyardmake_Joined.mono _ _)
      | (with_reducible exact LeO.refl _)
      | (with_reducible exact LeO.none _)
      | (with_reducible refine LeO.ite ?_ ?_)
      | (with_reducible refine LeO.bind ?_ (fun _ => ?_))
      | exact ih0 _ _ _
      | exact ih1 _ _ _
      | exact stockyardlaw24_known.mono _
      | exact stockyardlaw24_text.mono _ _ _ _
      | exact stockyardmake_Joined.mono _ _
      | exact LeO.none _
      | refine LeO.ite ?_ ?_
      | refine LeO.bind ?_ (fun _ => ?_)
    · intro y0 y1 y2
      unfold stockyardlaw24_ChunkerPrefix.l0
      repeat' first
      | (with_reducible exact ih0 _ _ _)
      | (with_reducible exact ih1 _ _ _)
      | (with_reducible exact stockyardlaw24_known.mono _)
      | (with_reducible exact stockyardlaw24_text.mono _ _ _ _)
      | (with_reducible exact stockyardmake_Joined.mono _ _)
      | (with_reducible exact LeO.refl _)
      | (with_reducible exact LeO.none _)
      | (with_reducible refine LeO.ite ?_ ?_)
      | (with_reducible refine LeO.bind ?_ (fun _ => ?_))
      | exact ih0 _ _ _
      | exact ih1 _ _ _
      | exact stockyardlaw24_known.mono _
      | exact stockyardlaw24_text.mono _ _ _ _
      | exact stockyardmake_Joined.mono _ _
      | exact LeO.none _
      | refine LeO.ite ?_ ?_
      | refine LeO.bind ?_ (fun _ => ?_)
theorem stockyardlaw24_ChunkerPrefix.mono : ∀ a0 k, LeO (stockyardlaw24_ChunkerPrefix.f k a0) (stockyardlaw24_ChunkerPrefix.f (k + 1) a0) := by
  intro a0 k
  obtain ⟨ih0, ih1⟩ := stockyardlaw24_ChunkerPrefix.mono_l k
  unfold stockyardlaw24_ChunkerPrefix.f
  repeat' first
      | (with_reducible exact ih0 _ _ _)
      | (with_reducible exact ih1 _ _ _)
      | (with_reducible exact stockyardlaw24_known.mono _)
      | (with_reducible exact stockyardlaw24_text.mono _ _ _ _)
      | (with_reducible exact stockyardmake_Joined.mono _ _)
      | (with_reducible exact LeO.refl _)
      | (with_reducible exact LeO.none _)
      | (with_reducible refine LeO.ite ?_ ?_)
      | (with_reducible refine LeO.bind ?_ (fun _ => ?_))
      | exact ih0 _ _ _
      | exact ih1 _ _ _
      | exact stockyardlaw24_known.mono _
      | exact stockyardlaw24_text.mono _ _ _ _
      | exact stockyardmake_Joined.mono _ _
      | exact LeO.none _
      | refine LeO.ite ?_ ?_
      | refine LeO.bind ?_ (fun _ => ?_)
def stockyardlaw24_ChunkerPrefix.T5 : Bool × List (List Nat × List Nat) := (true, [([], []), ([], []), ([], []), ([1, 2], [1, 2]), ([3], [3]), ([0, 4, 4], [0, 4]), ([5], [5]), ([6], [6]), ([6], [6]), ([7, 5, 0, 1, 2, 3, 4, 5, 6, 7], [7]), ([8, 9, 0, 1, 2, 3, 4, 5, 6, 7, 8, 9], [8])])
def stockyardlaw24_ChunkerPrefix.B5 : List Nat := [0, 0, 0, 6, 14, 31, 63, 127, 127, 255, 1023]
theorem stockyardlaw24_ChunkerPrefix.tab5 : rtab .any (opsOf Try.f4 5) = stockyardlaw24_ChunkerPrefix.T5 := by kernel_rfl
theorem stockyardlaw24_ChunkerPrefix.bits5 : waitsOk stockyardlaw24_ChunkerPrefix.T5.2 stockyardlaw24_ChunkerPrefix.B5 = true := by kernel_rfl
def stockyardlaw24_ChunkerPrefix.T11 : Bool × List (List Nat × List Nat) := (true, [([], []), ([], []), ([0, 1], [0, 1]), ([2], [2]), ([], []), ([], []), ([4, 5], [4, 5]), ([6], [6]), ([3, 7], [3, 7])])
def stockyardlaw24_ChunkerPrefix.B11 : List Nat := [0, 0, 3, 7, 0, 0, 48, 112, 255]
theorem stockyardlaw24_ChunkerPrefix.tab11 : rtab .any (opsOf Try.f4 11) = stockyardlaw24_ChunkerPrefix.T11 := by kernel_rfl
theorem stockyardlaw24_ChunkerPrefix.bits11 : waitsOk stockyardlaw24_ChunkerPrefix.T11.2 stockyardlaw24_ChunkerPrefix.B11 = true := by kernel_rfl
set_option maxHeartbeats 8000000 in
set_option maxRecDepth 100000 in
theorem stockyardlaw24_ChunkerPrefix.calls (k : Nat) (A0 : Option Addr) (c0 : Nat) (l0 : List Int) (r : Bool) (w : World) (hr0 : Kd.C (Kd.int .i64) w A0 l0.length l0) (hc0 : l0.length ≤ c0) (h : stockyardlaw24_ChunkerPrefix.f k l0 = some r) (hrt : r = true) :
    Calls Try.prog 4 #[.slice A0 l0.length c0] w fun e w' => e = .returned (.bool r) ∧ Below w.heap.size w w' := by
  have HRT := Aside0.mk hrt
  clear hrt
  have hu25 := Try.underlying25
  have hu28 := Try.underlying28
  have HR0 := Aside0.mk hr0
  have HC0 := Aside0.mk hc0
  clear hr0 hc0
  have HB := Aside0.mk (Below.refl w.heap.size w)
  have H : ((stockyardlaw24_made.f l0 0).bind fun bt209 => ((stockyardlaw24_text.f k l0 bt209.2.2.2.2 90).bind fun bt215 => ((stockyardlaw24_text.f k l0 bt215.2 40).bind fun bt219 => ((stockyardlaw24_ends.f bt209.1 bt209.2.1 bt209.2.2.1 bt209.2.2.2.1 bt215.1).bind fun bt223 => ((stockyardmake_Joined.f k (([bt215.1, bt219.1] : List (List Int)))).bind fun t230 => ((stockyardlaw24_ends.f bt209.1 bt209.2.1 bt209.2.2.1 bt209.2.2.2.1 t230).bind fun bt233 => ((stockyardlaw24_known.f k).bind fun t237 => (if t237 = true then (if bt223.2 = true then (if bt233.2 = true then (stockyardlaw24_ChunkerPrefix.j0 k bt223.1 bt233.1 (decide ((bt233.1.length : Int) < (bt223.1.length : Int)))) else (stockyardlaw24_ChunkerPrefix.j0 k bt223.1 bt233.1 true)) else (stockyardlaw24_ChunkerPrefix.j0 k bt223.1 bt233.1 true)) else (stockyardlaw24_ChunkerPrefix.j0 k bt223.1 bt233.1 true))))))))) = some r := h
  clear h
  replace H := Option.bind_eq_some_iff.mp H
  obtain ⟨⟨t209, t210, t211, t212, t213⟩, A20, H⟩ := H
  replace H : ((stockyardlaw24_text.f k l0 t213 90).bind fun bt215 => ((stockyardlaw24_text.f k l0 bt215.2 40).bind fun bt219 => ((stockyardlaw24_ends.f t209 t210 t211 t212 bt215.1).bind fun bt223 => ((stockyardmake_Joined.f k (([bt215.1, bt219.1] : List (List Int)))).bind fun t230 => ((stockyardlaw24_ends.f t209 t210 t211 t212 t230).bind fun bt233 => ((stockyardlaw24_known.f k).bind fun t237 => (if t237 = true then (if bt223.2 = true then (if bt233.2 = true then (stockyardlaw24_ChunkerPrefix.j0 k bt223.1 bt233.1 (decide ((bt233.1.length : Int) < (bt223.1.length : Int)))) else (stockyardlaw24_ChunkerPrefix.j0 k bt223.1 bt233.1 true)) else (stockyardlaw24_ChunkerPrefix.j0 k bt223.1 bt233.1 true)) else (stockyardlaw24_ChunkerPrefix.j0 k bt223.1 bt233.1 true)))))))) = some r := H
  have A2 := Aside0.mk A20
  clear A20
  replace H := Option.bind_eq_some_iff.mp H
  obtain ⟨⟨t215, t218⟩, A30, H⟩ := H
  replace H : ((stockyardlaw24_text.f k l0 t218 40).bind fun bt219 => ((stockyardlaw24_ends.f t209 t210 t211 t212 t215).bind fun bt223 => ((stockyardmake_Joined.f k (([t215, bt219.1] : List (List Int)))).bind fun t230 => ((stockyardlaw24_ends.f t209 t210 t211 t212 t230).bind fun bt233 => ((stockyardlaw24_known.f k).bind fun t237 => (if t237 = true then (if bt223.2 = true then (if bt233.2 = true then (stockyardlaw24_ChunkerPrefix.j0 k bt223.1 bt233.1 (decide ((bt233.1.length : Int) < (bt223.1.length : Int)))) else (stockyardlaw24_ChunkerPrefix.j0 k bt223.1 bt233.1 true)) else (stockyardlaw24_ChunkerPrefix.j0 k bt223.1 bt233.1 true)) else (stockyardlaw24_ChunkerPrefix.j0 k bt223.1 bt233.1 true))))))) = some r := H
  have A3 := Aside0.mk A30
  clear A30
  replace H := Option.bind_eq_some_iff.mp H
  obtain ⟨⟨t219, t222⟩, A40, H⟩ := H
  replace H : ((stockyardlaw24_ends.f t209 t210 t211 t212 t215).bind fun bt223 => ((stockyardmake_Joined.f k (([t215, t219] : List (List Int)))).bind fun t230 => ((stockyardlaw24_ends.f t209 t210 t211 t212 t230).bind fun bt233 => ((stockyardlaw24_known.f k).bind fun t237 => (if t237 = true then (if bt223.2 = true then (if bt233.2 = true then (stockyardlaw24_ChunkerPrefix.j0 k bt223.1 bt233.1 (decide ((bt233.1.length : Int) < (bt223.1.length : Int)))) else (stockyardlaw24_ChunkerPrefix.j0 k bt223.1 bt233.1 true)) else (stockyardlaw24_ChunkerPrefix.j0 k bt223.1 bt233.1 true)) else (stockyardlaw24_ChunkerPrefix.j0 k bt223.1 bt233.1 true)))))) = some r := H
  have A4 := Aside0.mk A40
  clear A40
  replace H := Option.bind_eq_some_iff.mp H
  obtain ⟨⟨t223, t226⟩, A50, H⟩ := H
  replace H : ((stockyardmake_Joined.f k (([t215, t219] : List (List Int)))).bind fun t230 => ((stockyardlaw24_ends.f t209 t210 t211 t212 t230).bind fun bt233 => ((stockyardlaw24_known.f k).bind fun t237 => (if t237 = true then (if t226 = true then (if bt233.2 = true then (stockyardlaw24_ChunkerPrefix.j0 k t223 bt233.1 (decide ((bt233.1.length : Int) < (t223.length : Int)))) else (stockyardlaw24_ChunkerPrefix.j0 k t223 bt233.1 true)) else (stockyardlaw24_ChunkerPrefix.j0 k t223 bt233.1 true)) else (stockyardlaw24_ChunkerPrefix.j0 k t223 bt233.1 true))))) = some r := H
  have A5 := Aside0.mk A50
  clear A50
  obtain ⟨y227, hy227⟩ : ∃ y_ : List (List Int), y_ = (([t215, t219] : List (List Int))) := ⟨_, rfl⟩
  replace H : ((stockyardmake_Joined.f k y227).bind fun t230 => ((stockyardlaw24_ends.f t209 t210 t211 t212 t230).bind fun bt233 => ((stockyardlaw24_known.f k).bind fun t237 => (if t237 = true then (if t226 = true then (if bt233.2 = true then (stockyardlaw24_ChunkerPrefix.j0 k t223 bt233.1 (decide ((bt233.1.length : Int) < (t223.length : Int)))) else (stockyardlaw24_ChunkerPrefix.j0 k t223 bt233.1 true)) else (stockyardlaw24_ChunkerPrefix.j0 k t223 bt233.1 true)) else (stockyardlaw24_ChunkerPrefix.j0 k t223 bt233.1 true))))) = some r := by first | (rw [hy227]; with_reducible exact H) | (have H2_ := (Option.bind_some _ _).symm.trans H; rw [hy227]; with_reducible exact H2_) | (have H2_ := (Option.bind_some _ _).symm.trans H; with_reducible exact H2_) | with_reducible exact H | (rw [hy227]; exact H) | exact H
  have Ny227 := Aside0.mk hy227
  clear hy227
  replace H := Option.bind_eq_some_iff.mp H
  obtain ⟨t230, A60, H⟩ := H
  replace H : ((stockyardlaw24_ends.f t209 t210 t211 t212 t230).bind fun bt233 => ((stockyardlaw24_known.f k).bind fun t237 => (if t237 = true then (if t226 = true then (if bt233.2 = true then (stockyardlaw24_ChunkerPrefix.j0 k t223 bt233.1 (decide ((bt233.1.length : Int) < (t223.length : Int)))) else (stockyardlaw24_ChunkerPrefix.j0 k t223 bt233.1 true)) else (stockyardlaw24_ChunkerPrefix.j0 k t223 bt233.1 true)) else (stockyardlaw24_ChunkerPrefix.j0 k t223 bt233.1 true)))) = some r := H
  have A6 := Aside0.mk A60
  clear A60
  replace H := Option.bind_eq_some_iff.mp H
  obtain ⟨⟨t233, t236⟩, A70, H⟩ := H
  replace H : ((stockyardlaw24_known.f k).bind fun t237 => (if t237 = true then (if t226 = true then (if t236 = true then (stockyardlaw24_ChunkerPrefix.j0 k t223 t233 (decide ((t233.length : Int) < (t223.length : Int)))) else (stockyardlaw24_ChunkerPrefix.j0 k t223 t233 true)) else (stockyardlaw24_ChunkerPrefix.j0 k t223 t233 true)) else (stockyardlaw24_ChunkerPrefix.j0 k t223 t233 true))) = some r := H
  have A7 := Aside0.mk A70
  clear A70
  have HC8 := Aside0.mk H
  clear H
  go_enter Try.func4, Try.ntmps4
  try go_wp2_with (first | ((with_reducible refine gate_dst (N := 14) rfl ?_); (try (refine gate_guard (by rfl) ?_; dsimp only)); refine box_event ?hg (N := 14) ?hd (cs := #[.slice A0 l0.length c0, .int .i64 0]) (t := 25) ?hr ?_; (case hd => rfl); (case hg => rfl); (case hr => first | (go_simp; done) | (go_simp; rfl)); intro gb208 hg w9 hbox hb; have n0_ := Aside0.mk (below_step (by repeat (first | (with_reducible first | exact HB.out | apply below_alloc | apply pw_below_drewN | apply below_drew1) | exact HB.out)) hb); have n1_ := Aside0.mk ((by rw [hg]; exact (below_size (by repeat (first | (with_reducible first | exact HB.out | apply below_alloc | apply pw_below_drewN | apply below_drew1) | exact HB.out))) : w.heap.size ≤ gb208)); have n2_ := Aside0.mk ((by rw [hg]; exact (below_size (by repeat (first | (with_reducible first | exact HB.out | apply below_alloc | apply pw_below_drewN | apply below_drew1) | exact HB.out))) : w.heap.size ≤ gb208)); have n3_ := Aside0.mk ((show IsS25 w w9 gb208 l0 0 from ⟨_, _, hbox, (by rw [hg]; exact (below_size (by repeat (first | (with_reducible first | exact HB.out | apply below_alloc | apply pw_below_drewN | apply below_drew1) | exact HB.out))) : w.heap.size ≤ gb208), HR0.out⟩)); clear HB; have HB := n0_; have GW208 := n1_; have GE208 := n2_; have HI208 := n3_; clear n0_ n1_ n2_ n3_; clear hb hbox hg) | ((with_reducible refine gate_callee (f := 14) rfl ?_); refine goesL_ (some 16) rfl rfl Try.func14 (by kernel_rfl) rfl #[.pointer (some ⟨gb208, 0, none⟩)] rfl (by (try simp only [List.map_toArray, List.map_cons, List.map_nil]); first | done | rfl | (simp only [List.length_drop, List.length_take]; rfl)) ?_; (with_reducible refine (stockyardlaw24_made.calls gb208 l0 0 t209 t210 t211 t212 t213 w _ ?side1 ?side2 A2.out).mono ?_); (case side1 => repeat (first | (with_reducible first | exact HI208.out | apply IsS25.alloc | apply IsS25.drewN | apply IsS25.drew | apply IsS25.set_1) | exact HI208.out)); (case side2 => repeat (first | (with_reducible first | exact HB.out | apply below_alloc | apply pw_below_drewN | apply below_drew1 | refine below_set ?_ (IsS25.ge HI208.out)) | exact HB.out)); rintro e w10 ⟨rfl, hi, hb, hk⟩; refine ⟨_, rfl, ?_⟩; have n0_ := Aside0.mk (hb); have n1_ := Aside0.mk (hi); clear HB; clear HI208; have HB := n0_; have HI208 := n1_; clear n0_ n1_; (try clear hb); (try clear hb2); (try clear hk); (try clear hi)) | ((with_reducible refine gate_dst (N := 4) rfl ?_); (try (refine gate_guard (by rfl) ?_; dsimp only)); refine box_event ?hg (N := 4) ?hd (cs := #[.int .i64 0, .int .i64 0, .int .i64 0, .int .u64 0]) (t := 28) ?hr ?_; (case hd => rfl); (case hg => rfl); (case hr => first | (go_simp; done) | (go_simp; rfl)); intro gb214 hg w11 hbox hb; have n0_ := Aside0.mk (IsS25.below (by repeat (first | (with_reducible first | exact HI208.out | apply IsS25.alloc | apply IsS25.drewN | apply IsS25.drew | apply IsS25.set_1) | exact HI208.out)) hb); have n1_ := Aside0.mk (below_step (by repeat (first | (with_reducible first | exact HB.out | apply below_alloc | apply pw_below_drewN | apply below_drew1 | refine below_set ?_ (IsS25.ge HI208.out)) | exact HB.out)) hb); have n2_ := Aside0.mk (hbox); have n3_ := Aside0.mk ((by rw [hg]; exact (below_size (by repeat (first | (with_reducible first | exact HB.out | apply below_alloc | apply pw_below_drewN | apply below_drew1 | refine below_set ?_ (IsS25.ge HI208.out)) | exact HB.out))) : w.heap.size ≤ gb214)); have n4_ := Aside0.mk ((by rw [hg]; exact (below_size (by repeat (first | (with_reducible first | exact HB.out | apply below_alloc | apply pw_below_drewN | apply below_drew1 | refine below_set ?_ (IsS25.ge HI208.out)) | exact HB.out))) : w.heap.size ≤ gb214)); have n5_ := Aside0.mk ((by rw [hg]; exact Nat.ne_of_lt (IsS25.lt (show IsS25 w _ gb208 l0 t213 from by repeat (first | (with_reducible first | exact HI208.out | apply IsS25.alloc | apply IsS25.drewN | apply IsS25.drew | apply IsS25.set_1) | exact HI208.out))) : gb208 ≠ gb214)); have n6_ := Aside0.mk ((by rw [hg]; exact Nat.ne_of_gt (IsS25.lt (show IsS25 w _ gb208 l0 t213 from by repeat (first | (with_reducible first | exact HI208.out | apply IsS25.alloc | apply IsS25.drewN | apply IsS25.drew | apply IsS25.set_1) | exact HI208.out))) : gb214 ≠ gb208)); clear HI208; clear HB; have HI208 := n0_; have HB := n1_; have BK214 := n2_; have GW214 := n3_; have GE214 := n4_; have NB208_214 := n5_; have NB214_208 := n6_; clear n0_ n1_ n2_ n3_ n4_ n5_ n6_; clear hb hbox hg; have hnb12 := NB214_208.out; have hnc12 := NB208_214.out; have hcz13_0 : w11.cell? ⟨gb214, 0, none⟩ = some (.int .i64 0) := (blk_cell BK214.out 0).trans rfl; have hcz13_1 : w11.cell? ⟨gb214, 1, none⟩ = some (.int .i64 0) := (blk_cell BK214.out 1).trans rfl; have hcz13_2 : w11.cell? ⟨gb214, 2, none⟩ = some (.int .i64 0) := (blk_cell BK214.out 2).trans rfl; have hcz13_3 : w11.cell? ⟨gb214, 3, none⟩ = some (.int .u64 0) := (blk_cell BK214.out 3).trans rfl; have hfz13_0 := blk_frozen BK214.out 0; have hfz13_1 := blk_frozen BK214.out 1; have hfz13_2 := blk_frozen BK214.out 2; have hfz13_3 := blk_frozen BK214.out 3) | ((with_reducible refine gate_callee (f := 15) rfl ?_); refine goesL_ (some 18) rfl rfl Try.func15 (by kernel_rfl) rfl #[.pointer (some ⟨gb208, 0, none⟩), .int .i64 90] rfl (by (try simp only [List.map_toArray, List.map_cons, List.map_nil]); first | done | rfl | (simp only [List.length_drop, List.length_take]; rfl)) ?_; (with_reducible refine (stockyardlaw24_text.calls k gb208 l0 t213 90 t215 t218 w _ ?side1 ?side2 A3.out).mono ?_); (case side1 => repeat (first | (with_reducible first | exact HI208.out | apply IsS25.alloc | apply IsS25.drewN | apply IsS25.drew | apply IsS25.set_1 | refine IsS25.far ?_ NB208_214.out _) | exact HI208.out)); (case side2 => repeat (first | (with_reducible first | exact HB.out | apply below_alloc | apply pw_below_drewN | apply below_drew1 | refine below_set ?_ (IsS25.ge HI208.out) | refine below_set ?_ GE214.out) | exact HB.out)); rintro e w14 ⟨v216, rfl, ho0, hi, hb, hk⟩; refine ⟨_, rfl, ?_⟩; have n0_ := Aside0.mk (KeepBut.blk hk (g' := gb214) (o := .cells #[.int .i64 t209, .int .i64 t210, .int .i64 t211, .int .u64 t212] 28 (0, 0)) (by (with_reducible repeat (first | refine blk_drewN ?_ _ | refine blk_drew ?_ | refine blk_alloc ?_ _)); refine blk_put (cs := #[.int .i64 t209, .int .i64 t210, .int .i64 t211, .int .u64 0]) ?_ 3 _ rfl; (with_reducible repeat (first | refine blk_drewN ?_ _ | refine blk_drew ?_ | refine blk_alloc ?_ _)); refine blk_put (cs := #[.int .i64 t209, .int .i64 t210, .int .i64 0, .int .u64 0]) ?_ 2 _ rfl; (with_reducible repeat (first | refine blk_drewN ?_ _ | refine blk_drew ?_ | refine blk_alloc ?_ _)); refine blk_put (cs := #[.int .i64 t209, .int .i64 0, .int .i64 0, .int .u64 0]) ?_ 1 _ rfl; (with_reducible repeat (first | refine blk_drewN ?_ _ | refine blk_drew ?_ | refine blk_alloc ?_ _)); refine blk_put (cs := #[.int .i64 0, .int .i64 0, .int .i64 0, .int .u64 0]) ?_ 0 _ rfl; (with_reducible repeat (first | refine blk_drewN ?_ _ | refine blk_drew ?_ | refine blk_alloc ?_ _)); exact BK214.out) NB214_208.out (by simp)); have n1_ := Aside0.mk (Kd.R_lower ho0 (below_size (by repeat (first | (with_reducible first | exact HB.out | apply below_alloc | apply pw_below_drewN | apply below_drew1 | refine below_set ?_ (IsS25.ge HI208.out) | refine below_set ?_ GE214.out) | exact HB.out)))); have n2_ := Aside0.mk (hb); have n3_ := Aside0.mk (hi); clear BK214; clear HB; clear HI208; have BK214 := n0_; have HO217 := n1_; have HB := n2_; have HI208 := n3_; clear n0_ n1_ n2_ n3_; (try clear hb); (try clear hb2); (try clear hk); (try clear hi); (try clear ho0)) | ((with_reducible refine gate_callee (f := 15) rfl ?_); refine goesL_ (some 20) rfl rfl Try.func15 (by kernel_rfl) rfl #[.pointer (some ⟨gb208, 0, none⟩), .int .i64 40] rfl (by (try simp only [List.map_toArray, List.map_cons, List.map_nil]); first | done | rfl | (simp only [List.length_drop, List.length_take]; rfl)) ?_; (with_reducible refine (stockyardlaw24_text.calls k gb208 l0 t218 40 t219 t222 w _ ?side1 ?side2 A4.out).mono ?_); (case side1 => repeat (first | (with_reducible first | exact HI208.out | apply IsS25.alloc | apply IsS25.drewN | apply IsS25.drew | apply IsS25.set_1 | refine IsS25.far ?_ NB208_214.out _) | exact HI208.out)); (case side2 => repeat (first | (with_reducible first | exact HB.out | apply below_alloc | apply pw_below_drewN | apply below_drew1 | refine below_set ?_ (IsS25.ge HI208.out) | refine below_set ?_ GE214.out) | exact HB.out)); rintro e w15 ⟨v220, rfl, ho0, hi, hb, hk⟩; refine ⟨_, rfl, ?_⟩; have n0_ := Aside0.mk (KeepBut.blk hk (g' := gb214) (o := .cells #[.int .i64 t209, .int .i64 t210, .int .i64 t211, .int .u64 t212] 28 (0, 0)) (by (with_reducible repeat (first | refine blk_drewN ?_ _ | refine blk_drew ?_ | refine blk_alloc ?_ _)); exact BK214.out) NB214_208.out (by simp)); have n1_ := Aside0.mk (Kd.R_mono (Kd.R_told (Kd.R_oldK (IsS25.apart (show IsS25 w _ gb208 l0 t218 from by repeat (first | (with_reducible first | exact HI208.out | apply IsS25.alloc | apply IsS25.drewN | apply IsS25.drew | apply IsS25.set_1 | refine IsS25.far ?_ NB208_214.out _) | exact HI208.out)) (by (with_reducible repeat (first | apply Kd.R_alloc | apply Kd.R_drewN | apply Kd.R_drew)); exact HO217.out) (by decide)) hk) (Kd.R_base ho0)) (fun _ h_ => h_.1)); have n2_ := Aside0.mk (Kd.R_lower (Kd.R_new' ho0 (Kd.R_lt (by (with_reducible repeat (first | apply Kd.R_alloc | apply Kd.R_drewN | apply Kd.R_drew)); exact HO217.out))) (below_size (by repeat (first | (with_reducible first | exact HB.out | apply below_alloc | apply pw_below_drewN | apply below_drew1 | refine below_set ?_ (IsS25.ge HI208.out) | refine below_set ?_ GE214.out) | exact HB.out)))); have n3_ := Aside0.mk (hb); have n4_ := Aside0.mk (hi); clear BK214; clear HO217; clear HB; clear HI208; have BK214 := n0_; have HO217 := n1_; have HO221 := n2_; have HB := n3_; have HI208 := n4_; clear n0_ n1_ n2_ n3_ n4_; (try clear hb); (try clear hb2); (try clear hk); (try clear hi); (try clear ho0); have hcz16_0 : w15.cell? ⟨gb214, 0, none⟩ = some (.int .i64 t209) := (blk_cell BK214.out 0).trans rfl; have hcz16_1 : w15.cell? ⟨gb214, 1, none⟩ = some (.int .i64 t210) := (blk_cell BK214.out 1).trans rfl; have hcz16_2 : w15.cell? ⟨gb214, 2, none⟩ = some (.int .i64 t211) := (blk_cell BK214.out 2).trans rfl; have hcz16_3 : w15.cell? ⟨gb214, 3, none⟩ = some (.int .u64 t212) := (blk_cell BK214.out 3).trans rfl; have hfz16_0 := blk_frozen BK214.out 0; have hfz16_1 := blk_frozen BK214.out 1; have hfz16_2 := blk_frozen BK214.out 2; have hfz16_3 := blk_frozen BK214.out 3; obtain ⟨Ao17, co17, eo17⟩ := Kd.R_slice HO217.out; subst eo17) | ((with_reducible refine gate_callee (f := 16) rfl ?_); refine goesL_ (some 24) rfl rfl Try.func16 (by kernel_rfl) rfl #[.agg #[.int .i64 t209, .int .i64 t210, .int .i64 t211, .int .u64 t212], .slice Ao17 t215.length co17] rfl (by (try simp only [List.map_toArray, List.map_cons, List.map_nil]); first | done | rfl | (simp only [List.length_drop, List.length_take]; rfl)) ?_; (with_reducible refine (stockyardlaw24_ends.calls t209 t210 t211 t212 _ _ t215 t223 t226 _ ?side1 ?side2 A5.out).mono ?_); (case side1 => repeat (first | exact (Kd.R_reads' HO217.out).2.2 | (with_reducible refine Kd.C_alloc ?_ _) | (with_reducible refine Kd.C_drewN ?_ _) | (with_reducible refine Kd.C_drew ?_))); (case side2 => exact (Kd.R_reads' HO217.out).2.1); rintro e w18 ⟨v224, rfl, ho0, hb⟩; refine ⟨_, rfl, ?_⟩; have n0_ := Aside0.mk (Kd.R_below (by (with_reducible repeat (first | apply Kd.R_alloc | apply Kd.R_drewN | apply Kd.R_drew)); exact HO217.out) hb); have n1_ := Aside0.mk (Kd.R_below (by (with_reducible repeat (first | apply Kd.R_alloc | apply Kd.R_drewN | apply Kd.R_drew)); exact HO221.out) hb); have n2_ := Aside0.mk (Kd.R_lower ho0 (below_size (by repeat (first | (with_reducible first | exact HB.out | apply below_alloc | apply pw_below_drewN | apply below_drew1 | refine below_set ?_ (IsS25.ge HI208.out) | refine below_set ?_ GE214.out) | exact HB.out)))); have n3_ := Aside0.mk (IsS25.below (by repeat (first | (with_reducible first | exact HI208.out | apply IsS25.alloc | apply IsS25.drewN | apply IsS25.drew | apply IsS25.set_1 | refine IsS25.far ?_ NB208_214.out _) | exact HI208.out)) hb); have n4_ := Aside0.mk (blk_below (g := gb214) (o := .cells #[.int .i64 t209, .int .i64 t210, .int .i64 t211, .int .u64 t212] 28 (0, 0)) (by (with_reducible repeat (first | refine blk_drewN ?_ _ | refine blk_drew ?_ | refine blk_alloc ?_ _)); exact BK214.out) hb); have n5_ := Aside0.mk (below_step (by repeat (first | (with_reducible first | exact HB.out | apply below_alloc | apply pw_below_drewN | apply below_drew1 | refine below_set ?_ (IsS25.ge HI208.out) | refine below_set ?_ GE214.out) | exact HB.out)) hb); clear HO217; clear HO221; clear HI208; clear BK214; clear HB; have HO217 := n0_; have HO221 := n1_; have HO225 := n2_; have HI208 := n3_; have BK214 := n4_; have HB := n5_; clear n0_ n1_ n2_ n3_ n4_ n5_; (try clear hb); (try clear hb2); (try clear hk); (try clear hi); (try clear ho0)))
  have n0_ := Aside0.mk (Kd.R_drew HO217.out)
  have n1_ := Aside0.mk (Kd.R_drew HO221.out)
  have n2_ := Aside0.mk (Kd.R_drew HO225.out)
  have n3_ := Aside0.mk (blk_drew BK214.out)
  have n4_ := Aside0.mk (IsS25.drew HI208.out)
  have n5_ := Aside0.mk (below_drew1 HB.out)
  clear HO217
  clear HO221
  clear HO225
  clear BK214
  clear HI208
  clear HB
  have HO217 := n0_
  have HO221 := n1_
  have HO225 := n2_
  have BK214 := n3_
  have HI208 := n4_
  have HB := n5_
  clear n0_ n1_ n2_ n3_ n4_ n5_
  obtain ⟨Ao20, co20, eo20⟩ := Kd.R_slice HO221.out
  (first | subst eo20 | (injection eo20 with f1_ f2_ f3_; have f4_ := f1_.symm; have f5_ := f3_.symm; clear f1_ f2_ f3_; subst f4_; subst f5_))
  refine start_ (n := 11) (S := fun w' => w'.cell? ⟨gb214, 0, none⟩ = some (.int .i64 t209) ∧ w'.cell? ⟨gb214, 1, none⟩ = some (.int .i64 t210) ∧ w'.cell? ⟨gb214, 2, none⟩ = some (.int .i64 t211) ∧ w'.cell? ⟨gb214, 3, none⟩ = some (.int .u64 t212)) (ds := []) #[false, false, false, false, false, false, false, false, false, false, false] (by kernel_rfl) rfl rfl ⟨(blk_cell BK214.out 0).trans rfl, (blk_cell BK214.out 1).trans rfl, (blk_cell BK214.out 2).trans rfl, (blk_cell BK214.out 3).trans rfl⟩ (fun hHeld => ?_); refine with_tabW stockyardlaw24_ChunkerPrefix.tab5 stockyardlaw24_ChunkerPrefix.bits5 (fun HT_ HW_ => ?_)
  generalize w18.drew = w19 at HO217 HO221 HO225 BK214 HI208 HB hHeld ⊢
  refine pure_ (i := 1) (N := some 29) (v := ?_) (a' := ?_) #[false, true, false, false, false, false, false, false, false, false, false] rfl rfl (any_of HT_.out (by kernel_rfl)) (fun _ _ _ h => h) (Or.inl ⟨by rfl, ?_⟩) ?_ ?_
  rotate_left
  · intro w'
    go_simp
    with_reducible rfl
  rotate_left
  · simp only [Act.put, List.setIfInBounds_toArray, List.set_cons_zero, List.set_cons_succ, i64_w, i32_w]
    rfl
  refine pure_ (i := 2) (N := some 30) (v := ?_) (a' := ?_) #[false, true, true, false, false, false, false, false, false, false, false] rfl rfl (any_of HT_.out (by kernel_rfl)) (fun _ _ _ h => h) (Or.inl ⟨by rfl, ?_⟩) ?_ ?_
  rotate_left
  · intro w'
    go_simp
    with_reducible rfl
  rotate_left
  · simp only [Act.put, List.setIfInBounds_toArray, List.set_cons_zero, List.set_cons_succ, i64_w, i32_w]
    rfl
  refine take_ (i := 0) (N := some 28) (v := ?_) (a' := ?_) #[true, true, true, false, false, false, false, false, false, false, false] rfl rfl (take_ofW HT_.out HW_.out (by kernel_rfl)) (fun _ _ _ h => h) (Or.inl ⟨by rfl, ?_⟩) hHeld ?_ ?_
  rotate_left
  · rintro w' ⟨s0, s1, s2, s3⟩
    go_simp
    with_reducible rfl
  rotate_left
  · simp only [Act.put, List.setIfInBounds_toArray, List.set_cons_zero, List.set_cons_succ, i64_w, i32_w]
    rfl
  refine one_ (i := 3) (N := some 31) #[true, true, true, true, false, false, false, false, false, false, false] rfl rfl (one_of HT_.out (by kernel_rfl)) (by decide) (fun K hK => ?_)
  refine Kd.N_lit_step (Kd.slice 5 (Kd.int .u8)) _ 30 ?hg (N' := 31) ?hd (xs := ([t215, t219] : List (List Int))) (inner := [.slice Ao17 t215.length co17, .slice Ao20 t219.length co20]) (ok := (fun k_ => some k_ ≠ (v224 : Value).ownBlock ∧ k_ ≠ gb214 ∧ k_ ≠ gb208)) (okp := (fun k_ => some k_ ≠ (v224 : Value).ownBlock ∧ k_ ≠ gb214 ∧ k_ ≠ gb208)) ?hr ?hp (fun _ hk => hk) ((show ∀ k_, w19.heap.size ≤ k_ → (fun k_ => some k_ ≠ (v224 : Value).ownBlock ∧ k_ ≠ gb214 ∧ k_ ≠ gb208) k_ from fun k_ hk => ⟨Kd.fresh' (Kd.R_lt (by (with_reducible repeat (first | apply Kd.R_alloc | apply Kd.R_drewN | apply Kd.R_drew)); exact HO225.out)) k_ hk, Kd.freshB (g := gb214) (o := .cells #[.int .i64 t209, .int .i64 t210, .int .i64 t211, .int .u64 t212] 28 (0, 0)) (by (with_reducible repeat (first | refine blk_drewN ?_ _ | refine blk_drew ?_ | refine blk_alloc ?_ _)); exact BK214.out) k_ hk, IsS25.fresh (by repeat (first | (with_reducible first | exact HI208.out | apply IsS25.alloc | apply IsS25.drewN | apply IsS25.drew | apply IsS25.set_1 | refine IsS25.far ?_ NB208_214.out _) | exact HI208.out)) k_ hk⟩) _ (Nat.le_refl _)) (Below.refl _ _) (Nat.le_refl _) (by simp) ?_; (case hd => rfl); (case hg => rfl); (case hr => first | (go_simp; done) | (go_simp; rfl)); (case hp => exact (Reps.one (show Kd.FK (Kd.slice 5 (Kd.int .u8)) _ _ t215 [.slice Ao17 t215.length co17] from (Kd.FK_slice_mk (Kd.R_reads' (Kd.R_mono (ok' := (fun k_ => some k_ ≠ (v224 : Value).ownBlock ∧ k_ ≠ gb214 ∧ k_ ≠ gb208)) (IsS25.apart HI208.out (Kd.R_types (Kd.R_apart' (HO217.out) (Kd.R_typed HO225.out) (by decide)) BK214.out (by decide)) (by decide)) (fun k_ hk => ⟨hk.1.1.2, ⟨hk.1.2, hk.2⟩⟩))).2.1 (Kd.R_F (Kd.R_mono (ok' := (fun k_ => some k_ ≠ (v224 : Value).ownBlock ∧ k_ ≠ gb214 ∧ k_ ≠ gb208)) (IsS25.apart HI208.out (Kd.R_types (Kd.R_apart' (HO217.out) (Kd.R_typed HO225.out) (by decide)) BK214.out (by decide)) (by decide)) (fun k_ hk => ⟨hk.1.1.2, ⟨hk.1.2, hk.2⟩⟩))))) (Reps.one (show Kd.FK (Kd.slice 5 (Kd.int .u8)) _ _ t219 [.slice Ao20 t219.length co20] from (Kd.FK_slice_mk (Kd.R_reads' (Kd.R_mono (ok' := (fun k_ => some k_ ≠ (v224 : Value).ownBlock ∧ k_ ≠ gb214 ∧ k_ ≠ gb208)) (IsS25.apart HI208.out (Kd.R_types (Kd.R_apart' (HO221.out) (Kd.R_typed HO225.out) (by decide)) BK214.out (by decide)) (by decide)) (fun k_ hk => ⟨hk.1.1.2, ⟨hk.1.2, hk.2⟩⟩))).2.1 (Kd.R_F (Kd.R_mono (ok' := (fun k_ => some k_ ≠ (v224 : Value).ownBlock ∧ k_ ≠ gb214 ∧ k_ ≠ gb208)) (IsS25.apart HI208.out (Kd.R_types (Kd.R_apart' (HO221.out) (Kd.R_typed HO225.out) (by decide)) BK214.out (by decide)) (by decide)) (fun k_ hk => ⟨hk.1.1.2, ⟨hk.1.2, hk.2⟩⟩))))) (Reps.none _ _))))
  intro v228 w21 ho22 hb hg_ hnew_
  clear hg_ hnew_
  (first | rw [← Ny227.out] at ho22 | (simp only [Int.reduceToNat] at ho22; rw [← Ny227.out] at ho22))
  have n0_ := Aside0.mk (Kd.R_below (by (with_reducible repeat (first | apply Kd.R_alloc | apply Kd.R_drewN | apply Kd.R_drew)); exact HO225.out) hb)
  have n1_ := Aside0.mk (Kd.N_lower ho22 (below_size (by repeat (first | (with_reducible first | exact HB.out | apply below_alloc | apply pw_below_drewN | apply below_drew1 | refine below_set ?_ (IsS25.ge HI208.out) | refine below_set ?_ GE214.out) | exact HB.out))))
  have n2_ := Aside0.mk (IsS25.below (by repeat (first | (with_reducible first | exact HI208.out | apply IsS25.alloc | apply IsS25.drewN | apply IsS25.drew | apply IsS25.set_1 | refine IsS25.far ?_ NB208_214.out _) | exact HI208.out)) hb)
  have n3_ := Aside0.mk (blk_below (g := gb214) (o := .cells #[.int .i64 t209, .int .i64 t210, .int .i64 t211, .int .u64 t212] 28 (0, 0)) (by (with_reducible repeat (first | refine blk_drewN ?_ _ | refine blk_drew ?_ | refine blk_alloc ?_ _)); exact BK214.out) hb)
  have n4_ := Aside0.mk (below_step (by repeat (first | (with_reducible first | exact HB.out | apply below_alloc | apply pw_below_drewN | apply below_drew1 | refine below_set ?_ (IsS25.ge HI208.out) | refine below_set ?_ GE214.out) | exact HB.out)) hb)
  clear HO225
  clear HI208
  clear BK214
  clear HB
  clear HO217
  clear HO221
  have HO225 := n0_
  have HO229 := n1_
  have HI208 := n2_
  have BK214 := n3_
  have HB := n4_
  clear n0_ n1_ n2_ n3_ n4_
  clear hb ho22
  obtain ⟨Ao23, co23, eo23⟩ := Kd.N_slice HO229.out
  (first | subst eo23 | (injection eo23 with f1_ f2_ f3_; have f4_ := f1_.symm; have f5_ := f3_.symm; clear f1_ f2_ f3_; subst f4_; subst f5_))
  refine hK.out _ _ ⟨(blk_cell BK214.out 0).trans rfl, (blk_cell BK214.out 1).trans rfl, (blk_cell BK214.out 2).trans rfl, (blk_cell BK214.out 3).trans rfl⟩ (fun hHeld => ?_)
  clear hK K
  refine norm_ (a' := ?_) ?_ ?_
  rotate_left
  · show Act.put _ (some 31) _ = _
    simp only [Act.put, List.setIfInBounds_toArray, List.set_cons_zero, List.set_cons_succ, i64_w, i32_w]
    rfl
  refine one_ (i := 4) (N := some 32) #[true, true, true, true, true, false, false, false, false, false, false] rfl rfl (one_of HT_.out (by kernel_rfl)) (by decide) (fun K hK => ?_)
  refine goes_ Try.func19 (by kernel_rfl) rfl #[.slice Ao23 y227.length co23] (by rfl) rfl rfl (by (try simp only [List.map_toArray, List.map_cons, List.map_nil]); first | done | rfl | (simp only [List.length_drop, List.length_take]; rfl)) ?_
  with_reducible refine (stockyardmake_Joined.calls k _ _ y227 t230 _ ?side1 ?side2 A6.out).mono ?_
  (case side1 => repeat (first | exact (Kd.N_reads' HO229.out).2.2 | (with_reducible refine Kd.C_alloc ?_ _) | (with_reducible refine Kd.C_drewN ?_ _) | (with_reducible refine Kd.C_drew ?_)))
  (case side2 => exact (Kd.N_reads' HO229.out).2.1)
  rintro e w24 ⟨v231, rfl, ho0, hb⟩
  refine ⟨_, rfl, ?_⟩
  have n0_ := Aside0.mk (Kd.R_below (by (with_reducible repeat (first | apply Kd.R_alloc | apply Kd.R_drewN | apply Kd.R_drew)); exact HO225.out) hb)
  have n1_ := Aside0.mk (Kd.N_elder' (by (with_reducible repeat (first | apply Kd.N_alloc | apply Kd.N_drewN | apply Kd.N_drew)); exact HO229.out) (Kd.R_base ho0) hb)
  have n2_ := Aside0.mk (Kd.R_lower ho0 (below_size (by repeat (first | (with_reducible first | exact HB.out | apply below_alloc | apply pw_below_drewN | apply below_drew1 | refine below_set ?_ (IsS25.ge HI208.out) | refine below_set ?_ GE214.out) | exact HB.out))))
  have n3_ := Aside0.mk (IsS25.below (by repeat (first | (with_reducible first | exact HI208.out | apply IsS25.alloc | apply IsS25.drewN | apply IsS25.drew | apply IsS25.set_1 | refine IsS25.far ?_ NB208_214.out _) | exact HI208.out)) hb)
  have n4_ := Aside0.mk (blk_below (g := gb214) (o := .cells #[.int .i64 t209, .int .i64 t210, .int .i64 t211, .int .u64 t212] 28 (0, 0)) (by (with_reducible repeat (first | refine blk_drewN ?_ _ | refine blk_drew ?_ | refine blk_alloc ?_ _)); exact BK214.out) hb)
  have n5_ := Aside0.mk (below_step (by repeat (first | (with_reducible first | exact HB.out | apply below_alloc | apply pw_below_drewN | apply below_drew1 | refine below_set ?_ (IsS25.ge HI208.out) | refine below_set ?_ GE214.out) | exact HB.out)) hb)
  clear HO225
  clear HO229
  clear HI208
  clear BK214
  clear HB
  have HO225 := n0_
  have HO229 := n1_
  have HO232 := n2_
  have HI208 := n3_
  have BK214 := n4_
  have HB := n5_
  clear n0_ n1_ n2_ n3_ n4_ n5_
  (try clear hb)
  (try clear hb2)
  (try clear hk)
  (try clear hi)
  (try clear ho0)
  obtain ⟨Ao25, co25, eo25⟩ := Kd.R_slice HO232.out
  (first | subst eo25 | (injection eo25 with f1_ f2_ f3_; have f4_ := f1_.symm; have f5_ := f3_.symm; clear f1_ f2_ f3_; subst f4_; subst f5_))
  refine hK.out _ _ ⟨(blk_cell BK214.out 0).trans rfl, (blk_cell BK214.out 1).trans rfl, (blk_cell BK214.out 2).trans rfl, (blk_cell BK214.out 3).trans rfl⟩ (fun hHeld => ?_)
  clear hK K
  refine norm_ (a' := ?_) ?_ ?_
  rotate_left
  · show Act.put _ (some 32) _ = _
    simp only [Act.put, List.setIfInBounds_toArray, List.set_cons_zero, List.set_cons_succ, i64_w, i32_w]
    rfl
  refine one_ (i := 5) (N := some 33) #[true, true, true, true, true, true, false, false, false, false, false] rfl rfl (one_of HT_.out (by kernel_rfl)) (by decide) (fun K hK => ?_)
  refine goes_ Try.func16 (by kernel_rfl) rfl #[.agg #[.int .i64 t209, .int .i64 t210, .int .i64 t211, .int .u64 t212], .slice Ao25 t230.length co25] (by rfl) rfl rfl (by (try simp only [List.map_toArray, List.map_cons, List.map_nil]); first | done | rfl | (simp only [List.length_drop, List.length_take]; rfl)) ?_
  with_reducible refine (stockyardlaw24_ends.calls t209 t210 t211 t212 _ _ t230 t233 t236 _ ?side1 ?side2 A7.out).mono ?_
  (case side1 => repeat (first | exact (Kd.R_reads' HO232.out).2.2 | (with_reducible refine Kd.C_alloc ?_ _) | (with_reducible refine Kd.C_drewN ?_ _) | (with_reducible refine Kd.C_drew ?_)))
  (case side2 => exact (Kd.R_reads' HO232.out).2.1)
  rintro e w26 ⟨v234, rfl, ho0, hb⟩
  refine ⟨_, rfl, ?_⟩
  have n0_ := Aside0.mk (Kd.R_elder' (by (with_reducible repeat (first | apply Kd.R_alloc | apply Kd.R_drewN | apply Kd.R_drew)); exact HO225.out) (Kd.R_base ho0) hb)
  have n1_ := Aside0.mk (Kd.N_elder' (by (with_reducible repeat (first | apply Kd.N_alloc | apply Kd.N_drewN | apply Kd.N_drew)); exact HO229.out) (Kd.R_base ho0) hb)
  have n2_ := Aside0.mk (Kd.R_below (by (with_reducible repeat (first | apply Kd.R_alloc | apply Kd.R_drewN | apply Kd.R_drew)); exact HO232.out) hb)
  have n3_ := Aside0.mk (Kd.R_lower (Kd.R_new' ho0 (Kd.R_lt (by (with_reducible repeat (first | apply Kd.R_alloc | apply Kd.R_drewN | apply Kd.R_drew)); exact HO225.out))) (below_size (by repeat (first | (with_reducible first | exact HB.out | apply below_alloc | apply pw_below_drewN | apply below_drew1 | refine below_set ?_ (IsS25.ge HI208.out) | refine below_set ?_ GE214.out) | exact HB.out))))
  have n4_ := Aside0.mk (IsS25.below (by repeat (first | (with_reducible first | exact HI208.out | apply IsS25.alloc | apply IsS25.drewN | apply IsS25.drew | apply IsS25.set_1 | refine IsS25.far ?_ NB208_214.out _) | exact HI208.out)) hb)
  have n5_ := Aside0.mk (blk_below (g := gb214) (o := .cells #[.int .i64 t209, .int .i64 t210, .int .i64 t211, .int .u64 t212] 28 (0, 0)) (by (with_reducible repeat (first | refine blk_drewN ?_ _ | refine blk_drew ?_ | refine blk_alloc ?_ _)); exact BK214.out) hb)
  have n6_ := Aside0.mk (below_step (by repeat (first | (with_reducible first | exact HB.out | apply below_alloc | apply pw_below_drewN | apply below_drew1 | refine below_set ?_ (IsS25.ge HI208.out) | refine below_set ?_ GE214.out) | exact HB.out)) hb)
  clear HO225
  clear HO229
  clear HO232
  clear HI208
  clear BK214
  clear HB
  have HO225 := n0_
  have HO229 := n1_
  have HO232 := n2_
  have HO235 := n3_
  have HI208 := n4_
  have BK214 := n5_
  have HB := n6_
  clear n0_ n1_ n2_ n3_ n4_ n5_ n6_
  (try clear hb)
  (try clear hb2)
  (try clear hk)
  (try clear hi)
  (try clear ho0)
  refine hK.out _ _ ⟨(blk_cell BK214.out 0).trans rfl, (blk_cell BK214.out 1).trans rfl, (blk_cell BK214.out 2).trans rfl, (blk_cell BK214.out 3).trans rfl⟩ (fun hHeld => ?_)
  clear hK K
  refine norm_ (a' := ?_) ?_ ?_
  rotate_left
  · show Act.put _ (some 33) _ = _
    simp only [Act.put, List.setIfInBounds_toArray, List.set_cons_zero, List.set_cons_succ, i64_w, i32_w]
    rfl
  refine pure_ (i := 6) (N := some 27) (v := ?_) (a' := ?_) #[true, true, true, true, true, true, true, false, false, false, false] rfl rfl (any_of HT_.out (by kernel_rfl)) (fun _ _ _ h => h) (Or.inl ⟨by rfl, ?_⟩) ?_ ?_
  rotate_left
  · intro w'
    go_simp
    with_reducible rfl
  rotate_left
  · simp only [Act.put, List.setIfInBounds_toArray, List.set_cons_zero, List.set_cons_succ, i64_w, i32_w]
    rfl
  refine pure_ (i := 7) (N := some 34) (v := ?_) (a' := ?_) #[true, true, true, true, true, true, true, true, false, false, false] rfl rfl (any_of HT_.out (by kernel_rfl)) (fun _ _ _ h => h) (Or.inl ⟨by rfl, ?_⟩) ?_ ?_
  rotate_left
  · intro w'
    go_simp
    with_reducible rfl
  rotate_left
  · simp only [Act.put, List.setIfInBounds_toArray, List.set_cons_zero, List.set_cons_succ, i64_w, i32_w]
    rfl
  refine pure_ (i := 8) (N := some 35) (v := ?_) (a' := ?_) #[true, true, true, true, true, true, true, true, true, false, false] rfl rfl (any_of HT_.out (by kernel_rfl)) (fun _ _ _ h => h) (Or.inl ⟨by rfl, ?_⟩) ?_ ?_
  rotate_left
  · intro w'
    go_simp
    with_reducible rfl
  rotate_left
  · simp only [Act.put, List.setIfInBounds_toArray, List.set_cons_zero, List.set_cons_succ, i64_w, i32_w]
    rfl
  refine pure_ (i := 9) (N := some 9) (v := ?_) (a' := ?_) #[true, true, true, true, true, true, true, true, true, true, false] rfl rfl (any_of HT_.out (by kernel_rfl)) (fun _ _ _ h => h) (Or.inl ⟨by rfl, ?_⟩) ?_ ?_
  rotate_left
  · intro w'
    go_simp
    with_reducible rfl
  rotate_left
  · simp only [Act.put, List.setIfInBounds_toArray, List.set_cons_zero, List.set_cons_succ, i64_w, i32_w]
    rfl
  refine pure_ (i := 10) (N := some 10) (v := ?_) (a' := ?_) #[true, true, true, true, true, true, true, true, true, true, true] rfl rfl (any_of HT_.out (by kernel_rfl)) (fun _ _ _ h => h) (Or.inl ⟨by rfl, ?_⟩) ?_ ?_
  rotate_left
  · intro w'
    go_simp
    with_reducible rfl
  rotate_left
  · simp only [Act.put, List.setIfInBounds_toArray, List.set_cons_zero, List.set_cons_succ, i64_w, i32_w]
    rfl
  refine done_ (done_of HT_.out (by kernel_rfl)) ?_
  go_upto_region 6 with (fail)
  go_cut [52] (fun v52 wc => ∃ (kq : Nat) (x52_7 : Bool), v52 = .bool x52_7 ∧ Aside0 (stockyardlaw24_ChunkerPrefix.j0 kq t223 t233 x52_7 = some r) ∧ Aside0 (kq ≤ k) ∧ Aside0 (Kd.R (Kd.int .i64) 3 wc w.heap.size (fun k_ => some k_ ≠ (v234 : Value).ownBlock) v224 t223) ∧ Aside0 (Kd.R (Kd.int .i64) 3 wc w.heap.size (fun k_ => some k_ ≠ (v224 : Value).ownBlock) v234 t233) ∧ Aside0 (wc.heap[gb214]? = some (.cells #[.int .i64 t209, .int .i64 t210, .int .i64 t211, .int .u64 t212] 28 (0, 0))) ∧ Aside0 (Below w.heap.size w wc))
  case first =>
    have H := HC8.out
    clear HC8
    replace H := Option.bind_eq_some_iff.mp H
    obtain ⟨t237, A270, H⟩ := H
    replace H : (if t237 = true then (if t226 = true then (if t236 = true then (stockyardlaw24_ChunkerPrefix.j0 k t223 t233 (decide ((t233.length : Int) < (t223.length : Int)))) else (stockyardlaw24_ChunkerPrefix.j0 k t223 t233 true)) else (stockyardlaw24_ChunkerPrefix.j0 k t223 t233 true)) else (stockyardlaw24_ChunkerPrefix.j0 k t223 t233 true)) = some r := H
    have A27 := Aside0.mk A270
    clear A270
    by_cases c28 : t237 = true
    · subst c28
      have H1 : (if t226 = true then (if t236 = true then (stockyardlaw24_ChunkerPrefix.j0 k t223 t233 (decide ((t233.length : Int) < (t223.length : Int)))) else (stockyardlaw24_ChunkerPrefix.j0 k t223 t233 true)) else (stockyardlaw24_ChunkerPrefix.j0 k t223 t233 true)) = some r := by rw [if_pos rfl] at H; exact H
      clear H
      have H := H1
      clear H1
      by_cases c29 : t226 = true
      · subst c29
        have H1 : (if t236 = true then (stockyardlaw24_ChunkerPrefix.j0 k t223 t233 (decide ((t233.length : Int) < (t223.length : Int)))) else (stockyardlaw24_ChunkerPrefix.j0 k t223 t233 true)) = some r := by rw [if_pos rfl] at H; exact H
        clear H
        have H := H1
        clear H1
        by_cases c30 : t236 = true
        · subst c30
          have H1 : (stockyardlaw24_ChunkerPrefix.j0 k t223 t233 (decide ((t233.length : Int) < (t223.length : Int)))) = some r := by rw [if_pos rfl] at H; exact H
          clear H
          have H := H1
          clear H1
          have H' := Aside0.mk H
          clear H
          go_wp2_with (first | ((with_reducible refine gate_callee (f := 17) rfl ?_); refine goesL_ (some 36) rfl rfl Try.func17 (by kernel_rfl) rfl #[] rfl (by (try simp only [List.map_toArray, List.map_cons, List.map_nil]); first | done | rfl | (simp only [List.length_drop, List.length_take]; rfl)) ?_; (with_reducible refine (stockyardlaw24_known.calls k  true _ A27.out).mono ?_); rintro e w31 ⟨rfl, hb⟩; refine ⟨_, rfl, ?_⟩; have n0_ := Aside0.mk (Kd.R_below (by (with_reducible repeat (first | apply Kd.R_alloc | apply Kd.R_drewN | apply Kd.R_drew)); exact HO225.out) hb); have n1_ := Aside0.mk (Kd.N_below (by (with_reducible repeat (first | apply Kd.N_alloc | apply Kd.N_drewN | apply Kd.N_drew)); exact HO229.out) hb); have n2_ := Aside0.mk (Kd.R_below (by (with_reducible repeat (first | apply Kd.R_alloc | apply Kd.R_drewN | apply Kd.R_drew)); exact HO232.out) hb); have n3_ := Aside0.mk (Kd.R_below (by (with_reducible repeat (first | apply Kd.R_alloc | apply Kd.R_drewN | apply Kd.R_drew)); exact HO235.out) hb); have n4_ := Aside0.mk (IsS25.below (by repeat (first | (with_reducible first | exact HI208.out | apply IsS25.alloc | apply IsS25.drewN | apply IsS25.drew | apply IsS25.set_1 | refine IsS25.far ?_ NB208_214.out _) | exact HI208.out)) hb); have n5_ := Aside0.mk (blk_below (g := gb214) (o := .cells #[.int .i64 t209, .int .i64 t210, .int .i64 t211, .int .u64 t212] 28 (0, 0)) (by (with_reducible repeat (first | refine blk_drewN ?_ _ | refine blk_drew ?_ | refine blk_alloc ?_ _)); exact BK214.out) hb); have n6_ := Aside0.mk (below_step (by repeat (first | (with_reducible first | exact HB.out | apply below_alloc | apply pw_below_drewN | apply below_drew1 | refine below_set ?_ (IsS25.ge HI208.out) | refine below_set ?_ GE214.out) | exact HB.out)) hb); clear HO225; clear HO229; clear HO232; clear HO235; clear HI208; clear BK214; clear HB; have HO225 := n0_; have HO229 := n1_; have HO232 := n2_; have HO235 := n3_; have HI208 := n4_; have BK214 := n5_; have HB := n6_; clear n0_ n1_ n2_ n3_ n4_ n5_ n6_; (try clear hb); (try clear hb2); (try clear hk); (try clear hi); obtain ⟨Ao32, co32, eo32⟩ := Kd.R_slice HO235.out; subst eo32; obtain ⟨Ao33, co33, eo33⟩ := Kd.R_slice HO225.out; subst eo33))
          go_meet
          case rel => exact ⟨_, (decide ((t233.length : Int) < (t223.length : Int))), (by first | rfl | (simp; done) | (simp [*]; done)), H', ⟨by first | omega | exact Nat.le_refl _⟩, ⟨by (with_reducible repeat (first | apply Kd.R_alloc | apply Kd.R_drewN | apply Kd.R_drew)); exact Kd.R_mono HO225.out (fun _ hk => hk.2)⟩, ⟨by (with_reducible repeat (first | apply Kd.R_alloc | apply Kd.R_drewN | apply Kd.R_drew)); exact Kd.R_mono HO235.out (fun _ hk => hk.2)⟩, ⟨by (with_reducible repeat (first | refine blk_drewN ?_ _ | refine blk_drew ?_ | refine blk_alloc ?_ _)); exact BK214.out⟩, ⟨by repeat (first | (with_reducible first | exact HB.out | apply below_alloc | apply pw_below_drewN | apply below_drew1 | refine below_set ?_ (IsS25.ge HI208.out) | refine below_set ?_ GE214.out) | exact HB.out)⟩⟩
        · replace c30 := Bool.eq_false_iff.mpr c30
          subst c30
          have H1 : (stockyardlaw24_ChunkerPrefix.j0 k t223 t233 true) = some r := by rw [if_neg (show ¬ (false = true) by decide)] at H; exact H
          clear H
          have H := H1
          clear H1
          have H' := Aside0.mk H
          clear H
          go_wp2_with (first | ((with_reducible refine gate_callee (f := 17) rfl ?_); refine goesL_ (some 36) rfl rfl Try.func17 (by kernel_rfl) rfl #[] rfl (by (try simp only [List.map_toArray, List.map_cons, List.map_nil]); first | done | rfl | (simp only [List.length_drop, List.length_take]; rfl)) ?_; (with_reducible refine (stockyardlaw24_known.calls k  true _ A27.out).mono ?_); rintro e w34 ⟨rfl, hb⟩; refine ⟨_, rfl, ?_⟩; have n0_ := Aside0.mk (Kd.R_below (by (with_reducible repeat (first | apply Kd.R_alloc | apply Kd.R_drewN | apply Kd.R_drew)); exact HO225.out) hb); have n1_ := Aside0.mk (Kd.N_below (by (with_reducible repeat (first | apply Kd.N_alloc | apply Kd.N_drewN | apply Kd.N_drew)); exact HO229.out) hb); have n2_ := Aside0.mk (Kd.R_below (by (with_reducible repeat (first | apply Kd.R_alloc | apply Kd.R_drewN | apply Kd.R_drew)); exact HO232.out) hb); have n3_ := Aside0.mk (Kd.R_below (by (with_reducible repeat (first | apply Kd.R_alloc | apply Kd.R_drewN | apply Kd.R_drew)); exact HO235.out) hb); have n4_ := Aside0.mk (IsS25.below (by repeat (first | (with_reducible first | exact HI208.out | apply IsS25.alloc | apply IsS25.drewN | apply IsS25.drew | apply IsS25.set_1 | refine IsS25.far ?_ NB208_214.out _) | exact HI208.out)) hb); have n5_ := Aside0.mk (blk_below (g := gb214) (o := .cells #[.int .i64 t209, .int .i64 t210, .int .i64 t211, .int .u64 t212] 28 (0, 0)) (by (with_reducible repeat (first | refine blk_drewN ?_ _ | refine blk_drew ?_ | refine blk_alloc ?_ _)); exact BK214.out) hb); have n6_ := Aside0.mk (below_step (by repeat (first | (with_reducible first | exact HB.out | apply below_alloc | apply pw_below_drewN | apply below_drew1 | refine below_set ?_ (IsS25.ge HI208.out) | refine below_set ?_ GE214.out) | exact HB.out)) hb); clear HO225; clear HO229; clear HO232; clear HO235; clear HI208; clear BK214; clear HB; have HO225 := n0_; have HO229 := n1_; have HO232 := n2_; have HO235 := n3_; have HI208 := n4_; have BK214 := n5_; have HB := n6_; clear n0_ n1_ n2_ n3_ n4_ n5_ n6_; (try clear hb); (try clear hb2); (try clear hk); (try clear hi)))
          go_meet
          case rel => exact ⟨_, (true), (by first | rfl | (simp; done) | (simp [*]; done)), H', ⟨by first | omega | exact Nat.le_refl _⟩, ⟨by (with_reducible repeat (first | apply Kd.R_alloc | apply Kd.R_drewN | apply Kd.R_drew)); exact Kd.R_mono HO225.out (fun _ hk => hk.2)⟩, ⟨by (with_reducible repeat (first | apply Kd.R_alloc | apply Kd.R_drewN | apply Kd.R_drew)); exact Kd.R_mono HO235.out (fun _ hk => hk.2)⟩, ⟨by (with_reducible repeat (first | refine blk_drewN ?_ _ | refine blk_drew ?_ | refine blk_alloc ?_ _)); exact BK214.out⟩, ⟨by repeat (first | (with_reducible first | exact HB.out | apply below_alloc | apply pw_below_drewN | apply below_drew1 | refine below_set ?_ (IsS25.ge HI208.out) | refine below_set ?_ GE214.out) | exact HB.out)⟩⟩
      · replace c29 := Bool.eq_false_iff.mpr c29
        subst c29
        have H1 : (stockyardlaw24_ChunkerPrefix.j0 k t223 t233 true) = some r := by rw [if_neg (show ¬ (false = true) by decide)] at H; exact H
        clear H
        have H := H1
        clear H1
        have H' := Aside0.mk H
        clear H
        go_wp2_with (first | ((with_reducible refine gate_callee (f := 17) rfl ?_); refine goesL_ (some 36) rfl rfl Try.func17 (by kernel_rfl) rfl #[] rfl (by (try simp only [List.map_toArray, List.map_cons, List.map_nil]); first | done | rfl | (simp only [List.length_drop, List.length_take]; rfl)) ?_; (with_reducible refine (stockyardlaw24_known.calls k  true _ A27.out).mono ?_); rintro e w35 ⟨rfl, hb⟩; refine ⟨_, rfl, ?_⟩; have n0_ := Aside0.mk (Kd.R_below (by (with_reducible repeat (first | apply Kd.R_alloc | apply Kd.R_drewN | apply Kd.R_drew)); exact HO225.out) hb); have n1_ := Aside0.mk (Kd.N_below (by (with_reducible repeat (first | apply Kd.N_alloc | apply Kd.N_drewN | apply Kd.N_drew)); exact HO229.out) hb); have n2_ := Aside0.mk (Kd.R_below (by (with_reducible repeat (first | apply Kd.R_alloc | apply Kd.R_drewN | apply Kd.R_drew)); exact HO232.out) hb); have n3_ := Aside0.mk (Kd.R_below (by (with_reducible repeat (first | apply Kd.R_alloc | apply Kd.R_drewN | apply Kd.R_drew)); exact HO235.out) hb); have n4_ := Aside0.mk (IsS25.below (by repeat (first | (with_reducible first | exact HI208.out | apply IsS25.alloc | apply IsS25.drewN | apply IsS25.drew | apply IsS25.set_1 | refine IsS25.far ?_ NB208_214.out _) | exact HI208.out)) hb); have n5_ := Aside0.mk (blk_below (g := gb214) (o := .cells #[.int .i64 t209, .int .i64 t210, .int .i64 t211, .int .u64 t212] 28 (0, 0)) (by (with_reducible repeat (first | refine blk_drewN ?_ _ | refine blk_drew ?_ | refine blk_alloc ?_ _)); exact BK214.out) hb); have n6_ := Aside0.mk (below_step (by repeat (first | (with_reducible first | exact HB.out | apply below_alloc | apply pw_below_drewN | apply below_drew1 | refine below_set ?_ (IsS25.ge HI208.out) | refine below_set ?_ GE214.out) | exact HB.out)) hb); clear HO225; clear HO229; clear HO232; clear HO235; clear HI208; clear BK214; clear HB; have HO225 := n0_; have HO229 := n1_; have HO232 := n2_; have HO235 := n3_; have HI208 := n4_; have BK214 := n5_; have HB := n6_; clear n0_ n1_ n2_ n3_ n4_ n5_ n6_; (try clear hb); (try clear hb2); (try clear hk); (try clear hi)))
        go_meet
        case rel => exact ⟨_, (true), (by first | rfl | (simp; done) | (simp [*]; done)), H', ⟨by first | omega | exact Nat.le_refl _⟩, ⟨by (with_reducible repeat (first | apply Kd.R_alloc | apply Kd.R_drewN | apply Kd.R_drew)); exact Kd.R_mono HO225.out (fun _ hk => hk.2)⟩, ⟨by (with_reducible repeat (first | apply Kd.R_alloc | apply Kd.R_drewN | apply Kd.R_drew)); exact Kd.R_mono HO235.out (fun _ hk => hk.2)⟩, ⟨by (with_reducible repeat (first | refine blk_drewN ?_ _ | refine blk_drew ?_ | refine blk_alloc ?_ _)); exact BK214.out⟩, ⟨by repeat (first | (with_reducible first | exact HB.out | apply below_alloc | apply pw_below_drewN | apply below_drew1 | refine below_set ?_ (IsS25.ge HI208.out) | refine below_set ?_ GE214.out) | exact HB.out)⟩⟩
    · replace c28 := Bool.eq_false_iff.mpr c28
      subst c28
      have H1 : (stockyardlaw24_ChunkerPrefix.j0 k t223 t233 true) = some r := by rw [if_neg (show ¬ (false = true) by decide)] at H; exact H
      clear H
      have H := H1
      clear H1
      have H' := Aside0.mk H
      clear H
      go_wp2_with (first | ((with_reducible refine gate_callee (f := 17) rfl ?_); refine goesL_ (some 36) rfl rfl Try.func17 (by kernel_rfl) rfl #[] rfl (by (try simp only [List.map_toArray, List.map_cons, List.map_nil]); first | done | rfl | (simp only [List.length_drop, List.length_take]; rfl)) ?_; (with_reducible refine (stockyardlaw24_known.calls k  false _ A27.out).mono ?_); rintro e w36 ⟨rfl, hb⟩; refine ⟨_, rfl, ?_⟩; have n0_ := Aside0.mk (Kd.R_below (by (with_reducible repeat (first | apply Kd.R_alloc | apply Kd.R_drewN | apply Kd.R_drew)); exact HO225.out) hb); have n1_ := Aside0.mk (Kd.N_below (by (with_reducible repeat (first | apply Kd.N_alloc | apply Kd.N_drewN | apply Kd.N_drew)); exact HO229.out) hb); have n2_ := Aside0.mk (Kd.R_below (by (with_reducible repeat (first | apply Kd.R_alloc | apply Kd.R_drewN | apply Kd.R_drew)); exact HO232.out) hb); have n3_ := Aside0.mk (Kd.R_below (by (with_reducible repeat (first | apply Kd.R_alloc | apply Kd.R_drewN | apply Kd.R_drew)); exact HO235.out) hb); have n4_ := Aside0.mk (IsS25.below (by repeat (first | (with_reducible first | exact HI208.out | apply IsS25.alloc | apply IsS25.drewN | apply IsS25.drew | apply IsS25.set_1 | refine IsS25.far ?_ NB208_214.out _) | exact HI208.out)) hb); have n5_ := Aside0.mk (blk_below (g := gb214) (o := .cells #[.int .i64 t209, .int .i64 t210, .int .i64 t211, .int .u64 t212] 28 (0, 0)) (by (with_reducible repeat (first | refine blk_drewN ?_ _ | refine blk_drew ?_ | refine blk_alloc ?_ _)); exact BK214.out) hb); have n6_ := Aside0.mk (below_step (by repeat (first | (with_reducible first | exact HB.out | apply below_alloc | apply pw_below_drewN | apply below_drew1 | refine below_set ?_ (IsS25.ge HI208.out) | refine below_set ?_ GE214.out) | exact HB.out)) hb); clear HO225; clear HO229; clear HO232; clear HO235; clear HI208; clear BK214; clear HB; have HO225 := n0_; have HO229 := n1_; have HO232 := n2_; have HO235 := n3_; have HI208 := n4_; have BK214 := n5_; have HB := n6_; clear n0_ n1_ n2_ n3_ n4_ n5_ n6_; (try clear hb); (try clear hb2); (try clear hk); (try clear hi)))
      go_meet
      case rel => exact ⟨_, (true), (by first | rfl | (simp; done) | (simp [*]; done)), H', ⟨by first | omega | exact Nat.le_refl _⟩, ⟨by (with_reducible repeat (first | apply Kd.R_alloc | apply Kd.R_drewN | apply Kd.R_drew)); exact Kd.R_mono HO225.out (fun _ hk => hk.2)⟩, ⟨by (with_reducible repeat (first | apply Kd.R_alloc | apply Kd.R_drewN | apply Kd.R_drew)); exact Kd.R_mono HO235.out (fun _ hk => hk.2)⟩, ⟨by (with_reducible repeat (first | refine blk_drewN ?_ _ | refine blk_drew ?_ | refine blk_alloc ?_ _)); exact BK214.out⟩, ⟨by repeat (first | (with_reducible first | exact HB.out | apply below_alloc | apply pw_below_drewN | apply below_drew1 | refine below_set ?_ (IsS25.ge HI208.out) | refine below_set ?_ GE214.out) | exact HB.out)⟩⟩
  case rest =>
    clear HC8
    try clear c1
    try clear c2
    try clear p2
    try clear c3
    try clear c4
    try clear c12
    try clear c14
    try clear c15
    try clear c16
    try clear c17
    try clear c19
    try clear c28
    try clear c29
    try clear c30
    try clear hcz13_0
    try clear hcz13_1
    try clear hcz13_2
    try clear hcz13_3
    try clear hcz16_0
    try clear hcz16_1
    try clear hcz16_2
    try clear hcz16_3
    try clear hfz13_0
    try clear hfz13_1
    try clear hfz13_2
    try clear hfz13_3
    try clear hfz16_0
    try clear hfz16_1
    try clear hfz16_2
    try clear hfz16_3
    obtain ⟨kq, x52_7, rfl, HA, HJ7, HO_7, HO_9, BK214, HB⟩ := hcut
    cases kq with
    | zero => exact absurd HA.out (by simp [stockyardlaw24_ChunkerPrefix.j0])
    | succ kj7 =>
      have H := HA.out
      clear HA
      simp only [stockyardlaw24_ChunkerPrefix.j0] at H
      by_cases c37 : x52_7 = true
      · subst c37
        have H1 : (some false) = some r := by rw [if_pos rfl] at H; exact H
        clear H
        have H := H1
        clear H1
        exact absurd ((Option.some.inj H).trans HRT.out) (by decide)
      · replace c37 := Bool.eq_false_iff.mpr c37
        subst c37
        have H1 : (stockyardlaw24_ChunkerPrefix.l0 kj7 t223 t233 0) = some r := by rw [if_neg (show ¬ (false = true) by decide)] at H; exact H
        clear H
        have H := H1
        clear H1
        have H' := Aside0.mk H
        clear H
        go_wp2
        go_loopg [11] kj7 (fun kq v11 w' => ∃ (x11_2 : Int), v11 = .int .i64 x11_2 ∧ Aside0 (stockyardlaw24_ChunkerPrefix.l0 kq t223 t233 x11_2 = some r) ∧ Aside0 (kq ≤ kj7) ∧ Aside0 (Kd.R (Kd.int .i64) 3 w' w.heap.size (fun k_ => some k_ ≠ (v234 : Value).ownBlock) v224 t223) ∧ Aside0 (Kd.R (Kd.int .i64) 3 w' w.heap.size (fun k_ => some k_ ≠ (v224 : Value).ownBlock) v234 t233) ∧ Aside0 (w'.heap[gb214]? = some (.cells #[.int .i64 t209, .int .i64 t210, .int .i64 t211, .int .u64 t212] 28 (0, 0))) ∧ Aside0 (Below w.heap.size w w'))
        case atStart => exact ⟨(0), (by first | rfl | (simp; done) | (simp [*]; done)), H', ⟨Nat.le_refl _⟩, ⟨by (with_reducible repeat (first | apply Kd.R_alloc | apply Kd.R_drewN | apply Kd.R_drew)); exact HO_7.out⟩, ⟨by (with_reducible repeat (first | apply Kd.R_alloc | apply Kd.R_drewN | apply Kd.R_drew)); exact HO_9.out⟩, ⟨by (with_reducible repeat (first | refine blk_drewN ?_ _ | refine blk_drew ?_ | refine blk_alloc ?_ _)); exact BK214.out⟩, ⟨by repeat (first | (with_reducible first | exact HB.out | apply below_alloc | apply pw_below_drewN | apply below_drew1 | refine below_set ?_ GE214.out) | exact HB.out)⟩⟩
        case round =>
          clear H'
          try clear c1
          try clear c2
          try clear p2
          try clear c3
          try clear c4
          try clear c12
          try clear c14
          try clear c15
          try clear c16
          try clear c17
          try clear c19
          try clear c28
          try clear c29
          try clear c30
          try clear c37
          try clear hcz13_0
          try clear hcz13_1
          try clear hcz13_2
          try clear hcz13_3
          try clear hcz16_0
          try clear hcz16_1
          try clear hcz16_2
          try clear hcz16_3
          try clear hfz13_0
          try clear hfz13_1
          try clear hfz13_2
          try clear hfz13_3
          try clear hfz16_0
          try clear hfz16_1
          try clear hfz16_2
          try clear hfz16_3
          try clear p2
          obtain ⟨x11_2, rfl, HA, HK2, HO_7, HO_9, BK214, HB⟩ := hrel
          cases gk with
          | zero => exact absurd HA.out (by simp [stockyardlaw24_ChunkerPrefix.l0])
          | succ k2 =>
            have H := HA.out
            clear HA
            simp only [stockyardlaw24_ChunkerPrefix.l0] at H
            by_cases c38 : (wrap64 (x11_2 + 1)) < (t223.length : Int)
            · rw [if_pos c38] at H
              have c38b0 : decide ((wrap64 (x11_2 + 1)) < (t223.length : Int)) = true := decide_eq_true c38
              clear c38
              by_cases c39 : 0 ≤ x11_2
              · rw [if_pos c39] at H
                have c39b0 : decide (0 ≤ x11_2) = true := decide_eq_true c39
                clear c39
                by_cases c40 : x11_2 < (t223.length : Int)
                · rw [if_pos c40] at H
                  have c40b0 : decide (x11_2 < (t223.length : Int)) = true := decide_eq_true c40
                  clear c40
                  by_cases c41 : x11_2 < (t233.length : Int)
                  · rw [if_pos c41] at H
                    have c41b0 : decide (x11_2 < (t233.length : Int)) = true := decide_eq_true c41
                    clear c41
                    by_cases c42 : (rd t223 x11_2) = (rd t233 x11_2)
                    · rw [if_pos c42] at H
                      have c42b0 : ((rd t223 x11_2) == (rd t233 x11_2)) = true := beq_iff_eq.mpr c42
                      have c42b1 : ((rd t223 x11_2) != (rd t233 x11_2)) = false := bne_eq_false_iff_eq.mpr c42
                      clear c42
                      have H' := Aside0.mk H
                      clear H
                      obtain ⟨Ao43, co43, eo43⟩ := Kd.R_slice HO_7.out
                      subst eo43
                      try go_wp2
                      have n0_ := Aside0.mk (Kd.R_drew HO_7.out)
                      have n1_ := Aside0.mk (Kd.R_drew HO_9.out)
                      have n2_ := Aside0.mk (blk_drew BK214.out)
                      have n3_ := Aside0.mk (below_drew1 HB.out)
                      clear HO_7
                      clear HO_9
                      clear BK214
                      clear HB
                      have HO_7 := n0_
                      have HO_9 := n1_
                      have BK214 := n2_
                      have HB := n3_
                      clear n0_ n1_ n2_ n3_
                      have p238 : 0 ≤ (x11_2 : Int) := of_decide_eq_true (by first | (with_reducible assumption) | assumption)
                      have q238 : x11_2 < (t223.length : Int) := of_decide_eq_true (by first | (with_reducible assumption) | assumption)
                      obtain ⟨ad238, e238, hx238_0⟩ := Kd.at_int (Kd.R_reads' HO_7.out).2.2 x11_2 p238 q238
                      cases e238
                      replace p238 := eq_true p238
                      replace q238 := eq_true q238
                      obtain ⟨Ao45, co45, eo45⟩ := Kd.R_slice HO_9.out
                      (first | subst eo45 | (injection eo45 with f1_ f2_ f3_; have f4_ := f1_.symm; have f5_ := f3_.symm; clear f1_ f2_ f3_; subst f4_; subst f5_))
                      have p239 : 0 ≤ (x11_2 : Int) := of_decide_eq_true (by first | (with_reducible assumption) | assumption)
                      have q239 : x11_2 < (t233.length : Int) := of_decide_eq_true (by first | (with_reducible assumption) | assumption)
                      obtain ⟨ad239, e239, hx239_0⟩ := Kd.at_int (Kd.R_reads' HO_9.out).2.2 x11_2 p239 q239
                      cases e239
                      replace p239 := eq_true p239
                      replace q239 := eq_true q239
                      refine start_ (n := 9) (S := fun w' => w'.cell? (ad238.add (x11_2).toNat) = some (.int .i64 (rd t223 x11_2)) ∧ w'.cell? (ad239.add (x11_2).toNat) = some (.int .i64 (rd t233 x11_2))) (ds := []) #[false, false, false, false, false, false, false, false, false] (by kernel_rfl) rfl rfl ⟨hx238_0, hx239_0⟩ (fun hHeld => ?_); refine with_tabW stockyardlaw24_ChunkerPrefix.tab11 stockyardlaw24_ChunkerPrefix.bits11 (fun HT_ HW_ => ?_)
                      generalize wr.drew = w44 at HO_7 HO_9 BK214 HB hx238_0 hx239_0 hHeld ⊢
                      refine pure_ (i := 0) (N := some 60) (v := ?_) (a' := ?_) #[true, false, false, false, false, false, false, false, false] rfl rfl (any_of HT_.out (by kernel_rfl)) (fun _ _ _ h => h) (Or.inl ⟨by rfl, ?_⟩) ?_ ?_
                      rotate_left
                      · intro w'
                        go_simp
                        with_reducible rfl
                      rotate_left
                      · simp only [Act.put, List.setIfInBounds_toArray, List.set_cons_zero, List.set_cons_succ, i64_w, i32_w]
                        rfl
                      refine pure_ (i := 1) (N := some 61) (v := ?_) (a' := ?_) #[true, true, false, false, false, false, false, false, false] rfl rfl (any_of HT_.out (by kernel_rfl)) (fun _ _ _ h => h) (Or.inl ⟨by rfl, ?_⟩) ?_ ?_
                      rotate_left
                      · intro w'
                        go_simp
                        with_reducible rfl
                      rotate_left
                      · simp only [Act.put, List.setIfInBounds_toArray, List.set_cons_zero, List.set_cons_succ, i64_w, i32_w]
                        rfl
                      refine pure_ (i := 2) (N := some 62) (v := ?_) (a' := ?_) #[true, true, true, false, false, false, false, false, false] rfl rfl (any_of HT_.out (by kernel_rfl)) (fun _ _ _ h => h) (Or.inl ⟨by rfl, ?_⟩) ?_ ?_
                      rotate_left
                      · intro w'
                        go_simp
                        with_reducible rfl
                      rotate_left
                      · simp only [Act.put, List.setIfInBounds_toArray, List.set_cons_zero, List.set_cons_succ, i64_w, i32_w]
                        rfl
                      refine pure_ (i := 4) (N := some 64) (v := ?_) (a' := ?_) #[true, true, true, false, true, false, false, false, false] rfl rfl (any_of HT_.out (by kernel_rfl)) (fun _ _ _ h => h) (Or.inl ⟨by rfl, ?_⟩) ?_ ?_
                      rotate_left
                      · intro w'
                        go_simp
                        with_reducible rfl
                      rotate_left
                      · simp only [Act.put, List.setIfInBounds_toArray, List.set_cons_zero, List.set_cons_succ, i64_w, i32_w]
                        rfl
                      refine pure_ (i := 5) (N := some 65) (v := ?_) (a' := ?_) #[true, true, true, false, true, true, false, false, false] rfl rfl (any_of HT_.out (by kernel_rfl)) (fun _ _ _ h => h) (Or.inl ⟨by rfl, ?_⟩) ?_ ?_
                      rotate_left
                      · intro w'
                        go_simp
                        with_reducible rfl
                      rotate_left
                      · simp only [Act.put, List.setIfInBounds_toArray, List.set_cons_zero, List.set_cons_succ, i64_w, i32_w]
                        rfl
                      refine pure_ (i := 6) (N := some 66) (v := ?_) (a' := ?_) #[true, true, true, false, true, true, true, false, false] rfl rfl (any_of HT_.out (by kernel_rfl)) (fun _ _ _ h => h) (Or.inl ⟨by rfl, ?_⟩) ?_ ?_
                      rotate_left
                      · intro w'
                        go_simp
                        with_reducible rfl
                      rotate_left
                      · simp only [Act.put, List.setIfInBounds_toArray, List.set_cons_zero, List.set_cons_succ, i64_w, i32_w]
                        rfl
                      refine take_ (i := 3) (N := some 63) (v := ?_) (a' := ?_) #[true, true, true, true, true, true, true, false, false] rfl rfl (take_ofW HT_.out HW_.out (by kernel_rfl)) (fun _ _ _ h => h) (Or.inl ⟨by rfl, ?_⟩) hHeld ?_ ?_
                      rotate_left
                      · rintro w' ⟨s0, s1⟩
                        go_simp
                        with_reducible rfl
                      rotate_left
                      · simp only [Act.put, List.setIfInBounds_toArray, List.set_cons_zero, List.set_cons_succ, i64_w, i32_w]
                        rfl
                      refine take_ (i := 7) (N := some 67) (v := ?_) (a' := ?_) #[true, true, true, true, true, true, true, true, false] rfl rfl (take_ofW HT_.out HW_.out (by kernel_rfl)) (fun _ _ _ h => h) (Or.inl ⟨by rfl, ?_⟩) hHeld ?_ ?_
                      rotate_left
                      · rintro w' ⟨s0, s1⟩
                        go_simp
                        with_reducible rfl
                      rotate_left
                      · simp only [Act.put, List.setIfInBounds_toArray, List.set_cons_zero, List.set_cons_succ, i64_w, i32_w]
                        rfl
                      refine pure_ (i := 8) (N := some 68) (v := ?_) (a' := ?_) #[true, true, true, true, true, true, true, true, true] rfl rfl (any_of HT_.out (by kernel_rfl)) (fun _ _ _ h => h) (Or.inl ⟨by rfl, ?_⟩) ?_ ?_
                      rotate_left
                      · intro w'
                        go_simp
                        with_reducible rfl
                      rotate_left
                      · simp only [Act.put, List.setIfInBounds_toArray, List.set_cons_zero, List.set_cons_succ, i64_w, i32_w]
                        rfl
                      refine done_ (done_of HT_.out (by kernel_rfl)) ?_
                      try go_wp2
                      go_roundg k2
                      case measure => have := HJ7.out; have := HK2.out; omega
                      case rel => exact ⟨(wrap64 (x11_2 + 1)), (by first | rfl | (simp; done) | (simp [*]; done)), H', ⟨by have := HJ7.out; have := HK2.out; omega⟩, ⟨by (with_reducible repeat (first | apply Kd.R_alloc | apply Kd.R_drewN | apply Kd.R_drew)); exact HO_7.out⟩, ⟨by (with_reducible repeat (first | apply Kd.R_alloc | apply Kd.R_drewN | apply Kd.R_drew)); exact HO_9.out⟩, ⟨by (with_reducible repeat (first | refine blk_drewN ?_ _ | refine blk_drew ?_ | refine blk_alloc ?_ _)); exact BK214.out⟩, ⟨by repeat (first | (with_reducible first | exact HB.out | apply below_alloc | apply pw_below_drewN | apply below_drew1 | refine below_set ?_ GE214.out) | exact HB.out)⟩⟩
                    · rw [if_neg c42] at H
                      have c42b0 : ((rd t223 x11_2) == (rd t233 x11_2)) = false := beq_eq_false_iff_ne.mpr c42
                      have c42b1 : ((rd t223 x11_2) != (rd t233 x11_2)) = true := bne_iff_ne.mpr c42
                      exact absurd ((Option.some.inj H).trans HRT.out) (by decide)
                  · rw [if_neg c41] at H
                    exact absurd H (by simp)
                · rw [if_neg c40] at H
                  exact absurd H (by simp)
              · rw [if_neg c39] at H
                exact absurd H (by simp)
            · rw [if_neg c38] at H
              have c38b0 : decide ((wrap64 (x11_2 + 1)) < (t223.length : Int)) = false := decide_eq_false c38
              clear c38
              obtain rfl := Option.some.inj H
              obtain ⟨Ao46, co46, eo46⟩ := Kd.R_slice HO_7.out
              subst eo46
              go_wp2
              go_ret
              exact ⟨by first | rfl | (simp [errW_none, errW_some] <;> rfl) | (simp [*, errW_none, errW_some] <;> rfl), by repeat (first | (with_reducible first | exact HB.out | apply below_alloc | apply pw_below_drewN | apply below_drew1 | refine below_set ?_ GE214.out) | exact HB.out)⟩

/-- THE ONE PURE STATEMENT of stockyardlaw24_ChunkerPrefix: yours. -/
def stockyardlaw24_ChunkerPrefix.Pure : Prop := ∀ (l0 : List Int), l0.length ≤ maxLen → l0.length * 8 ≤ 140737488351232 → (∀ x ∈ l0, (Lit.int .i64 x).wf = true) → ∃ k, stockyardlaw24_ChunkerPrefix.f k l0 = some true
theorem stockyardlaw24_ChunkerPrefix.walk (P : stockyardlaw24_ChunkerPrefix.Pure) (a0 : Option Addr) (len0 cap0 : Nat) (z0 : List Int) (w : World) (w0 : (a0 = none ∧ len0 = 0 ∧ cap0 = 0 ∧ z0 = []) ∨ ∃ x, a0 = some x ∧ len0 ≤ cap0 ∧ cap0 ≤ maxLen ∧ z0.length = cap0 ∧ (∀ i, i < z0.length → w.cell? (x.add i) = some (.int .i64 (z0.getD i 0))) ∧ ∀ n ∈ z0, (Lit.int .i64 n).wf = true) (y0 : len0 * 8 ≤ 140737488351232) :
    Calls Try.prog 4 #[.slice a0 len0 cap0] w fun e w' => e = .returned (.bool true) ∧ Below w.heap.size w w' := by
  obtain ⟨l0, rfl, hr0, hm0, hw0, hc0⟩ := ReadsInt.ofRowC w0
  obtain ⟨k, h⟩ := P l0 hm0 y0 hw0
  refine (stockyardlaw24_ChunkerPrefix.calls k _ _ l0 true w (Kd.C_of_reads (d := (0 : Int)) (h1 := fun _ => rfl) hr0) hc0 h rfl).mono ?_
  rintro e w' ⟨rfl, hd⟩
  exact ⟨rfl, hd⟩

end Go.Proofs.Ytgfodmpdnhebjaa.P
