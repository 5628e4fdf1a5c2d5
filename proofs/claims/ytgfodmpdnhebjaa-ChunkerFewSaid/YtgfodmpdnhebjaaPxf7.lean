-- Printed by a program (pr.py over the kit's print) out of the translation.
import Derived.Test.YtgfodmpdnhebjaaPx0
import Derived.Test.YtgfodmpdnhebjaaPxf16
import Derived.Test.YtgfodmpdnhebjaaPxf18
import Derived.Test.YtgfodmpdnhebjaaPxf35
namespace Go.Proofs.Ytgfodmpdnhebjaa.P
open Go.RowKit Go.Proofs.YtgfodmpdnhebjaaW.PrintWords Go.Proofs.YtgfodmpdnhebjaaW.PrintLast Go.Proofs.YtgfodmpdnhebjaaW.PrintMore
attribute [local go_sem] max2_int min2_int max_two min_two max_three min_three max_four min_four   -- for this text's walks alone
set_option linter.unusedVariables false
set_option linter.unusedSimpArgs false

/-! ### stockyardlaw24_ChunkerFew: function 7 -/
mutual
def stockyardlaw24_ChunkerFew.j0 : Nat → List Int → List Int → List Int → Bool → Int → Int → Int → Int → Option (Bool)
  | 0, _, _, _, _, _, _, _, _ => none
  | k + 1, x5, x6, x9, x50, x338000, x338001, x338002, x338003 => if x50 = true then (some false) else (if x338001 = 0 then (none) else (if (x6.length : Int) < (wrap64 (Int.tdiv (wrap64 ((wrap64 ((x5.length : Int) + x338001)) - 1)) x338001)) then (stockyardlaw24_ChunkerFew.j1 k x6 x9 true) else (if x338000 = 0 then (none) else (stockyardlaw24_ChunkerFew.j1 k x6 x9 (decide ((x6.length : Int) > (wrap64 (Int.tdiv (wrap64 ((wrap64 ((x5.length : Int) + x338000)) - 1)) x338000))))))))
def stockyardlaw24_ChunkerFew.j1 : Nat → List Int → List Int → Bool → Option (Bool)
  | 0, _, _, _ => none
  | k + 1, x6, x9, x76 => if x76 = true then (some false) else (stockyardlaw24_ChunkerFew.l0 k x6 x9 0)
def stockyardlaw24_ChunkerFew.l0 : Nat → List Int → List Int → Int → Option (Bool)
  | 0, _, _, _ => none
  | k + 1, x6, x9, x12 => if x12 < (x6.length : Int) then (stockyardlaw24_ChunkerFew.j3 k x6 x9 x12 (decide (x12 < (x9.length : Int)))) else (stockyardlaw24_ChunkerFew.j3 k x6 x9 x12 false)
def stockyardlaw24_ChunkerFew.j3 : Nat → List Int → List Int → Int → Bool → Option (Bool)
  | 0, _, _, _, _ => none
  | k + 1, x6, x9, x12, x86 => if x86 = true then (if 0 ≤ x12 then (if x12 < (x6.length : Int) then (if x12 < (x9.length : Int) then (if (rd x6 x12) = (rd x9 x12) then (stockyardlaw24_ChunkerFew.l0 k x6 x9 (wrap64 (x12 + 1))) else (some (decide ((rd x9 x12) > (rd x6 x12))))) else (none)) else (none)) else (none)) else (some true)
end
def stockyardlaw24_ChunkerFew.f (k : Nat) (l0 : List Int) : Option (Bool) := (stockyardlaw24_made.f l0 0).bind fun bt332 => ((stockyardlaw24_text.f k l0 bt332.2.2.2.2 120).bind fun bt338 => ((stockyardlaw24_ends.f bt332.1 bt332.2.1 bt332.2.2.1 bt332.2.2.2.1 bt338.1).bind fun bt342 => ((stockyardlaw24_ends.f bt332.1 bt332.2.1 bt332.2.2.1 (Go.bits .or .u64 bt332.2.2.2.1 (Go.bits .or .u64 (IntKind.u64.wrap (bt332.2.2.2.1 * 2)) 1)) bt338.1).bind fun bt347 => ((stockyardlaw24_known.f k).bind fun t351 => (if t351 = true then (if bt342.2 = true then (stockyardlaw24_ChunkerFew.j0 k bt338.1 bt342.1 bt347.1 (!bt347.2) bt332.1 bt332.2.1 bt332.2.2.1 bt332.2.2.2.1) else (stockyardlaw24_ChunkerFew.j0 k bt338.1 bt342.1 bt347.1 true bt332.1 bt332.2.1 bt332.2.2.1 bt332.2.2.2.1)) else (stockyardlaw24_ChunkerFew.j0 k bt338.1 bt342.1 bt347.1 true bt332.1 bt332.2.1 bt332.2.2.1 bt332.2.2.2.1))))))
theorem stockyardlaw24_ChunkerFew.mono_l : ∀ k, (∀ y0 y1 y2 y3 y4 y5 y6 y7, LeO (stockyardlaw24_ChunkerFew.j0 k y0 y1 y2 y3 y4 y5 y6 y7) (stockyardlaw24_ChunkerFew.j0 (k + 1) y0 y1 y2 y3 y4 y5 y6 y7)) ∧ (∀ y0 y1 y2, LeO (stockyardlaw24_ChunkerFew.j1 k y0 y1 y2) (stockyardlaw24_ChunkerFew.j1 (k + 1) y0 y1 y2)) ∧ (∀ y0 y1 y2, LeO (stockyardlaw24_ChunkerFew.l0 k y0 y1 y2) (stockyardlaw24_ChunkerFew.l0 (k + 1) y0 y1 y2)) ∧ (∀ y0 y1 y2 y3, LeO (stockyardlaw24_ChunkerFew.j3 k y0 y1 y2 y3) (stockyardlaw24_ChunkerFew.j3 (k + 1) y0 y1 y2 y3))
  | 0 => ⟨fun _ _ _ _ _ _ _ _ r h => by simp [stockyardlaw24_ChunkerFew.j0] at h, fun _ _ _ r h => by simp [stockyardlaw24_ChunkerFew.j1] at h, fun _ _ _ r h => by simp [stockyardlaw24_ChunkerFew.l0] at h, fun _ _ _ _ r h => by simp [stockyardlaw24_ChunkerFew.j3] at h⟩
  | k + 1 => by
    obtain ⟨ih0, ih1, ih2, ih3⟩ := stockyardlaw24_ChunkerFew.mono_l k
    refine ⟨?_, ?_, ?_, ?_⟩
    · intro y0 y1 y2 y3 y4 y5 y6 y7
      unfold stockyardlaw24_ChunkerFew.j0
      repeat' first
      | (with_reducible exact ih0 _ _ _ _ _ _ _ _)
      | (with_reducible exact ih1 _ _ _)
      | (with_reducible exact ih2 _ _ _)
      | (with_reducible exact ih3 _ _ _ _)
      | (with_reducible exact stockyardlaw24_known.mono _)
      | (with_reducible exact stockyardlaw24_text.mono _ _ _ _)
      | (with_reducible exact LeO.refl _)
      | (with_reducible exact LeO.none _)
      | (with_reducible refine LeO.ite ?_ ?_)
      | (with_reducible refine LeO.bind ?_ (fun _ => ?_))
      | exact ih0 _ _ _ _ _ _ _ _
      | exact ih1 _ _ _
      | exact ih2 _ _ _
      | exact ih3 _ _ _ _
      | exact stockyardlaw24_known.mono _
      | exact stockyardlaw24_text.mono _ _ _ _
      | exact LeO.none _
      | refine LeO.ite ?_ ?_
      | refine LeO.bind ?_ (fun _ => ?_)
    · intro y0 y1 y2
      unfold stockyardlaw24_ChunkerFew.j1
      repeat' first
      | (with_reducible exact ih0 _ _ _ _ _ _ _ _)
      | (with_reducible exact ih1 _ _ _)
      | (with_reducible exact ih2 _ _ _)
      | (with_reducible exact ih3 _ _ _ _)
      | (with_reducible exact stockyardlaw24_known.mono _)
      | (with_reducible exact stockyardlaw24_text.mono _ _ _ _)
      | (with_reducible exact LeO.refl _)
      | (with_reducible exact LeO.none _)
      | (with_reducible refine LeO.ite ?_ ?_)
      | (with_reducible refine LeO.bind ?_ (fun _ => ?_))
      | exact ih0 _ _ _ _ _ _ _ _
      | exact ih1 _ _ _
      | exact ih2 _ _ _
      | exact ih3 _ _ _ _
      | exact stockyardlaw24_known.mono _
      | exact stockyardlaw24_text.mono _ _ _ _
      | exact LeO.none _
      | refine LeO.ite ?_ ?_
      | refine LeO.bind ?_ (fun _ => ?_)
    · intro y0 y1 y2
      unfold stockyardlaw24_ChunkerFew.l0
      repeat' first
      | (with_reducible exact ih0 _ _ _ _ _ _ _ _)
      | (with_reducible exact ih1 _ _ _)
      | (with_reducible exact ih2 _ _ _)
      | (with_reducible exact ih3 _ _ _ _)
      | (with_reducible exact stockyardlaw24_known.mono _)
      | (with_reducible exact stockyardlaw24_text.mono _ _ _ _)
      | (with_reducible exact LeO.refl _)
      | (with_reducible exact LeO.none _)
      | (with_reducible refine LeO.ite ?_ ?_)
      | (with_reducible refine LeO.bind ?_ (fun _ => ?_))
      | exact ih0 _ _ _ _ _ _ _ _
      | exact ih1 _ _ _
      | exact ih2 _ _ _
      | exact ih3 _ _ _ _
      | exact stockyardlaw24_known.mono _
      | exact stockyardlaw24_text.mono _ _ _ _
      | exact LeO.none _
      | refine LeO.ite ?_ ?_
      | refine LeO.bind ?_ (fun _ => ?_)
    · intro y0 y1 y2 y3
      unfold stockyardlaw24_ChunkerFew.j3
      repeat' first
      | (with_reducible exact ih0 _ _ _ _ _ _ _ _)
      | (with_reducible exact ih1 _ _ _)
      | (with_reducible exact ih2 _ _ _)
      | (with_reducible exact ih3 _ _ _ _)
      | (with_reducible exact stockyardlaw24_known.mono _)
      | (with_reducible exact stockyardlaw24_text.mono _ _ _ _)
      | (with_reducible exact LeO.refl _)
      | (with_reducible exact LeO.none _)
      | (with_reducible refine LeO.ite ?_ ?_)
      | (with_reducible refine LeO.bind ?_ (fun _ => ?_))
      | exact ih0 _ _ _ _ _ _ _ _
      | exact ih1 _ _ _
      | exact ih2 _ _ _
      | exact ih3 _ _ _ _
      | exact stockyardlaw24_known.mono _
      | exact stockyardlaw24_text.mono _ _ _ _
      | exact LeO.none _
      | refine LeO.ite ?_ ?_
      | refine LeO.bind ?_ (fun _ => ?_)
theorem stockyardlaw24_ChunkerFew.mono : ∀ a0 k, LeO (stockyardlaw24_ChunkerFew.f k a0) (stockyardlaw24_ChunkerFew.f (k + 1) a0) := by
  intro a0 k
  obtain ⟨ih0, ih1, ih2, ih3⟩ := stockyardlaw24_ChunkerFew.mono_l k
  unfold stockyardlaw24_ChunkerFew.f
  repeat' first
      | (with_reducible exact ih0 _ _ _ _ _ _ _ _)
      | (with_reducible exact ih1 _ _ _)
      | (with_reducible exact ih2 _ _ _)
      | (with_reducible exact ih3 _ _ _ _)
      | (with_reducible exact stockyardlaw24_known.mono _)
      | (with_reducible exact stockyardlaw24_text.mono _ _ _ _)
      | (with_reducible exact LeO.refl _)
      | (with_reducible exact LeO.none _)
      | (with_reducible refine LeO.ite ?_ ?_)
      | (with_reducible refine LeO.bind ?_ (fun _ => ?_))
      | exact ih0 _ _ _ _ _ _ _ _
      | exact ih1 _ _ _
      | exact ih2 _ _ _
      | exact ih3 _ _ _ _
      | exact stockyardlaw24_known.mono _
      | exact stockyardlaw24_text.mono _ _ _ _
      | exact LeO.none _
      | refine LeO.ite ?_ ?_
      | refine LeO.bind ?_ (fun _ => ?_)
set_option maxHeartbeats 8000000 in
set_option maxRecDepth 100000 in
theorem stockyardlaw24_ChunkerFew.calls (k : Nat) (A0 : Option Addr) (c0 : Nat) (l0 : List Int) (r : Bool) (w : World) (hr0 : Kd.C (Kd.int .i64) w A0 l0.length l0) (hc0 : l0.length ≤ c0) (h : stockyardlaw24_ChunkerFew.f k l0 = some r) (hrt : r = true) :
    Calls Try.prog 7 #[.slice A0 l0.length c0] w fun e w' => e = .returned (.bool r) ∧ Below w.heap.size w w' := by
  have HRT := Aside0.mk hrt
  clear hrt
  have hu25 := Try.underlying25
  have hu28 := Try.underlying28
  have HR0 := Aside0.mk hr0
  have HC0 := Aside0.mk hc0
  clear hr0 hc0
  have HB := Aside0.mk (Below.refl w.heap.size w)
  have H : ((stockyardlaw24_made.f l0 0).bind fun bt332 => ((stockyardlaw24_text.f k l0 bt332.2.2.2.2 120).bind fun bt338 => ((stockyardlaw24_ends.f bt332.1 bt332.2.1 bt332.2.2.1 bt332.2.2.2.1 bt338.1).bind fun bt342 => ((stockyardlaw24_ends.f bt332.1 bt332.2.1 bt332.2.2.1 (Go.bits .or .u64 bt332.2.2.2.1 (Go.bits .or .u64 (IntKind.u64.wrap (bt332.2.2.2.1 * 2)) 1)) bt338.1).bind fun bt347 => ((stockyardlaw24_known.f k).bind fun t351 => (if t351 = true then (if bt342.2 = true then (stockyardlaw24_ChunkerFew.j0 k bt338.1 bt342.1 bt347.1 (!bt347.2) bt332.1 bt332.2.1 bt332.2.2.1 bt332.2.2.2.1) else (stockyardlaw24_ChunkerFew.j0 k bt338.1 bt342.1 bt347.1 true bt332.1 bt332.2.1 bt332.2.2.1 bt332.2.2.2.1)) else (stockyardlaw24_ChunkerFew.j0 k bt338.1 bt342.1 bt347.1 true bt332.1 bt332.2.1 bt332.2.2.1 bt332.2.2.2.1))))))) = some r := h
  clear h
  replace H := Option.bind_eq_some_iff.mp H
  obtain ⟨⟨t332, t333, t334, t335, t336⟩, A20, H⟩ := H
  replace H : ((stockyardlaw24_text.f k l0 t336 120).bind fun bt338 => ((stockyardlaw24_ends.f t332 t333 t334 t335 bt338.1).bind fun bt342 => ((stockyardlaw24_ends.f t332 t333 t334 (Go.bits .or .u64 t335 (Go.bits .or .u64 (IntKind.u64.wrap (t335 * 2)) 1)) bt338.1).bind fun bt347 => ((stockyardlaw24_known.f k).bind fun t351 => (if t351 = true then (if bt342.2 = true then (stockyardlaw24_ChunkerFew.j0 k bt338.1 bt342.1 bt347.1 (!bt347.2) t332 t333 t334 t335) else (stockyardlaw24_ChunkerFew.j0 k bt338.1 bt342.1 bt347.1 true t332 t333 t334 t335)) else (stockyardlaw24_ChunkerFew.j0 k bt338.1 bt342.1 bt347.1 true t332 t333 t334 t335)))))) = some r := H
  have A2 := Aside0.mk A20
  clear A20
  replace H := Option.bind_eq_some_iff.mp H
  obtain ⟨⟨t338, t341⟩, A30, H⟩ := H
  replace H : ((stockyardlaw24_ends.f t332 t333 t334 t335 t338).bind fun bt342 => ((stockyardlaw24_ends.f t332 t333 t334 (Go.bits .or .u64 t335 (Go.bits .or .u64 (IntKind.u64.wrap (t335 * 2)) 1)) t338).bind fun bt347 => ((stockyardlaw24_known.f k).bind fun t351 => (if t351 = true then (if bt342.2 = true then (stockyardlaw24_ChunkerFew.j0 k t338 bt342.1 bt347.1 (!bt347.2) t332 t333 t334 t335) else (stockyardlaw24_ChunkerFew.j0 k t338 bt342.1 bt347.1 true t332 t333 t334 t335)) else (stockyardlaw24_ChunkerFew.j0 k t338 bt342.1 bt347.1 true t332 t333 t334 t335))))) = some r := H
  have A3 := Aside0.mk A30
  clear A30
  replace H := Option.bind_eq_some_iff.mp H
  obtain ⟨⟨t342, t345⟩, A40, H⟩ := H
  replace H : ((stockyardlaw24_ends.f t332 t333 t334 (Go.bits .or .u64 t335 (Go.bits .or .u64 (IntKind.u64.wrap (t335 * 2)) 1)) t338).bind fun bt347 => ((stockyardlaw24_known.f k).bind fun t351 => (if t351 = true then (if t345 = true then (stockyardlaw24_ChunkerFew.j0 k t338 t342 bt347.1 (!bt347.2) t332 t333 t334 t335) else (stockyardlaw24_ChunkerFew.j0 k t338 t342 bt347.1 true t332 t333 t334 t335)) else (stockyardlaw24_ChunkerFew.j0 k t338 t342 bt347.1 true t332 t333 t334 t335)))) = some r := H
  have A4 := Aside0.mk A40
  clear A40
  replace H := Option.bind_eq_some_iff.mp H
  obtain ⟨⟨t347, t350⟩, A50, H⟩ := H
  replace H : ((stockyardlaw24_known.f k).bind fun t351 => (if t351 = true then (if t345 = true then (stockyardlaw24_ChunkerFew.j0 k t338 t342 t347 (!t350) t332 t333 t334 t335) else (stockyardlaw24_ChunkerFew.j0 k t338 t342 t347 true t332 t333 t334 t335)) else (stockyardlaw24_ChunkerFew.j0 k t338 t342 t347 true t332 t333 t334 t335))) = some r := H
  have A5 := Aside0.mk A50
  clear A50
  have HC6 := Aside0.mk H
  clear H
  go_enter Try.func7, Try.ntmps7
  go_upto_region 6 with (first | ((with_reducible refine gate_dst (N := 15) rfl ?_); (try (refine gate_guard (by rfl) ?_; dsimp only)); refine box_event ?hg (N := 15) ?hd (cs := #[.slice A0 l0.length c0, .int .i64 0]) (t := 25) ?hr ?_; (case hd => rfl); (case hg => rfl); (case hr => first | (go_simp; done) | (go_simp; rfl)); intro gb331 hg w7 hbox hb; have n0_ := Aside0.mk (below_step (by repeat (first | (with_reducible first | exact HB.out | apply below_alloc | apply pw_below_drewN | apply below_drew1) | exact HB.out)) hb); have n1_ := Aside0.mk ((by rw [hg]; exact (below_size (by repeat (first | (with_reducible first | exact HB.out | apply below_alloc | apply pw_below_drewN | apply below_drew1) | exact HB.out))) : w.heap.size ≤ gb331)); have n2_ := Aside0.mk ((by rw [hg]; exact (below_size (by repeat (first | (with_reducible first | exact HB.out | apply below_alloc | apply pw_below_drewN | apply below_drew1) | exact HB.out))) : w.heap.size ≤ gb331)); have n3_ := Aside0.mk ((show IsS25 w w7 gb331 l0 0 from ⟨_, _, hbox, (by rw [hg]; exact (below_size (by repeat (first | (with_reducible first | exact HB.out | apply below_alloc | apply pw_below_drewN | apply below_drew1) | exact HB.out))) : w.heap.size ≤ gb331), HR0.out⟩)); clear HB; have HB := n0_; have GW331 := n1_; have GE331 := n2_; have HI331 := n3_; clear n0_ n1_ n2_ n3_; clear hb hbox hg) | (go_at_call 14; (with_reducible refine (stockyardlaw24_made.calls gb331 l0 0 t332 t333 t334 t335 t336 w _ ?side1 ?side2 A2.out).mono ?_); (case side1 => repeat (first | (with_reducible first | exact HI331.out | apply IsS25.alloc | apply IsS25.drewN | apply IsS25.drew | apply IsS25.set_1) | exact HI331.out)); (case side2 => repeat (first | (with_reducible first | exact HB.out | apply below_alloc | apply pw_below_drewN | apply below_drew1 | refine below_set ?_ (IsS25.ge HI331.out)) | exact HB.out)); rintro e w8 ⟨rfl, hi, hb, hk⟩; have n0_ := Aside0.mk (hb); have n1_ := Aside0.mk (hi); clear HB; clear HI331; have HB := n0_; have HI331 := n1_; clear n0_ n1_; (try clear hb); (try clear hb2); (try clear hk); (try clear hi)) | ((with_reducible refine gate_dst (N := 4) rfl ?_); (try (refine gate_guard (by rfl) ?_; dsimp only)); refine box_event ?hg (N := 4) ?hd (cs := #[.int .i64 0, .int .i64 0, .int .i64 0, .int .u64 0]) (t := 28) ?hr ?_; (case hd => rfl); (case hg => rfl); (case hr => first | (go_simp; done) | (go_simp; rfl)); intro gb337 hg w9 hbox hb; have n0_ := Aside0.mk (IsS25.below (by repeat (first | (with_reducible first | exact HI331.out | apply IsS25.alloc | apply IsS25.drewN | apply IsS25.drew | apply IsS25.set_1) | exact HI331.out)) hb); have n1_ := Aside0.mk (below_step (by repeat (first | (with_reducible first | exact HB.out | apply below_alloc | apply pw_below_drewN | apply below_drew1 | refine below_set ?_ (IsS25.ge HI331.out)) | exact HB.out)) hb); have n2_ := Aside0.mk (hbox); have n3_ := Aside0.mk ((by rw [hg]; exact (below_size (by repeat (first | (with_reducible first | exact HB.out | apply below_alloc | apply pw_below_drewN | apply below_drew1 | refine below_set ?_ (IsS25.ge HI331.out)) | exact HB.out))) : w.heap.size ≤ gb337)); have n4_ := Aside0.mk ((by rw [hg]; exact (below_size (by repeat (first | (with_reducible first | exact HB.out | apply below_alloc | apply pw_below_drewN | apply below_drew1 | refine below_set ?_ (IsS25.ge HI331.out)) | exact HB.out))) : w.heap.size ≤ gb337)); have n5_ := Aside0.mk ((by rw [hg]; exact Nat.ne_of_lt (IsS25.lt (show IsS25 w _ gb331 l0 t336 from by repeat (first | (with_reducible first | exact HI331.out | apply IsS25.alloc | apply IsS25.drewN | apply IsS25.drew | apply IsS25.set_1) | exact HI331.out))) : gb331 ≠ gb337)); have n6_ := Aside0.mk ((by rw [hg]; exact Nat.ne_of_gt (IsS25.lt (show IsS25 w _ gb331 l0 t336 from by repeat (first | (with_reducible first | exact HI331.out | apply IsS25.alloc | apply IsS25.drewN | apply IsS25.drew | apply IsS25.set_1) | exact HI331.out))) : gb337 ≠ gb331)); clear HI331; clear HB; have HI331 := n0_; have HB := n1_; have BK337 := n2_; have GW337 := n3_; have GE337 := n4_; have NB331_337 := n5_; have NB337_331 := n6_; clear n0_ n1_ n2_ n3_ n4_ n5_ n6_; clear hb hbox hg; have hnb10 := NB337_331.out; have hnc10 := NB331_337.out; have hcz11_0 : w9.cell? ⟨gb337, 0, none⟩ = some (.int .i64 0) := (blk_cell BK337.out 0).trans rfl; have hcz11_1 : w9.cell? ⟨gb337, 1, none⟩ = some (.int .i64 0) := (blk_cell BK337.out 1).trans rfl; have hcz11_2 : w9.cell? ⟨gb337, 2, none⟩ = some (.int .i64 0) := (blk_cell BK337.out 2).trans rfl; have hcz11_3 : w9.cell? ⟨gb337, 3, none⟩ = some (.int .u64 0) := (blk_cell BK337.out 3).trans rfl; have hfz11_0 := blk_frozen BK337.out 0; have hfz11_1 := blk_frozen BK337.out 1; have hfz11_2 := blk_frozen BK337.out 2; have hfz11_3 := blk_frozen BK337.out 3) | (go_at_call 15; (with_reducible refine (stockyardlaw24_text.calls k gb331 l0 t336 120 t338 t341 w _ ?side1 ?side2 A3.out).mono ?_); (case side1 => repeat (first | (with_reducible first | exact HI331.out | apply IsS25.alloc | apply IsS25.drewN | apply IsS25.drew | apply IsS25.set_1 | refine IsS25.far ?_ NB331_337.out _) | exact HI331.out)); (case side2 => repeat (first | (with_reducible first | exact HB.out | apply below_alloc | apply pw_below_drewN | apply below_drew1 | refine below_set ?_ (IsS25.ge HI331.out) | refine below_set ?_ GE337.out) | exact HB.out)); rintro e w12 ⟨v339, rfl, ho0, hi, hb, hk⟩; have n0_ := Aside0.mk (KeepBut.blk hk (g' := gb337) (o := .cells #[.int .i64 t332, .int .i64 t333, .int .i64 t334, .int .u64 t335] 28 (0, 0)) (by (with_reducible repeat (first | refine blk_drewN ?_ _ | refine blk_drew ?_ | refine blk_alloc ?_ _)); refine blk_put (cs := #[.int .i64 t332, .int .i64 t333, .int .i64 t334, .int .u64 0]) ?_ 3 _ rfl; (with_reducible repeat (first | refine blk_drewN ?_ _ | refine blk_drew ?_ | refine blk_alloc ?_ _)); refine blk_put (cs := #[.int .i64 t332, .int .i64 t333, .int .i64 0, .int .u64 0]) ?_ 2 _ rfl; (with_reducible repeat (first | refine blk_drewN ?_ _ | refine blk_drew ?_ | refine blk_alloc ?_ _)); refine blk_put (cs := #[.int .i64 t332, .int .i64 0, .int .i64 0, .int .u64 0]) ?_ 1 _ rfl; (with_reducible repeat (first | refine blk_drewN ?_ _ | refine blk_drew ?_ | refine blk_alloc ?_ _)); refine blk_put (cs := #[.int .i64 0, .int .i64 0, .int .i64 0, .int .u64 0]) ?_ 0 _ rfl; (with_reducible repeat (first | refine blk_drewN ?_ _ | refine blk_drew ?_ | refine blk_alloc ?_ _)); exact BK337.out) NB337_331.out (by simp)); have n1_ := Aside0.mk (Kd.R_lower ho0 (below_size (by repeat (first | (with_reducible first | exact HB.out | apply below_alloc | apply pw_below_drewN | apply below_drew1 | refine below_set ?_ (IsS25.ge HI331.out) | refine below_set ?_ GE337.out) | exact HB.out)))); have n2_ := Aside0.mk (hb); have n3_ := Aside0.mk (hi); clear BK337; clear HB; clear HI331; have BK337 := n0_; have HO340 := n1_; have HB := n2_; have HI331 := n3_; clear n0_ n1_ n2_ n3_; (try clear hb); (try clear hb2); (try clear hk); (try clear hi); (try clear ho0); have hcz13_0 : w12.cell? ⟨gb337, 0, none⟩ = some (.int .i64 t332) := (blk_cell BK337.out 0).trans rfl; have hcz13_1 : w12.cell? ⟨gb337, 1, none⟩ = some (.int .i64 t333) := (blk_cell BK337.out 1).trans rfl; have hcz13_2 : w12.cell? ⟨gb337, 2, none⟩ = some (.int .i64 t334) := (blk_cell BK337.out 2).trans rfl; have hcz13_3 : w12.cell? ⟨gb337, 3, none⟩ = some (.int .u64 t335) := (blk_cell BK337.out 3).trans rfl; have hfz13_0 := blk_frozen BK337.out 0; have hfz13_1 := blk_frozen BK337.out 1; have hfz13_2 := blk_frozen BK337.out 2; have hfz13_3 := blk_frozen BK337.out 3; obtain ⟨Ao14, co14, eo14⟩ := Kd.R_slice HO340.out; subst eo14) | (go_at_call 16; (with_reducible refine (stockyardlaw24_ends.calls t332 t333 t334 t335 _ _ t338 t342 t345 _ ?side1 ?side2 A4.out).mono ?_); (case side1 => repeat (first | exact (Kd.R_reads' HO340.out).2.2 | (with_reducible refine Kd.C_alloc ?_ _) | (with_reducible refine Kd.C_drewN ?_ _) | (with_reducible refine Kd.C_drew ?_))); (case side2 => exact (Kd.R_reads' HO340.out).2.1); rintro e w15 ⟨v343, rfl, ho0, hb⟩; have n0_ := Aside0.mk (Kd.R_below (by (with_reducible repeat (first | apply Kd.R_alloc | apply Kd.R_drewN | apply Kd.R_drew)); exact HO340.out) hb); have n1_ := Aside0.mk (Kd.R_lower ho0 (below_size (by repeat (first | (with_reducible first | exact HB.out | apply below_alloc | apply pw_below_drewN | apply below_drew1 | refine below_set ?_ (IsS25.ge HI331.out) | refine below_set ?_ GE337.out) | exact HB.out)))); have n2_ := Aside0.mk (IsS25.below (by repeat (first | (with_reducible first | exact HI331.out | apply IsS25.alloc | apply IsS25.drewN | apply IsS25.drew | apply IsS25.set_1 | refine IsS25.far ?_ NB331_337.out _) | exact HI331.out)) hb); have n3_ := Aside0.mk (blk_below (g := gb337) (o := .cells #[.int .i64 t332, .int .i64 t333, .int .i64 t334, .int .u64 t335] 28 (0, 0)) (by (with_reducible repeat (first | refine blk_drewN ?_ _ | refine blk_drew ?_ | refine blk_alloc ?_ _)); exact BK337.out) hb); have n4_ := Aside0.mk (below_step (by repeat (first | (with_reducible first | exact HB.out | apply below_alloc | apply pw_below_drewN | apply below_drew1 | refine below_set ?_ (IsS25.ge HI331.out) | refine below_set ?_ GE337.out) | exact HB.out)) hb); clear HO340; clear HI331; clear BK337; clear HB; have HO340 := n0_; have HO344 := n1_; have HI331 := n2_; have BK337 := n3_; have HB := n4_; clear n0_ n1_ n2_ n3_ n4_; (try clear hb); (try clear hb2); (try clear hk); (try clear hi); (try clear ho0); have hcz16_0 : w15.cell? ⟨gb337, 0, none⟩ = some (.int .i64 t332) := (blk_cell BK337.out 0).trans rfl; have hcz16_1 : w15.cell? ⟨gb337, 1, none⟩ = some (.int .i64 t333) := (blk_cell BK337.out 1).trans rfl; have hcz16_2 : w15.cell? ⟨gb337, 2, none⟩ = some (.int .i64 t334) := (blk_cell BK337.out 2).trans rfl; have hcz16_3 : w15.cell? ⟨gb337, 3, none⟩ = some (.int .u64 t335) := (blk_cell BK337.out 3).trans rfl; have hfz16_0 := blk_frozen BK337.out 0; have hfz16_1 := blk_frozen BK337.out 1; have hfz16_2 := blk_frozen BK337.out 2; have hfz16_3 := blk_frozen BK337.out 3) | ((with_reducible refine gate_dst (N := 8) rfl ?_); (try (refine gate_guard (by rfl) ?_; dsimp only)); refine box_event ?hg (N := 8) ?hd (cs := #[.int .i64 0, .int .i64 0, .int .i64 0, .int .u64 0]) (t := 28) ?hr ?_; (case hd => rfl); (case hg => rfl); (case hr => first | (go_simp; done) | (go_simp; rfl)); intro gb346 hg w17 hbox hb; have n0_ := Aside0.mk (Kd.R_below (by (with_reducible repeat (first | apply Kd.R_alloc | apply Kd.R_drewN | apply Kd.R_drew)); exact HO340.out) hb); have n1_ := Aside0.mk (Kd.R_below (by (with_reducible repeat (first | apply Kd.R_alloc | apply Kd.R_drewN | apply Kd.R_drew)); exact HO344.out) hb); have n2_ := Aside0.mk (IsS25.below (by repeat (first | (with_reducible first | exact HI331.out | apply IsS25.alloc | apply IsS25.drewN | apply IsS25.drew | apply IsS25.set_1 | refine IsS25.far ?_ NB331_337.out _) | exact HI331.out)) hb); have n3_ := Aside0.mk (blk_below (g := gb337) (o := .cells #[.int .i64 t332, .int .i64 t333, .int .i64 t334, .int .u64 t335] 28 (0, 0)) (by (with_reducible repeat (first | refine blk_drewN ?_ _ | refine blk_drew ?_ | refine blk_alloc ?_ _)); exact BK337.out) hb); have n4_ := Aside0.mk (below_step (by repeat (first | (with_reducible first | exact HB.out | apply below_alloc | apply pw_below_drewN | apply below_drew1 | refine below_set ?_ (IsS25.ge HI331.out) | refine below_set ?_ GE337.out) | exact HB.out)) hb); have n5_ := Aside0.mk (hbox); have n6_ := Aside0.mk ((by rw [hg]; exact (below_size (by repeat (first | (with_reducible first | exact HB.out | apply below_alloc | apply pw_below_drewN | apply below_drew1 | refine below_set ?_ (IsS25.ge HI331.out) | refine below_set ?_ GE337.out) | exact HB.out))) : w.heap.size ≤ gb346)); have n7_ := Aside0.mk ((by rw [hg]; exact (below_size (by repeat (first | (with_reducible first | exact HB.out | apply below_alloc | apply pw_below_drewN | apply below_drew1 | refine below_set ?_ (IsS25.ge HI331.out) | refine below_set ?_ GE337.out) | exact HB.out))) : w.heap.size ≤ gb346)); have n8_ := Aside0.mk ((by rw [hg]; exact Nat.ne_of_lt (blk_lt (g := gb337) (o := .cells #[.int .i64 t332, .int .i64 t333, .int .i64 t334, .int .u64 t335] 28 (0, 0)) (by (with_reducible repeat (first | refine blk_drewN ?_ _ | refine blk_drew ?_ | refine blk_alloc ?_ _)); exact BK337.out)) : gb337 ≠ gb346)); have n9_ := Aside0.mk ((by rw [hg]; exact Nat.ne_of_gt (blk_lt (g := gb337) (o := .cells #[.int .i64 t332, .int .i64 t333, .int .i64 t334, .int .u64 t335] 28 (0, 0)) (by (with_reducible repeat (first | refine blk_drewN ?_ _ | refine blk_drew ?_ | refine blk_alloc ?_ _)); exact BK337.out)) : gb346 ≠ gb337)); have n10_ := Aside0.mk ((by rw [hg]; exact Nat.ne_of_lt (IsS25.lt (show IsS25 w _ gb331 l0 t341 from by repeat (first | (with_reducible first | exact HI331.out | apply IsS25.alloc | apply IsS25.drewN | apply IsS25.drew | apply IsS25.set_1 | refine IsS25.far ?_ NB331_337.out _) | exact HI331.out))) : gb331 ≠ gb346)); have n11_ := Aside0.mk ((by rw [hg]; exact Nat.ne_of_gt (IsS25.lt (show IsS25 w _ gb331 l0 t341 from by repeat (first | (with_reducible first | exact HI331.out | apply IsS25.alloc | apply IsS25.drewN | apply IsS25.drew | apply IsS25.set_1 | refine IsS25.far ?_ NB331_337.out _) | exact HI331.out))) : gb346 ≠ gb331)); clear HO340; clear HO344; clear HI331; clear BK337; clear HB; have HO340 := n0_; have HO344 := n1_; have HI331 := n2_; have BK337 := n3_; have HB := n4_; have BK346 := n5_; have GW346 := n6_; have GE346 := n7_; have NB337_346 := n8_; have NB346_337 := n9_; have NB331_346 := n10_; have NB346_331 := n11_; clear n0_ n1_ n2_ n3_ n4_ n5_ n6_ n7_ n8_ n9_ n10_ n11_; clear hb hbox hg; have hnb18 := NB346_337.out; have hnc18 := NB337_346.out; have hnb19 := NB346_331.out; have hnc19 := NB331_346.out; have hcz20_0 : w17.cell? ⟨gb346, 0, none⟩ = some (.int .i64 0) := (blk_cell BK346.out 0).trans rfl; have hcz20_1 : w17.cell? ⟨gb346, 1, none⟩ = some (.int .i64 0) := (blk_cell BK346.out 1).trans rfl; have hcz20_2 : w17.cell? ⟨gb346, 2, none⟩ = some (.int .i64 0) := (blk_cell BK346.out 2).trans rfl; have hcz20_3 : w17.cell? ⟨gb346, 3, none⟩ = some (.int .u64 0) := (blk_cell BK346.out 3).trans rfl; have hfz20_0 := blk_frozen BK346.out 0; have hfz20_1 := blk_frozen BK346.out 1; have hfz20_2 := blk_frozen BK346.out 2; have hfz20_3 := blk_frozen BK346.out 3) | (go_at_call 16; (with_reducible refine (stockyardlaw24_ends.calls t332 t333 t334 (Go.bits .or .u64 t335 (Go.bits .or .u64 (IntKind.u64.wrap (t335 * 2)) 1)) _ _ t338 t347 t350 _ ?side1 ?side2 A5.out).mono ?_); (case side1 => refine (Kd.R_reads' (e := 5) (base := w.heap.size) (ok := fun k_ => True) (n := t338.length) (c := co14) ?_).2.2; exact (by (with_reducible repeat (first | apply Kd.R_alloc | apply Kd.R_drewN | apply Kd.R_drew)); exact (Kd.R_mono (Kd.R_far (p := ⟨gb346, 3, none⟩) (Kd.R_far (p := ⟨gb346, 3, none⟩) (Kd.R_far (p := ⟨gb346, 2, none⟩) (Kd.R_far (p := ⟨gb346, 1, none⟩) (Kd.R_far (p := ⟨gb346, 0, none⟩) (Kd.R_types HO340.out BK346.out (by decide)) (fun _ hk => hk.2) (.int .i64 t332)) (fun _ hk => hk.2) (.int .i64 t333)) (fun _ hk => hk.2) (.int .i64 t334)) (fun _ hk => hk.2) (.int .u64 t335)) (fun _ hk => hk.2) (.int .u64 (Go.bits .or .u64 t335 (Go.bits .or .u64 (IntKind.u64.wrap (t335 * 2)) 1)))) (fun _ h_ => h_.1)))); (case side2 => exact (Kd.R_reads' HO340.out).2.1); rintro e w21 ⟨v348, rfl, ho0, hb⟩; have n0_ := Aside0.mk (Kd.R_below (by (with_reducible repeat (first | apply Kd.R_alloc | apply Kd.R_drewN | apply Kd.R_drew)); exact (Kd.R_mono (Kd.R_far (p := ⟨gb346, 3, none⟩) (Kd.R_far (p := ⟨gb346, 3, none⟩) (Kd.R_far (p := ⟨gb346, 2, none⟩) (Kd.R_far (p := ⟨gb346, 1, none⟩) (Kd.R_far (p := ⟨gb346, 0, none⟩) (Kd.R_types HO340.out BK346.out (by decide)) (fun _ hk => hk.2) (.int .i64 t332)) (fun _ hk => hk.2) (.int .i64 t333)) (fun _ hk => hk.2) (.int .i64 t334)) (fun _ hk => hk.2) (.int .u64 t335)) (fun _ hk => hk.2) (.int .u64 (Go.bits .or .u64 t335 (Go.bits .or .u64 (IntKind.u64.wrap (t335 * 2)) 1)))) (fun _ h_ => h_.1))) hb); have n1_ := Aside0.mk (Kd.R_elder' (by (with_reducible repeat (first | apply Kd.R_alloc | apply Kd.R_drewN | apply Kd.R_drew)); exact (Kd.R_mono (Kd.R_far (p := ⟨gb346, 3, none⟩) (Kd.R_far (p := ⟨gb346, 3, none⟩) (Kd.R_far (p := ⟨gb346, 2, none⟩) (Kd.R_far (p := ⟨gb346, 1, none⟩) (Kd.R_far (p := ⟨gb346, 0, none⟩) (Kd.R_types HO344.out BK346.out (by decide)) (fun _ hk => hk.2) (.int .i64 t332)) (fun _ hk => hk.2) (.int .i64 t333)) (fun _ hk => hk.2) (.int .i64 t334)) (fun _ hk => hk.2) (.int .u64 t335)) (fun _ hk => hk.2) (.int .u64 (Go.bits .or .u64 t335 (Go.bits .or .u64 (IntKind.u64.wrap (t335 * 2)) 1)))) (fun _ h_ => h_.1))) (Kd.R_base ho0) hb); have n2_ := Aside0.mk (Kd.R_lower (Kd.R_new' ho0 (Kd.R_lt (by (with_reducible repeat (first | apply Kd.R_alloc | apply Kd.R_drewN | apply Kd.R_drew)); exact (Kd.R_mono (Kd.R_far (p := ⟨gb346, 3, none⟩) (Kd.R_far (p := ⟨gb346, 3, none⟩) (Kd.R_far (p := ⟨gb346, 2, none⟩) (Kd.R_far (p := ⟨gb346, 1, none⟩) (Kd.R_far (p := ⟨gb346, 0, none⟩) (Kd.R_types HO344.out BK346.out (by decide)) (fun _ hk => hk.2) (.int .i64 t332)) (fun _ hk => hk.2) (.int .i64 t333)) (fun _ hk => hk.2) (.int .i64 t334)) (fun _ hk => hk.2) (.int .u64 t335)) (fun _ hk => hk.2) (.int .u64 (Go.bits .or .u64 t335 (Go.bits .or .u64 (IntKind.u64.wrap (t335 * 2)) 1)))) (fun _ h_ => h_.1))))) (below_size (by repeat (first | (with_reducible first | exact HB.out | apply below_alloc | apply pw_below_drewN | apply below_drew1 | refine below_set ?_ (IsS25.ge HI331.out) | refine below_set ?_ GE337.out | refine below_set ?_ GE346.out) | exact HB.out)))); have n3_ := Aside0.mk (IsS25.below (show IsS25 w (((((w17.setCell ⟨gb346, 0, none⟩ (.int .i64 t332)).setCell ⟨gb346, 1, none⟩ (.int .i64 t333)).setCell ⟨gb346, 2, none⟩ (.int .i64 t334)).setCell ⟨gb346, 3, none⟩ (.int .u64 t335)).setCell ⟨gb346, 3, none⟩ (.int .u64 (Go.bits .or .u64 t335 (Go.bits .or .u64 (IntKind.u64.wrap (t335 * 2)) 1)))) gb331 l0 t341 from by repeat (first | (with_reducible first | exact HI331.out | apply IsS25.alloc | apply IsS25.drewN | apply IsS25.drew | apply IsS25.set_1 | refine IsS25.far ?_ NB331_337.out _ | refine IsS25.far ?_ NB331_346.out _) | exact HI331.out)) hb); have n4_ := Aside0.mk (blk_below (g := gb337) (o := .cells #[.int .i64 t332, .int .i64 t333, .int .i64 t334, .int .u64 t335] 28 (0, 0)) (by (with_reducible repeat (first | refine blk_drewN ?_ _ | refine blk_drew ?_ | refine blk_alloc ?_ _)); refine blk_far ?_ NB337_346.out _; (with_reducible repeat (first | refine blk_drewN ?_ _ | refine blk_drew ?_ | refine blk_alloc ?_ _)); refine blk_far ?_ NB337_346.out _; (with_reducible repeat (first | refine blk_drewN ?_ _ | refine blk_drew ?_ | refine blk_alloc ?_ _)); refine blk_far ?_ NB337_346.out _; (with_reducible repeat (first | refine blk_drewN ?_ _ | refine blk_drew ?_ | refine blk_alloc ?_ _)); refine blk_far ?_ NB337_346.out _; (with_reducible repeat (first | refine blk_drewN ?_ _ | refine blk_drew ?_ | refine blk_alloc ?_ _)); refine blk_far ?_ NB337_346.out _; (with_reducible repeat (first | refine blk_drewN ?_ _ | refine blk_drew ?_ | refine blk_alloc ?_ _)); exact BK337.out) hb); have n5_ := Aside0.mk (blk_below (g := gb346) (o := .cells #[.int .i64 t332, .int .i64 t333, .int .i64 t334, .int .u64 (Go.bits .or .u64 t335 (Go.bits .or .u64 (IntKind.u64.wrap (t335 * 2)) 1))] 28 (0, 0)) (by (with_reducible repeat (first | refine blk_drewN ?_ _ | refine blk_drew ?_ | refine blk_alloc ?_ _)); refine blk_put (cs := #[.int .i64 t332, .int .i64 t333, .int .i64 t334, .int .u64 t335]) ?_ 3 _ rfl; (with_reducible repeat (first | refine blk_drewN ?_ _ | refine blk_drew ?_ | refine blk_alloc ?_ _)); refine blk_put (cs := #[.int .i64 t332, .int .i64 t333, .int .i64 t334, .int .u64 0]) ?_ 3 _ rfl; (with_reducible repeat (first | refine blk_drewN ?_ _ | refine blk_drew ?_ | refine blk_alloc ?_ _)); refine blk_put (cs := #[.int .i64 t332, .int .i64 t333, .int .i64 0, .int .u64 0]) ?_ 2 _ rfl; (with_reducible repeat (first | refine blk_drewN ?_ _ | refine blk_drew ?_ | refine blk_alloc ?_ _)); refine blk_put (cs := #[.int .i64 t332, .int .i64 0, .int .i64 0, .int .u64 0]) ?_ 1 _ rfl; (with_reducible repeat (first | refine blk_drewN ?_ _ | refine blk_drew ?_ | refine blk_alloc ?_ _)); refine blk_put (cs := #[.int .i64 0, .int .i64 0, .int .i64 0, .int .u64 0]) ?_ 0 _ rfl; (with_reducible repeat (first | refine blk_drewN ?_ _ | refine blk_drew ?_ | refine blk_alloc ?_ _)); exact BK346.out) hb); have n6_ := Aside0.mk (below_step (by repeat (first | (with_reducible first | exact HB.out | apply below_alloc | apply pw_below_drewN | apply below_drew1 | refine below_set ?_ (IsS25.ge HI331.out) | refine below_set ?_ GE337.out | refine below_set ?_ GE346.out) | exact HB.out)) hb); clear HO340; clear HO344; clear HI331; clear BK337; clear BK346; clear HB; have HO340 := n0_; have HO344 := n1_; have HO349 := n2_; have HI331 := n3_; have BK337 := n4_; have BK346 := n5_; have HB := n6_; clear n0_ n1_ n2_ n3_ n4_ n5_ n6_; (try clear hb); (try clear hb2); (try clear hk); (try clear hi); (try clear ho0)))
  iterate 27 (first | go_guarded | go_step)
  have m0_ : Aside0 (Kd.R (Kd.int .u8) 5 (((((w17.setCell ⟨gb346, 0, none⟩ (.int .i64 t332)).setCell ⟨gb346, 1, none⟩ (.int .i64 t333)).setCell ⟨gb346, 2, none⟩ (.int .i64 t334)).setCell ⟨gb346, 3, none⟩ (.int .u64 t335)).setCell ⟨gb346, 3, none⟩ (.int .u64 (Go.bits .or .u64 t335 (Go.bits .or .u64 (IntKind.u64.wrap (t335 * 2)) 1)))) w.heap.size (fun _ => True) (.slice Ao14 t338.length co14) t338) := ⟨(Kd.R_mono (Kd.R_far (p := ⟨gb346, 3, none⟩) (Kd.R_far (p := ⟨gb346, 3, none⟩) (Kd.R_far (p := ⟨gb346, 2, none⟩) (Kd.R_far (p := ⟨gb346, 1, none⟩) (Kd.R_far (p := ⟨gb346, 0, none⟩) (Kd.R_types HO340.out BK346.out (by decide)) (fun _ hk => hk.2) (.int .i64 t332)) (fun _ hk => hk.2) (.int .i64 t333)) (fun _ hk => hk.2) (.int .i64 t334)) (fun _ hk => hk.2) (.int .u64 t335)) (fun _ hk => hk.2) (.int .u64 (Go.bits .or .u64 t335 (Go.bits .or .u64 (IntKind.u64.wrap (t335 * 2)) 1)))) (fun _ h_ => h_.1))⟩
  have m1_ : Aside0 (Kd.R (Kd.int .i64) 3 (((((w17.setCell ⟨gb346, 0, none⟩ (.int .i64 t332)).setCell ⟨gb346, 1, none⟩ (.int .i64 t333)).setCell ⟨gb346, 2, none⟩ (.int .i64 t334)).setCell ⟨gb346, 3, none⟩ (.int .u64 t335)).setCell ⟨gb346, 3, none⟩ (.int .u64 (Go.bits .or .u64 t335 (Go.bits .or .u64 (IntKind.u64.wrap (t335 * 2)) 1)))) w.heap.size (fun _ => True) v343 t342) := ⟨(Kd.R_mono (Kd.R_far (p := ⟨gb346, 3, none⟩) (Kd.R_far (p := ⟨gb346, 3, none⟩) (Kd.R_far (p := ⟨gb346, 2, none⟩) (Kd.R_far (p := ⟨gb346, 1, none⟩) (Kd.R_far (p := ⟨gb346, 0, none⟩) (Kd.R_types HO344.out BK346.out (by decide)) (fun _ hk => hk.2) (.int .i64 t332)) (fun _ hk => hk.2) (.int .i64 t333)) (fun _ hk => hk.2) (.int .i64 t334)) (fun _ hk => hk.2) (.int .u64 t335)) (fun _ hk => hk.2) (.int .u64 (Go.bits .or .u64 t335 (Go.bits .or .u64 (IntKind.u64.wrap (t335 * 2)) 1)))) (fun _ h_ => h_.1))⟩
  have m3_ : Aside0 (IsS25 w (((((w17.setCell ⟨gb346, 0, none⟩ (.int .i64 t332)).setCell ⟨gb346, 1, none⟩ (.int .i64 t333)).setCell ⟨gb346, 2, none⟩ (.int .i64 t334)).setCell ⟨gb346, 3, none⟩ (.int .u64 t335)).setCell ⟨gb346, 3, none⟩ (.int .u64 (Go.bits .or .u64 t335 (Go.bits .or .u64 (IntKind.u64.wrap (t335 * 2)) 1)))) gb331 l0 t341) := ⟨by repeat (first | (with_reducible first | exact HI331.out | apply IsS25.set_1 | refine IsS25.far ?_ NB331_337.out _ | refine IsS25.far ?_ NB331_346.out _) | exact HI331.out)⟩
  have m4_ : Aside0 ((((((w17.setCell ⟨gb346, 0, none⟩ (.int .i64 t332)).setCell ⟨gb346, 1, none⟩ (.int .i64 t333)).setCell ⟨gb346, 2, none⟩ (.int .i64 t334)).setCell ⟨gb346, 3, none⟩ (.int .u64 t335)).setCell ⟨gb346, 3, none⟩ (.int .u64 (Go.bits .or .u64 t335 (Go.bits .or .u64 (IntKind.u64.wrap (t335 * 2)) 1)))).heap[gb337]? = some (.cells #[.int .i64 t332, .int .i64 t333, .int .i64 t334, .int .u64 t335] 28 (0, 0))) := ⟨by refine blk_far ?_ NB337_346.out _; refine blk_far ?_ NB337_346.out _; refine blk_far ?_ NB337_346.out _; refine blk_far ?_ NB337_346.out _; refine blk_far ?_ NB337_346.out _; exact BK337.out⟩
  have m5_ : Aside0 ((((((w17.setCell ⟨gb346, 0, none⟩ (.int .i64 t332)).setCell ⟨gb346, 1, none⟩ (.int .i64 t333)).setCell ⟨gb346, 2, none⟩ (.int .i64 t334)).setCell ⟨gb346, 3, none⟩ (.int .u64 t335)).setCell ⟨gb346, 3, none⟩ (.int .u64 (Go.bits .or .u64 t335 (Go.bits .or .u64 (IntKind.u64.wrap (t335 * 2)) 1)))).heap[gb346]? = some (.cells #[.int .i64 t332, .int .i64 t333, .int .i64 t334, .int .u64 (Go.bits .or .u64 t335 (Go.bits .or .u64 (IntKind.u64.wrap (t335 * 2)) 1))] 28 (0, 0))) := ⟨by refine blk_put (cs := #[.int .i64 t332, .int .i64 t333, .int .i64 t334, .int .u64 t335]) ?_ 3 _ rfl; refine blk_put (cs := #[.int .i64 t332, .int .i64 t333, .int .i64 t334, .int .u64 0]) ?_ 3 _ rfl; refine blk_put (cs := #[.int .i64 t332, .int .i64 t333, .int .i64 0, .int .u64 0]) ?_ 2 _ rfl; refine blk_put (cs := #[.int .i64 t332, .int .i64 0, .int .i64 0, .int .u64 0]) ?_ 1 _ rfl; refine blk_put (cs := #[.int .i64 0, .int .i64 0, .int .i64 0, .int .u64 0]) ?_ 0 _ rfl; exact BK346.out⟩
  have m6_ : Aside0 (Below w.heap.size w (((((w17.setCell ⟨gb346, 0, none⟩ (.int .i64 t332)).setCell ⟨gb346, 1, none⟩ (.int .i64 t333)).setCell ⟨gb346, 2, none⟩ (.int .i64 t334)).setCell ⟨gb346, 3, none⟩ (.int .u64 t335)).setCell ⟨gb346, 3, none⟩ (.int .u64 (Go.bits .or .u64 t335 (Go.bits .or .u64 (IntKind.u64.wrap (t335 * 2)) 1))))) := ⟨by repeat (first | (with_reducible first | exact HB.out | refine below_set ?_ GE346.out) | exact HB.out)⟩
  generalize (((((w17.setCell ⟨gb346, 0, none⟩ (.int .i64 t332)).setCell ⟨gb346, 1, none⟩ (.int .i64 t333)).setCell ⟨gb346, 2, none⟩ (.int .i64 t334)).setCell ⟨gb346, 3, none⟩ (.int .u64 t335)).setCell ⟨gb346, 3, none⟩ (.int .u64 (Go.bits .or .u64 t335 (Go.bits .or .u64 (IntKind.u64.wrap (t335 * 2)) 1)))) = w22 at m0_ m1_ m3_ m4_ m5_ m6_ ⊢
  clear HO340 HO344 HI331 BK337 BK346 HB
  have HO340 := m0_
  have HO344 := m1_
  have HI331 := m3_
  have BK337 := m4_
  have BK346 := m5_
  have HB := m6_
  clear m0_ m1_ m3_ m4_ m5_ m6_
  have hcz22_0 : w22.cell? ⟨gb346, 0, none⟩ = some (.int .i64 t332) := (blk_cell BK346.out 0).trans rfl
  have hcz22_1 : w22.cell? ⟨gb346, 1, none⟩ = some (.int .i64 t333) := (blk_cell BK346.out 1).trans rfl
  have hcz22_2 : w22.cell? ⟨gb346, 2, none⟩ = some (.int .i64 t334) := (blk_cell BK346.out 2).trans rfl
  have hcz22_3 : w22.cell? ⟨gb346, 3, none⟩ = some (.int .u64 (Go.bits .or .u64 t335 (Go.bits .or .u64 (IntKind.u64.wrap (t335 * 2)) 1))) := (blk_cell BK346.out 3).trans rfl
  go_upto_region 8 with (first | (go_at_call 16; (with_reducible refine (stockyardlaw24_ends.calls t332 t333 t334 (Go.bits .or .u64 t335 (Go.bits .or .u64 (IntKind.u64.wrap (t335 * 2)) 1)) _ _ t338 t347 t350 _ ?side1 ?side2 A5.out).mono ?_); (case side1 => exact (Kd.R_reads' HO340.out).2.2); (case side2 => exact (Kd.R_reads' HO340.out).2.1); rintro e w21 ⟨v348, rfl, ho0, hb⟩; have n0_ := Aside0.mk (Kd.R_below HO340.out hb); have n1_ := Aside0.mk (Kd.R_elder' HO344.out (Kd.R_base ho0) hb); have n2_ := Aside0.mk (Kd.R_lower (Kd.R_new' ho0 (Kd.R_lt HO344.out)) (below_size HB.out)); have n3_ := Aside0.mk (IsS25.below HI331.out hb); have n4_ := Aside0.mk (blk_below (g := gb337) (o := .cells #[.int .i64 t332, .int .i64 t333, .int .i64 t334, .int .u64 t335] 28 (0, 0)) BK337.out hb); have n5_ := Aside0.mk (blk_below (g := gb346) (o := .cells #[.int .i64 t332, .int .i64 t333, .int .i64 t334, .int .u64 (Go.bits .or .u64 t335 (Go.bits .or .u64 (IntKind.u64.wrap (t335 * 2)) 1))] 28 (0, 0)) BK346.out hb); have n6_ := Aside0.mk (below_step HB.out hb); clear HO340 HO344 HI331 BK337 BK346 HB; have HO340 := n0_; have HO344 := n1_; have HO349 := n2_; have HI331 := n3_; have BK337 := n4_; have BK346 := n5_; have HB := n6_; clear n0_ n1_ n2_ n3_ n4_ n5_ n6_; (try clear hb); (try clear ho0)))
  repeat (go_quiet (first | ((with_reducible refine gate_dst (N := 15) rfl ?_); (try (refine gate_guard (by rfl) ?_; dsimp only)); refine box_event ?hg (N := 15) ?hd (cs := #[.slice A0 l0.length c0, .int .i64 0]) (t := 25) ?hr ?_; (case hd => rfl); (case hg => rfl); (case hr => first | (go_simp; done) | (go_simp; rfl)); intro gb331 hg w7 hbox hb; have n0_ := Aside0.mk (below_step (by repeat (first | (with_reducible first | exact HB.out | apply below_alloc | apply pw_below_drewN | apply below_drew1) | exact HB.out)) hb); have n1_ := Aside0.mk ((by rw [hg]; exact (below_size (by repeat (first | (with_reducible first | exact HB.out | apply below_alloc | apply pw_below_drewN | apply below_drew1) | exact HB.out))) : w.heap.size ≤ gb331)); have n2_ := Aside0.mk ((by rw [hg]; exact (below_size (by repeat (first | (with_reducible first | exact HB.out | apply below_alloc | apply pw_below_drewN | apply below_drew1) | exact HB.out))) : w.heap.size ≤ gb331)); have n3_ := Aside0.mk ((show IsS25 w w7 gb331 l0 0 from ⟨_, _, hbox, (by rw [hg]; exact (below_size (by repeat (first | (with_reducible first | exact HB.out | apply below_alloc | apply pw_below_drewN | apply below_drew1) | exact HB.out))) : w.heap.size ≤ gb331), HR0.out⟩)); clear HB; have HB := n0_; have GW331 := n1_; have GE331 := n2_; have HI331 := n3_; clear n0_ n1_ n2_ n3_; clear hb hbox hg) | (go_at_call 14; (with_reducible refine (stockyardlaw24_made.calls gb331 l0 0 t332 t333 t334 t335 t336 w _ ?side1 ?side2 A2.out).mono ?_); (case side1 => repeat (first | (with_reducible first | exact HI331.out | apply IsS25.alloc | apply IsS25.drewN | apply IsS25.drew | apply IsS25.set_1) | exact HI331.out)); (case side2 => repeat (first | (with_reducible first | exact HB.out | apply below_alloc | apply pw_below_drewN | apply below_drew1 | refine below_set ?_ (IsS25.ge HI331.out)) | exact HB.out)); rintro e w8 ⟨rfl, hi, hb, hk⟩; have n0_ := Aside0.mk (hb); have n1_ := Aside0.mk (hi); clear HB; clear HI331; have HB := n0_; have HI331 := n1_; clear n0_ n1_; (try clear hb); (try clear hb2); (try clear hk); (try clear hi)) | ((with_reducible refine gate_dst (N := 4) rfl ?_); (try (refine gate_guard (by rfl) ?_; dsimp only)); refine box_event ?hg (N := 4) ?hd (cs := #[.int .i64 0, .int .i64 0, .int .i64 0, .int .u64 0]) (t := 28) ?hr ?_; (case hd => rfl); (case hg => rfl); (case hr => first | (go_simp; done) | (go_simp; rfl)); intro gb337 hg w9 hbox hb; have n0_ := Aside0.mk (IsS25.below (by repeat (first | (with_reducible first | exact HI331.out | apply IsS25.alloc | apply IsS25.drewN | apply IsS25.drew | apply IsS25.set_1) | exact HI331.out)) hb); have n1_ := Aside0.mk (below_step (by repeat (first | (with_reducible first | exact HB.out | apply below_alloc | apply pw_below_drewN | apply below_drew1 | refine below_set ?_ (IsS25.ge HI331.out)) | exact HB.out)) hb); have n2_ := Aside0.mk (hbox); have n3_ := Aside0.mk ((by rw [hg]; exact (below_size (by repeat (first | (with_reducible first | exact HB.out | apply below_alloc | apply pw_below_drewN | apply below_drew1 | refine below_set ?_ (IsS25.ge HI331.out)) | exact HB.out))) : w.heap.size ≤ gb337)); have n4_ := Aside0.mk ((by rw [hg]; exact (below_size (by repeat (first | (with_reducible first | exact HB.out | apply below_alloc | apply pw_below_drewN | apply below_drew1 | refine below_set ?_ (IsS25.ge HI331.out)) | exact HB.out))) : w.heap.size ≤ gb337)); have n5_ := Aside0.mk ((by rw [hg]; exact Nat.ne_of_lt (IsS25.lt (show IsS25 w _ gb331 l0 t336 from by repeat (first | (with_reducible first | exact HI331.out | apply IsS25.alloc | apply IsS25.drewN | apply IsS25.drew | apply IsS25.set_1) | exact HI331.out))) : gb331 ≠ gb337)); have n6_ := Aside0.mk ((by rw [hg]; exact Nat.ne_of_gt (IsS25.lt (show IsS25 w _ gb331 l0 t336 from by repeat (first | (with_reducible first | exact HI331.out | apply IsS25.alloc | apply IsS25.drewN | apply IsS25.drew | apply IsS25.set_1) | exact HI331.out))) : gb337 ≠ gb331)); clear HI331; clear HB; have HI331 := n0_; have HB := n1_; have BK337 := n2_; have GW337 := n3_; have GE337 := n4_; have NB331_337 := n5_; have NB337_331 := n6_; clear n0_ n1_ n2_ n3_ n4_ n5_ n6_; clear hb hbox hg; have hnb10 := NB337_331.out; have hnc10 := NB331_337.out; have hcz11_0 : w9.cell? ⟨gb337, 0, none⟩ = some (.int .i64 0) := (blk_cell BK337.out 0).trans rfl; have hcz11_1 : w9.cell? ⟨gb337, 1, none⟩ = some (.int .i64 0) := (blk_cell BK337.out 1).trans rfl; have hcz11_2 : w9.cell? ⟨gb337, 2, none⟩ = some (.int .i64 0) := (blk_cell BK337.out 2).trans rfl; have hcz11_3 : w9.cell? ⟨gb337, 3, none⟩ = some (.int .u64 0) := (blk_cell BK337.out 3).trans rfl; have hfz11_0 := blk_frozen BK337.out 0; have hfz11_1 := blk_frozen BK337.out 1; have hfz11_2 := blk_frozen BK337.out 2; have hfz11_3 := blk_frozen BK337.out 3) | (go_at_call 15; (with_reducible refine (stockyardlaw24_text.calls k gb331 l0 t336 120 t338 t341 w _ ?side1 ?side2 A3.out).mono ?_); (case side1 => repeat (first | (with_reducible first | exact HI331.out | apply IsS25.alloc | apply IsS25.drewN | apply IsS25.drew | apply IsS25.set_1 | refine IsS25.far ?_ NB331_337.out _) | exact HI331.out)); (case side2 => repeat (first | (with_reducible first | exact HB.out | apply below_alloc | apply pw_below_drewN | apply below_drew1 | refine below_set ?_ (IsS25.ge HI331.out) | refine below_set ?_ GE337.out) | exact HB.out)); rintro e w12 ⟨v339, rfl, ho0, hi, hb, hk⟩; have n0_ := Aside0.mk (KeepBut.blk hk (g' := gb337) (o := .cells #[.int .i64 t332, .int .i64 t333, .int .i64 t334, .int .u64 t335] 28 (0, 0)) (by (with_reducible repeat (first | refine blk_drewN ?_ _ | refine blk_drew ?_ | refine blk_alloc ?_ _)); refine blk_put (cs := #[.int .i64 t332, .int .i64 t333, .int .i64 t334, .int .u64 0]) ?_ 3 _ rfl; (with_reducible repeat (first | refine blk_drewN ?_ _ | refine blk_drew ?_ | refine blk_alloc ?_ _)); refine blk_put (cs := #[.int .i64 t332, .int .i64 t333, .int .i64 0, .int .u64 0]) ?_ 2 _ rfl; (with_reducible repeat (first | refine blk_drewN ?_ _ | refine blk_drew ?_ | refine blk_alloc ?_ _)); refine blk_put (cs := #[.int .i64 t332, .int .i64 0, .int .i64 0, .int .u64 0]) ?_ 1 _ rfl; (with_reducible repeat (first | refine blk_drewN ?_ _ | refine blk_drew ?_ | refine blk_alloc ?_ _)); refine blk_put (cs := #[.int .i64 0, .int .i64 0, .int .i64 0, .int .u64 0]) ?_ 0 _ rfl; (with_reducible repeat (first | refine blk_drewN ?_ _ | refine blk_drew ?_ | refine blk_alloc ?_ _)); exact BK337.out) NB337_331.out (by simp)); have n1_ := Aside0.mk (Kd.R_lower ho0 (below_size (by repeat (first | (with_reducible first | exact HB.out | apply below_alloc | apply pw_below_drewN | apply below_drew1 | refine below_set ?_ (IsS25.ge HI331.out) | refine below_set ?_ GE337.out) | exact HB.out)))); have n2_ := Aside0.mk (hb); have n3_ := Aside0.mk (hi); clear BK337; clear HB; clear HI331; have BK337 := n0_; have HO340 := n1_; have HB := n2_; have HI331 := n3_; clear n0_ n1_ n2_ n3_; (try clear hb); (try clear hb2); (try clear hk); (try clear hi); (try clear ho0); have hcz13_0 : w12.cell? ⟨gb337, 0, none⟩ = some (.int .i64 t332) := (blk_cell BK337.out 0).trans rfl; have hcz13_1 : w12.cell? ⟨gb337, 1, none⟩ = some (.int .i64 t333) := (blk_cell BK337.out 1).trans rfl; have hcz13_2 : w12.cell? ⟨gb337, 2, none⟩ = some (.int .i64 t334) := (blk_cell BK337.out 2).trans rfl; have hcz13_3 : w12.cell? ⟨gb337, 3, none⟩ = some (.int .u64 t335) := (blk_cell BK337.out 3).trans rfl; have hfz13_0 := blk_frozen BK337.out 0; have hfz13_1 := blk_frozen BK337.out 1; have hfz13_2 := blk_frozen BK337.out 2; have hfz13_3 := blk_frozen BK337.out 3; obtain ⟨Ao14, co14, eo14⟩ := Kd.R_slice HO340.out; subst eo14) | (go_at_call 16; (with_reducible refine (stockyardlaw24_ends.calls t332 t333 t334 t335 _ _ t338 t342 t345 _ ?side1 ?side2 A4.out).mono ?_); (case side1 => repeat (first | exact (Kd.R_reads' HO340.out).2.2 | (with_reducible refine Kd.C_alloc ?_ _) | (with_reducible refine Kd.C_drewN ?_ _) | (with_reducible refine Kd.C_drew ?_))); (case side2 => exact (Kd.R_reads' HO340.out).2.1); rintro e w15 ⟨v343, rfl, ho0, hb⟩; have n0_ := Aside0.mk (Kd.R_below (by (with_reducible repeat (first | apply Kd.R_alloc | apply Kd.R_drewN | apply Kd.R_drew)); exact HO340.out) hb); have n1_ := Aside0.mk (Kd.R_lower ho0 (below_size (by repeat (first | (with_reducible first | exact HB.out | apply below_alloc | apply pw_below_drewN | apply below_drew1 | refine below_set ?_ (IsS25.ge HI331.out) | refine below_set ?_ GE337.out) | exact HB.out)))); have n2_ := Aside0.mk (IsS25.below (by repeat (first | (with_reducible first | exact HI331.out | apply IsS25.alloc | apply IsS25.drewN | apply IsS25.drew | apply IsS25.set_1 | refine IsS25.far ?_ NB331_337.out _) | exact HI331.out)) hb); have n3_ := Aside0.mk (blk_below (g := gb337) (o := .cells #[.int .i64 t332, .int .i64 t333, .int .i64 t334, .int .u64 t335] 28 (0, 0)) (by (with_reducible repeat (first | refine blk_drewN ?_ _ | refine blk_drew ?_ | refine blk_alloc ?_ _)); exact BK337.out) hb); have n4_ := Aside0.mk (below_step (by repeat (first | (with_reducible first | exact HB.out | apply below_alloc | apply pw_below_drewN | apply below_drew1 | refine below_set ?_ (IsS25.ge HI331.out) | refine below_set ?_ GE337.out) | exact HB.out)) hb); clear HO340; clear HI331; clear BK337; clear HB; have HO340 := n0_; have HO344 := n1_; have HI331 := n2_; have BK337 := n3_; have HB := n4_; clear n0_ n1_ n2_ n3_ n4_; (try clear hb); (try clear hb2); (try clear hk); (try clear hi); (try clear ho0); have hcz16_0 : w15.cell? ⟨gb337, 0, none⟩ = some (.int .i64 t332) := (blk_cell BK337.out 0).trans rfl; have hcz16_1 : w15.cell? ⟨gb337, 1, none⟩ = some (.int .i64 t333) := (blk_cell BK337.out 1).trans rfl; have hcz16_2 : w15.cell? ⟨gb337, 2, none⟩ = some (.int .i64 t334) := (blk_cell BK337.out 2).trans rfl; have hcz16_3 : w15.cell? ⟨gb337, 3, none⟩ = some (.int .u64 t335) := (blk_cell BK337.out 3).trans rfl; have hfz16_0 := blk_frozen BK337.out 0; have hfz16_1 := blk_frozen BK337.out 1; have hfz16_2 := blk_frozen BK337.out 2; have hfz16_3 := blk_frozen BK337.out 3) | ((with_reducible refine gate_dst (N := 8) rfl ?_); (try (refine gate_guard (by rfl) ?_; dsimp only)); refine box_event ?hg (N := 8) ?hd (cs := #[.int .i64 0, .int .i64 0, .int .i64 0, .int .u64 0]) (t := 28) ?hr ?_; (case hd => rfl); (case hg => rfl); (case hr => first | (go_simp; done) | (go_simp; rfl)); intro gb346 hg w17 hbox hb; have n0_ := Aside0.mk (Kd.R_below (by (with_reducible repeat (first | apply Kd.R_alloc | apply Kd.R_drewN | apply Kd.R_drew)); exact HO340.out) hb); have n1_ := Aside0.mk (Kd.R_below (by (with_reducible repeat (first | apply Kd.R_alloc | apply Kd.R_drewN | apply Kd.R_drew)); exact HO344.out) hb); have n2_ := Aside0.mk (IsS25.below (by repeat (first | (with_reducible first | exact HI331.out | apply IsS25.alloc | apply IsS25.drewN | apply IsS25.drew | apply IsS25.set_1 | refine IsS25.far ?_ NB331_337.out _) | exact HI331.out)) hb); have n3_ := Aside0.mk (blk_below (g := gb337) (o := .cells #[.int .i64 t332, .int .i64 t333, .int .i64 t334, .int .u64 t335] 28 (0, 0)) (by (with_reducible repeat (first | refine blk_drewN ?_ _ | refine blk_drew ?_ | refine blk_alloc ?_ _)); exact BK337.out) hb); have n4_ := Aside0.mk (below_step (by repeat (first | (with_reducible first | exact HB.out | apply below_alloc | apply pw_below_drewN | apply below_drew1 | refine below_set ?_ (IsS25.ge HI331.out) | refine below_set ?_ GE337.out) | exact HB.out)) hb); have n5_ := Aside0.mk (hbox); have n6_ := Aside0.mk ((by rw [hg]; exact (below_size (by repeat (first | (with_reducible first | exact HB.out | apply below_alloc | apply pw_below_drewN | apply below_drew1 | refine below_set ?_ (IsS25.ge HI331.out) | refine below_set ?_ GE337.out) | exact HB.out))) : w.heap.size ≤ gb346)); have n7_ := Aside0.mk ((by rw [hg]; exact (below_size (by repeat (first | (with_reducible first | exact HB.out | apply below_alloc | apply pw_below_drewN | apply below_drew1 | refine below_set ?_ (IsS25.ge HI331.out) | refine below_set ?_ GE337.out) | exact HB.out))) : w.heap.size ≤ gb346)); have n8_ := Aside0.mk ((by rw [hg]; exact Nat.ne_of_lt (blk_lt (g := gb337) (o := .cells #[.int .i64 t332, .int .i64 t333, .int .i64 t334, .int .u64 t335] 28 (0, 0)) (by (with_reducible repeat (first | refine blk_drewN ?_ _ | refine blk_drew ?_ | refine blk_alloc ?_ _)); exact BK337.out)) : gb337 ≠ gb346)); have n9_ := Aside0.mk ((by rw [hg]; exact Nat.ne_of_gt (blk_lt (g := gb337) (o := .cells #[.int .i64 t332, .int .i64 t333, .int .i64 t334, .int .u64 t335] 28 (0, 0)) (by (with_reducible repeat (first | refine blk_drewN ?_ _ | refine blk_drew ?_ | refine blk_alloc ?_ _)); exact BK337.out)) : gb346 ≠ gb337)); have n10_ := Aside0.mk ((by rw [hg]; exact Nat.ne_of_lt (IsS25.lt (show IsS25 w _ gb331 l0 t341 from by repeat (first | (with_reducible first | exact HI331.out | apply IsS25.alloc | apply IsS25.drewN | apply IsS25.drew | apply IsS25.set_1 | refine IsS25.far ?_ NB331_337.out _) | exact HI331.out))) : gb331 ≠ gb346)); have n11_ := Aside0.mk ((by rw [hg]; exact Nat.ne_of_gt (IsS25.lt (show IsS25 w _ gb331 l0 t341 from by repeat (first | (with_reducible first | exact HI331.out | apply IsS25.alloc | apply IsS25.drewN | apply IsS25.drew | apply IsS25.set_1 | refine IsS25.far ?_ NB331_337.out _) | exact HI331.out))) : gb346 ≠ gb331)); clear HO340; clear HO344; clear HI331; clear BK337; clear HB; have HO340 := n0_; have HO344 := n1_; have HI331 := n2_; have BK337 := n3_; have HB := n4_; have BK346 := n5_; have GW346 := n6_; have GE346 := n7_; have NB337_346 := n8_; have NB346_337 := n9_; have NB331_346 := n10_; have NB346_331 := n11_; clear n0_ n1_ n2_ n3_ n4_ n5_ n6_ n7_ n8_ n9_ n10_ n11_; clear hb hbox hg; have hnb18 := NB346_337.out; have hnc18 := NB337_346.out; have hnb19 := NB346_331.out; have hnc19 := NB331_346.out; have hcz20_0 : w17.cell? ⟨gb346, 0, none⟩ = some (.int .i64 0) := (blk_cell BK346.out 0).trans rfl; have hcz20_1 : w17.cell? ⟨gb346, 1, none⟩ = some (.int .i64 0) := (blk_cell BK346.out 1).trans rfl; have hcz20_2 : w17.cell? ⟨gb346, 2, none⟩ = some (.int .i64 0) := (blk_cell BK346.out 2).trans rfl; have hcz20_3 : w17.cell? ⟨gb346, 3, none⟩ = some (.int .u64 0) := (blk_cell BK346.out 3).trans rfl; have hfz20_0 := blk_frozen BK346.out 0; have hfz20_1 := blk_frozen BK346.out 1; have hfz20_2 := blk_frozen BK346.out 2; have hfz20_3 := blk_frozen BK346.out 3) | (go_at_call 16; (with_reducible refine (stockyardlaw24_ends.calls t332 t333 t334 (Go.bits .or .u64 t335 (Go.bits .or .u64 (IntKind.u64.wrap (t335 * 2)) 1)) _ _ t338 t347 t350 _ ?side1 ?side2 A5.out).mono ?_); (case side1 => refine (Kd.R_reads' (e := 5) (base := w.heap.size) (ok := fun k_ => True) (n := t338.length) (c := co14) ?_).2.2; exact (by (with_reducible repeat (first | apply Kd.R_alloc | apply Kd.R_drewN | apply Kd.R_drew)); exact (Kd.R_mono (Kd.R_far (p := ⟨gb346, 3, none⟩) (Kd.R_far (p := ⟨gb346, 3, none⟩) (Kd.R_far (p := ⟨gb346, 2, none⟩) (Kd.R_far (p := ⟨gb346, 1, none⟩) (Kd.R_far (p := ⟨gb346, 0, none⟩) (Kd.R_types HO340.out BK346.out (by decide)) (fun _ hk => hk.2) (.int .i64 t332)) (fun _ hk => hk.2) (.int .i64 t333)) (fun _ hk => hk.2) (.int .i64 t334)) (fun _ hk => hk.2) (.int .u64 t335)) (fun _ hk => hk.2) (.int .u64 (Go.bits .or .u64 t335 (Go.bits .or .u64 (IntKind.u64.wrap (t335 * 2)) 1)))) (fun _ h_ => h_.1)))); (case side2 => exact (Kd.R_reads' HO340.out).2.1); rintro e w21 ⟨v348, rfl, ho0, hb⟩; have n0_ := Aside0.mk (Kd.R_below (by (with_reducible repeat (first | apply Kd.R_alloc | apply Kd.R_drewN | apply Kd.R_drew)); exact (Kd.R_mono (Kd.R_far (p := ⟨gb346, 3, none⟩) (Kd.R_far (p := ⟨gb346, 3, none⟩) (Kd.R_far (p := ⟨gb346, 2, none⟩) (Kd.R_far (p := ⟨gb346, 1, none⟩) (Kd.R_far (p := ⟨gb346, 0, none⟩) (Kd.R_types HO340.out BK346.out (by decide)) (fun _ hk => hk.2) (.int .i64 t332)) (fun _ hk => hk.2) (.int .i64 t333)) (fun _ hk => hk.2) (.int .i64 t334)) (fun _ hk => hk.2) (.int .u64 t335)) (fun _ hk => hk.2) (.int .u64 (Go.bits .or .u64 t335 (Go.bits .or .u64 (IntKind.u64.wrap (t335 * 2)) 1)))) (fun _ h_ => h_.1))) hb); have n1_ := Aside0.mk (Kd.R_elder' (by (with_reducible repeat (first | apply Kd.R_alloc | apply Kd.R_drewN | apply Kd.R_drew)); exact (Kd.R_mono (Kd.R_far (p := ⟨gb346, 3, none⟩) (Kd.R_far (p := ⟨gb346, 3, none⟩) (Kd.R_far (p := ⟨gb346, 2, none⟩) (Kd.R_far (p := ⟨gb346, 1, none⟩) (Kd.R_far (p := ⟨gb346, 0, none⟩) (Kd.R_types HO344.out BK346.out (by decide)) (fun _ hk => hk.2) (.int .i64 t332)) (fun _ hk => hk.2) (.int .i64 t333)) (fun _ hk => hk.2) (.int .i64 t334)) (fun _ hk => hk.2) (.int .u64 t335)) (fun _ hk => hk.2) (.int .u64 (Go.bits .or .u64 t335 (Go.bits .or .u64 (IntKind.u64.wrap (t335 * 2)) 1)))) (fun _ h_ => h_.1))) (Kd.R_base ho0) hb); have n2_ := Aside0.mk (Kd.R_lower (Kd.R_new' ho0 (Kd.R_lt (by (with_reducible repeat (first | apply Kd.R_alloc | apply Kd.R_drewN | apply Kd.R_drew)); exact (Kd.R_mono (Kd.R_far (p := ⟨gb346, 3, none⟩) (Kd.R_far (p := ⟨gb346, 3, none⟩) (Kd.R_far (p := ⟨gb346, 2, none⟩) (Kd.R_far (p := ⟨gb346, 1, none⟩) (Kd.R_far (p := ⟨gb346, 0, none⟩) (Kd.R_types HO344.out BK346.out (by decide)) (fun _ hk => hk.2) (.int .i64 t332)) (fun _ hk => hk.2) (.int .i64 t333)) (fun _ hk => hk.2) (.int .i64 t334)) (fun _ hk => hk.2) (.int .u64 t335)) (fun _ hk => hk.2) (.int .u64 (Go.bits .or .u64 t335 (Go.bits .or .u64 (IntKind.u64.wrap (t335 * 2)) 1)))) (fun _ h_ => h_.1))))) (below_size (by repeat (first | (with_reducible first | exact HB.out | apply below_alloc | apply pw_below_drewN | apply below_drew1 | refine below_set ?_ (IsS25.ge HI331.out) | refine below_set ?_ GE337.out | refine below_set ?_ GE346.out) | exact HB.out)))); have n3_ := Aside0.mk (IsS25.below (show IsS25 w (((((w17.setCell ⟨gb346, 0, none⟩ (.int .i64 t332)).setCell ⟨gb346, 1, none⟩ (.int .i64 t333)).setCell ⟨gb346, 2, none⟩ (.int .i64 t334)).setCell ⟨gb346, 3, none⟩ (.int .u64 t335)).setCell ⟨gb346, 3, none⟩ (.int .u64 (Go.bits .or .u64 t335 (Go.bits .or .u64 (IntKind.u64.wrap (t335 * 2)) 1)))) gb331 l0 t341 from by repeat (first | (with_reducible first | exact HI331.out | apply IsS25.alloc | apply IsS25.drewN | apply IsS25.drew | apply IsS25.set_1 | refine IsS25.far ?_ NB331_337.out _ | refine IsS25.far ?_ NB331_346.out _) | exact HI331.out)) hb); have n4_ := Aside0.mk (blk_below (g := gb337) (o := .cells #[.int .i64 t332, .int .i64 t333, .int .i64 t334, .int .u64 t335] 28 (0, 0)) (by (with_reducible repeat (first | refine blk_drewN ?_ _ | refine blk_drew ?_ | refine blk_alloc ?_ _)); refine blk_far ?_ NB337_346.out _; (with_reducible repeat (first | refine blk_drewN ?_ _ | refine blk_drew ?_ | refine blk_alloc ?_ _)); refine blk_far ?_ NB337_346.out _; (with_reducible repeat (first | refine blk_drewN ?_ _ | refine blk_drew ?_ | refine blk_alloc ?_ _)); refine blk_far ?_ NB337_346.out _; (with_reducible repeat (first | refine blk_drewN ?_ _ | refine blk_drew ?_ | refine blk_alloc ?_ _)); refine blk_far ?_ NB337_346.out _; (with_reducible repeat (first | refine blk_drewN ?_ _ | refine blk_drew ?_ | refine blk_alloc ?_ _)); refine blk_far ?_ NB337_346.out _; (with_reducible repeat (first | refine blk_drewN ?_ _ | refine blk_drew ?_ | refine blk_alloc ?_ _)); exact BK337.out) hb); have n5_ := Aside0.mk (blk_below (g := gb346) (o := .cells #[.int .i64 t332, .int .i64 t333, .int .i64 t334, .int .u64 (Go.bits .or .u64 t335 (Go.bits .or .u64 (IntKind.u64.wrap (t335 * 2)) 1))] 28 (0, 0)) (by (with_reducible repeat (first | refine blk_drewN ?_ _ | refine blk_drew ?_ | refine blk_alloc ?_ _)); refine blk_put (cs := #[.int .i64 t332, .int .i64 t333, .int .i64 t334, .int .u64 t335]) ?_ 3 _ rfl; (with_reducible repeat (first | refine blk_drewN ?_ _ | refine blk_drew ?_ | refine blk_alloc ?_ _)); refine blk_put (cs := #[.int .i64 t332, .int .i64 t333, .int .i64 t334, .int .u64 0]) ?_ 3 _ rfl; (with_reducible repeat (first | refine blk_drewN ?_ _ | refine blk_drew ?_ | refine blk_alloc ?_ _)); refine blk_put (cs := #[.int .i64 t332, .int .i64 t333, .int .i64 0, .int .u64 0]) ?_ 2 _ rfl; (with_reducible repeat (first | refine blk_drewN ?_ _ | refine blk_drew ?_ | refine blk_alloc ?_ _)); refine blk_put (cs := #[.int .i64 t332, .int .i64 0, .int .i64 0, .int .u64 0]) ?_ 1 _ rfl; (with_reducible repeat (first | refine blk_drewN ?_ _ | refine blk_drew ?_ | refine blk_alloc ?_ _)); refine blk_put (cs := #[.int .i64 0, .int .i64 0, .int .i64 0, .int .u64 0]) ?_ 0 _ rfl; (with_reducible repeat (first | refine blk_drewN ?_ _ | refine blk_drew ?_ | refine blk_alloc ?_ _)); exact BK346.out) hb); have n6_ := Aside0.mk (below_step (by repeat (first | (with_reducible first | exact HB.out | apply below_alloc | apply pw_below_drewN | apply below_drew1 | refine below_set ?_ (IsS25.ge HI331.out) | refine below_set ?_ GE337.out | refine below_set ?_ GE346.out) | exact HB.out)) hb); clear HO340; clear HO344; clear HI331; clear BK337; clear BK346; clear HB; have HO340 := n0_; have HO344 := n1_; have HO349 := n2_; have HI331 := n3_; have BK337 := n4_; have BK346 := n5_; have HB := n6_; clear n0_ n1_ n2_ n3_ n4_ n5_ n6_; (try clear hb); (try clear hb2); (try clear hk); (try clear hi); (try clear ho0))); go_upto_region 8 with (first | ((with_reducible refine gate_dst (N := 15) rfl ?_); (try (refine gate_guard (by rfl) ?_; dsimp only)); refine box_event ?hg (N := 15) ?hd (cs := #[.slice A0 l0.length c0, .int .i64 0]) (t := 25) ?hr ?_; (case hd => rfl); (case hg => rfl); (case hr => first | (go_simp; done) | (go_simp; rfl)); intro gb331 hg w7 hbox hb; have n0_ := Aside0.mk (below_step (by repeat (first | (with_reducible first | exact HB.out | apply below_alloc | apply pw_below_drewN | apply below_drew1) | exact HB.out)) hb); have n1_ := Aside0.mk ((by rw [hg]; exact (below_size (by repeat (first | (with_reducible first | exact HB.out | apply below_alloc | apply pw_below_drewN | apply below_drew1) | exact HB.out))) : w.heap.size ≤ gb331)); have n2_ := Aside0.mk ((by rw [hg]; exact (below_size (by repeat (first | (with_reducible first | exact HB.out | apply below_alloc | apply pw_below_drewN | apply below_drew1) | exact HB.out))) : w.heap.size ≤ gb331)); have n3_ := Aside0.mk ((show IsS25 w w7 gb331 l0 0 from ⟨_, _, hbox, (by rw [hg]; exact (below_size (by repeat (first | (with_reducible first | exact HB.out | apply below_alloc | apply pw_below_drewN | apply below_drew1) | exact HB.out))) : w.heap.size ≤ gb331), HR0.out⟩)); clear HB; have HB := n0_; have GW331 := n1_; have GE331 := n2_; have HI331 := n3_; clear n0_ n1_ n2_ n3_; clear hb hbox hg) | (go_at_call 14; (with_reducible refine (stockyardlaw24_made.calls gb331 l0 0 t332 t333 t334 t335 t336 w _ ?side1 ?side2 A2.out).mono ?_); (case side1 => repeat (first | (with_reducible first | exact HI331.out | apply IsS25.alloc | apply IsS25.drewN | apply IsS25.drew | apply IsS25.set_1) | exact HI331.out)); (case side2 => repeat (first | (with_reducible first | exact HB.out | apply below_alloc | apply pw_below_drewN | apply below_drew1 | refine below_set ?_ (IsS25.ge HI331.out)) | exact HB.out)); rintro e w8 ⟨rfl, hi, hb, hk⟩; have n0_ := Aside0.mk (hb); have n1_ := Aside0.mk (hi); clear HB; clear HI331; have HB := n0_; have HI331 := n1_; clear n0_ n1_; (try clear hb); (try clear hb2); (try clear hk); (try clear hi)) | ((with_reducible refine gate_dst (N := 4) rfl ?_); (try (refine gate_guard (by rfl) ?_; dsimp only)); refine box_event ?hg (N := 4) ?hd (cs := #[.int .i64 0, .int .i64 0, .int .i64 0, .int .u64 0]) (t := 28) ?hr ?_; (case hd => rfl); (case hg => rfl); (case hr => first | (go_simp; done) | (go_simp; rfl)); intro gb337 hg w9 hbox hb; have n0_ := Aside0.mk (IsS25.below (by repeat (first | (with_reducible first | exact HI331.out | apply IsS25.alloc | apply IsS25.drewN | apply IsS25.drew | apply IsS25.set_1) | exact HI331.out)) hb); have n1_ := Aside0.mk (below_step (by repeat (first | (with_reducible first | exact HB.out | apply below_alloc | apply pw_below_drewN | apply below_drew1 | refine below_set ?_ (IsS25.ge HI331.out)) | exact HB.out)) hb); have n2_ := Aside0.mk (hbox); have n3_ := Aside0.mk ((by rw [hg]; exact (below_size (by repeat (first | (with_reducible first | exact HB.out | apply below_alloc | apply pw_below_drewN | apply below_drew1 | refine below_set ?_ (IsS25.ge HI331.out)) | exact HB.out))) : w.heap.size ≤ gb337)); have n4_ := Aside0.mk ((by rw [hg]; exact (below_size (by repeat (first | (with_reducible first | exact HB.out | apply below_alloc | apply pw_below_drewN | apply below_drew1 | refine below_set ?_ (IsS25.ge HI331.out)) | exact HB.out))) : w.heap.size ≤ gb337)); have n5_ := Aside0.mk ((by rw [hg]; exact Nat.ne_of_lt (IsS25.lt (show IsS25 w _ gb331 l0 t336 from by repeat (first | (with_reducible first | exact HI331.out | apply IsS25.alloc | apply IsS25.drewN | apply IsS25.drew | apply IsS25.set_1) | exact HI331.out))) : gb331 ≠ gb337)); have n6_ := Aside0.mk ((by rw [hg]; exact Nat.ne_of_gt (IsS25.lt (show IsS25 w _ gb331 l0 t336 from by repeat (first | (with_reducible first | exact HI331.out | apply IsS25.alloc | apply IsS25.drewN | apply IsS25.drew | apply IsS25.set_1) | exact HI331.out))) : gb337 ≠ gb331)); clear HI331; clear HB; have HI331 := n0_; have HB := n1_; have BK337 := n2_; have GW337 := n3_; have GE337 := n4_; have NB331_337 := n5_; have NB337_331 := n6_; clear n0_ n1_ n2_ n3_ n4_ n5_ n6_; clear hb hbox hg; have hnb10 := NB337_331.out; have hnc10 := NB331_337.out; have hcz11_0 : w9.cell? ⟨gb337, 0, none⟩ = some (.int .i64 0) := (blk_cell BK337.out 0).trans rfl; have hcz11_1 : w9.cell? ⟨gb337, 1, none⟩ = some (.int .i64 0) := (blk_cell BK337.out 1).trans rfl; have hcz11_2 : w9.cell? ⟨gb337, 2, none⟩ = some (.int .i64 0) := (blk_cell BK337.out 2).trans rfl; have hcz11_3 : w9.cell? ⟨gb337, 3, none⟩ = some (.int .u64 0) := (blk_cell BK337.out 3).trans rfl; have hfz11_0 := blk_frozen BK337.out 0; have hfz11_1 := blk_frozen BK337.out 1; have hfz11_2 := blk_frozen BK337.out 2; have hfz11_3 := blk_frozen BK337.out 3) | (go_at_call 15; (with_reducible refine (stockyardlaw24_text.calls k gb331 l0 t336 120 t338 t341 w _ ?side1 ?side2 A3.out).mono ?_); (case side1 => repeat (first | (with_reducible first | exact HI331.out | apply IsS25.alloc | apply IsS25.drewN | apply IsS25.drew | apply IsS25.set_1 | refine IsS25.far ?_ NB331_337.out _) | exact HI331.out)); (case side2 => repeat (first | (with_reducible first | exact HB.out | apply below_alloc | apply pw_below_drewN | apply below_drew1 | refine below_set ?_ (IsS25.ge HI331.out) | refine below_set ?_ GE337.out) | exact HB.out)); rintro e w12 ⟨v339, rfl, ho0, hi, hb, hk⟩; have n0_ := Aside0.mk (KeepBut.blk hk (g' := gb337) (o := .cells #[.int .i64 t332, .int .i64 t333, .int .i64 t334, .int .u64 t335] 28 (0, 0)) (by (with_reducible repeat (first | refine blk_drewN ?_ _ | refine blk_drew ?_ | refine blk_alloc ?_ _)); refine blk_put (cs := #[.int .i64 t332, .int .i64 t333, .int .i64 t334, .int .u64 0]) ?_ 3 _ rfl; (with_reducible repeat (first | refine blk_drewN ?_ _ | refine blk_drew ?_ | refine blk_alloc ?_ _)); refine blk_put (cs := #[.int .i64 t332, .int .i64 t333, .int .i64 0, .int .u64 0]) ?_ 2 _ rfl; (with_reducible repeat (first | refine blk_drewN ?_ _ | refine blk_drew ?_ | refine blk_alloc ?_ _)); refine blk_put (cs := #[.int .i64 t332, .int .i64 0, .int .i64 0, .int .u64 0]) ?_ 1 _ rfl; (with_reducible repeat (first | refine blk_drewN ?_ _ | refine blk_drew ?_ | refine blk_alloc ?_ _)); refine blk_put (cs := #[.int .i64 0, .int .i64 0, .int .i64 0, .int .u64 0]) ?_ 0 _ rfl; (with_reducible repeat (first | refine blk_drewN ?_ _ | refine blk_drew ?_ | refine blk_alloc ?_ _)); exact BK337.out) NB337_331.out (by simp)); have n1_ := Aside0.mk (Kd.R_lower ho0 (below_size (by repeat (first | (with_reducible first | exact HB.out | apply below_alloc | apply pw_below_drewN | apply below_drew1 | refine below_set ?_ (IsS25.ge HI331.out) | refine below_set ?_ GE337.out) | exact HB.out)))); have n2_ := Aside0.mk (hb); have n3_ := Aside0.mk (hi); clear BK337; clear HB; clear HI331; have BK337 := n0_; have HO340 := n1_; have HB := n2_; have HI331 := n3_; clear n0_ n1_ n2_ n3_; (try clear hb); (try clear hb2); (try clear hk); (try clear hi); (try clear ho0); have hcz13_0 : w12.cell? ⟨gb337, 0, none⟩ = some (.int .i64 t332) := (blk_cell BK337.out 0).trans rfl; have hcz13_1 : w12.cell? ⟨gb337, 1, none⟩ = some (.int .i64 t333) := (blk_cell BK337.out 1).trans rfl; have hcz13_2 : w12.cell? ⟨gb337, 2, none⟩ = some (.int .i64 t334) := (blk_cell BK337.out 2).trans rfl; have hcz13_3 : w12.cell? ⟨gb337, 3, none⟩ = some (.int .u64 t335) := (blk_cell BK337.out 3).trans rfl; have hfz13_0 := blk_frozen BK337.out 0; have hfz13_1 := blk_frozen BK337.out 1; have hfz13_2 := blk_frozen BK337.out 2; have hfz13_3 := blk_frozen BK337.out 3; obtain ⟨Ao14, co14, eo14⟩ := Kd.R_slice HO340.out; subst eo14) | (go_at_call 16; (with_reducible refine (stockyardlaw24_ends.calls t332 t333 t334 t335 _ _ t338 t342 t345 _ ?side1 ?side2 A4.out).mono ?_); (case side1 => repeat (first | exact (Kd.R_reads' HO340.out).2.2 | (with_reducible refine Kd.C_alloc ?_ _) | (with_reducible refine Kd.C_drewN ?_ _) | (with_reducible refine Kd.C_drew ?_))); (case side2 => exact (Kd.R_reads' HO340.out).2.1); rintro e w15 ⟨v343, rfl, ho0, hb⟩; have n0_ := Aside0.mk (Kd.R_below (by (with_reducible repeat (first | apply Kd.R_alloc | apply Kd.R_drewN | apply Kd.R_drew)); exact HO340.out) hb); have n1_ := Aside0.mk (Kd.R_lower ho0 (below_size (by repeat (first | (with_reducible first | exact HB.out | apply below_alloc | apply pw_below_drewN | apply below_drew1 | refine below_set ?_ (IsS25.ge HI331.out) | refine below_set ?_ GE337.out) | exact HB.out)))); have n2_ := Aside0.mk (IsS25.below (by repeat (first | (with_reducible first | exact HI331.out | apply IsS25.alloc | apply IsS25.drewN | apply IsS25.drew | apply IsS25.set_1 | refine IsS25.far ?_ NB331_337.out _) | exact HI331.out)) hb); have n3_ := Aside0.mk (blk_below (g := gb337) (o := .cells #[.int .i64 t332, .int .i64 t333, .int .i64 t334, .int .u64 t335] 28 (0, 0)) (by (with_reducible repeat (first | refine blk_drewN ?_ _ | refine blk_drew ?_ | refine blk_alloc ?_ _)); exact BK337.out) hb); have n4_ := Aside0.mk (below_step (by repeat (first | (with_reducible first | exact HB.out | apply below_alloc | apply pw_below_drewN | apply below_drew1 | refine below_set ?_ (IsS25.ge HI331.out) | refine below_set ?_ GE337.out) | exact HB.out)) hb); clear HO340; clear HI331; clear BK337; clear HB; have HO340 := n0_; have HO344 := n1_; have HI331 := n2_; have BK337 := n3_; have HB := n4_; clear n0_ n1_ n2_ n3_ n4_; (try clear hb); (try clear hb2); (try clear hk); (try clear hi); (try clear ho0); have hcz16_0 : w15.cell? ⟨gb337, 0, none⟩ = some (.int .i64 t332) := (blk_cell BK337.out 0).trans rfl; have hcz16_1 : w15.cell? ⟨gb337, 1, none⟩ = some (.int .i64 t333) := (blk_cell BK337.out 1).trans rfl; have hcz16_2 : w15.cell? ⟨gb337, 2, none⟩ = some (.int .i64 t334) := (blk_cell BK337.out 2).trans rfl; have hcz16_3 : w15.cell? ⟨gb337, 3, none⟩ = some (.int .u64 t335) := (blk_cell BK337.out 3).trans rfl; have hfz16_0 := blk_frozen BK337.out 0; have hfz16_1 := blk_frozen BK337.out 1; have hfz16_2 := blk_frozen BK337.out 2; have hfz16_3 := blk_frozen BK337.out 3) | ((with_reducible refine gate_dst (N := 8) rfl ?_); (try (refine gate_guard (by rfl) ?_; dsimp only)); refine box_event ?hg (N := 8) ?hd (cs := #[.int .i64 0, .int .i64 0, .int .i64 0, .int .u64 0]) (t := 28) ?hr ?_; (case hd => rfl); (case hg => rfl); (case hr => first | (go_simp; done) | (go_simp; rfl)); intro gb346 hg w17 hbox hb; have n0_ := Aside0.mk (Kd.R_below (by (with_reducible repeat (first | apply Kd.R_alloc | apply Kd.R_drewN | apply Kd.R_drew)); exact HO340.out) hb); have n1_ := Aside0.mk (Kd.R_below (by (with_reducible repeat (first | apply Kd.R_alloc | apply Kd.R_drewN | apply Kd.R_drew)); exact HO344.out) hb); have n2_ := Aside0.mk (IsS25.below (by repeat (first | (with_reducible first | exact HI331.out | apply IsS25.alloc | apply IsS25.drewN | apply IsS25.drew | apply IsS25.set_1 | refine IsS25.far ?_ NB331_337.out _) | exact HI331.out)) hb); have n3_ := Aside0.mk (blk_below (g := gb337) (o := .cells #[.int .i64 t332, .int .i64 t333, .int .i64 t334, .int .u64 t335] 28 (0, 0)) (by (with_reducible repeat (first | refine blk_drewN ?_ _ | refine blk_drew ?_ | refine blk_alloc ?_ _)); exact BK337.out) hb); have n4_ := Aside0.mk (below_step (by repeat (first | (with_reducible first | exact HB.out | apply below_alloc | apply pw_below_drewN | apply below_drew1 | refine below_set ?_ (IsS25.ge HI331.out) | refine below_set ?_ GE337.out) | exact HB.out)) hb); have n5_ := Aside0.mk (hbox); have n6_ := Aside0.mk ((by rw [hg]; exact (below_size (by repeat (first | (with_reducible first | exact HB.out | apply below_alloc | apply pw_below_drewN | apply below_drew1 | refine below_set ?_ (IsS25.ge HI331.out) | refine below_set ?_ GE337.out) | exact HB.out))) : w.heap.size ≤ gb346)); have n7_ := Aside0.mk ((by rw [hg]; exact (below_size (by repeat (first | (with_reducible first | exact HB.out | apply below_alloc | apply pw_below_drewN | apply below_drew1 | refine below_set ?_ (IsS25.ge HI331.out) | refine below_set ?_ GE337.out) | exact HB.out))) : w.heap.size ≤ gb346)); have n8_ := Aside0.mk ((by rw [hg]; exact Nat.ne_of_lt (blk_lt (g := gb337) (o := .cells #[.int .i64 t332, .int .i64 t333, .int .i64 t334, .int .u64 t335] 28 (0, 0)) (by (with_reducible repeat (first | refine blk_drewN ?_ _ | refine blk_drew ?_ | refine blk_alloc ?_ _)); exact BK337.out)) : gb337 ≠ gb346)); have n9_ := Aside0.mk ((by rw [hg]; exact Nat.ne_of_gt (blk_lt (g := gb337) (o := .cells #[.int .i64 t332, .int .i64 t333, .int .i64 t334, .int .u64 t335] 28 (0, 0)) (by (with_reducible repeat (first | refine blk_drewN ?_ _ | refine blk_drew ?_ | refine blk_alloc ?_ _)); exact BK337.out)) : gb346 ≠ gb337)); have n10_ := Aside0.mk ((by rw [hg]; exact Nat.ne_of_lt (IsS25.lt (show IsS25 w _ gb331 l0 t341 from by repeat (first | (with_reducible first | exact HI331.out | apply IsS25.alloc | apply IsS25.drewN | apply IsS25.drew | apply IsS25.set_1 | refine IsS25.far ?_ NB331_337.out _) | exact HI331.out))) : gb331 ≠ gb346)); have n11_ := Aside0.mk ((by rw [hg]; exact Nat.ne_of_gt (IsS25.lt (show IsS25 w _ gb331 l0 t341 from by repeat (first | (with_reducible first | exact HI331.out | apply IsS25.alloc | apply IsS25.drewN | apply IsS25.drew | apply IsS25.set_1 | refine IsS25.far ?_ NB331_337.out _) | exact HI331.out))) : gb346 ≠ gb331)); clear HO340; clear HO344; clear HI331; clear BK337; clear HB; have HO340 := n0_; have HO344 := n1_; have HI331 := n2_; have BK337 := n3_; have HB := n4_; have BK346 := n5_; have GW346 := n6_; have GE346 := n7_; have NB337_346 := n8_; have NB346_337 := n9_; have NB331_346 := n10_; have NB346_331 := n11_; clear n0_ n1_ n2_ n3_ n4_ n5_ n6_ n7_ n8_ n9_ n10_ n11_; clear hb hbox hg; have hnb18 := NB346_337.out; have hnc18 := NB337_346.out; have hnb19 := NB346_331.out; have hnc19 := NB331_346.out; have hcz20_0 : w17.cell? ⟨gb346, 0, none⟩ = some (.int .i64 0) := (blk_cell BK346.out 0).trans rfl; have hcz20_1 : w17.cell? ⟨gb346, 1, none⟩ = some (.int .i64 0) := (blk_cell BK346.out 1).trans rfl; have hcz20_2 : w17.cell? ⟨gb346, 2, none⟩ = some (.int .i64 0) := (blk_cell BK346.out 2).trans rfl; have hcz20_3 : w17.cell? ⟨gb346, 3, none⟩ = some (.int .u64 0) := (blk_cell BK346.out 3).trans rfl; have hfz20_0 := blk_frozen BK346.out 0; have hfz20_1 := blk_frozen BK346.out 1; have hfz20_2 := blk_frozen BK346.out 2; have hfz20_3 := blk_frozen BK346.out 3) | (go_at_call 16; (with_reducible refine (stockyardlaw24_ends.calls t332 t333 t334 (Go.bits .or .u64 t335 (Go.bits .or .u64 (IntKind.u64.wrap (t335 * 2)) 1)) _ _ t338 t347 t350 _ ?side1 ?side2 A5.out).mono ?_); (case side1 => refine (Kd.R_reads' (e := 5) (base := w.heap.size) (ok := fun k_ => True) (n := t338.length) (c := co14) ?_).2.2; exact (by (with_reducible repeat (first | apply Kd.R_alloc | apply Kd.R_drewN | apply Kd.R_drew)); exact (Kd.R_mono (Kd.R_far (p := ⟨gb346, 3, none⟩) (Kd.R_far (p := ⟨gb346, 3, none⟩) (Kd.R_far (p := ⟨gb346, 2, none⟩) (Kd.R_far (p := ⟨gb346, 1, none⟩) (Kd.R_far (p := ⟨gb346, 0, none⟩) (Kd.R_types HO340.out BK346.out (by decide)) (fun _ hk => hk.2) (.int .i64 t332)) (fun _ hk => hk.2) (.int .i64 t333)) (fun _ hk => hk.2) (.int .i64 t334)) (fun _ hk => hk.2) (.int .u64 t335)) (fun _ hk => hk.2) (.int .u64 (Go.bits .or .u64 t335 (Go.bits .or .u64 (IntKind.u64.wrap (t335 * 2)) 1)))) (fun _ h_ => h_.1)))); (case side2 => exact (Kd.R_reads' HO340.out).2.1); rintro e w21 ⟨v348, rfl, ho0, hb⟩; have n0_ := Aside0.mk (Kd.R_below (by (with_reducible repeat (first | apply Kd.R_alloc | apply Kd.R_drewN | apply Kd.R_drew)); exact (Kd.R_mono (Kd.R_far (p := ⟨gb346, 3, none⟩) (Kd.R_far (p := ⟨gb346, 3, none⟩) (Kd.R_far (p := ⟨gb346, 2, none⟩) (Kd.R_far (p := ⟨gb346, 1, none⟩) (Kd.R_far (p := ⟨gb346, 0, none⟩) (Kd.R_types HO340.out BK346.out (by decide)) (fun _ hk => hk.2) (.int .i64 t332)) (fun _ hk => hk.2) (.int .i64 t333)) (fun _ hk => hk.2) (.int .i64 t334)) (fun _ hk => hk.2) (.int .u64 t335)) (fun _ hk => hk.2) (.int .u64 (Go.bits .or .u64 t335 (Go.bits .or .u64 (IntKind.u64.wrap (t335 * 2)) 1)))) (fun _ h_ => h_.1))) hb); have n1_ := Aside0.mk (Kd.R_elder' (by (with_reducible repeat (first | apply Kd.R_alloc | apply Kd.R_drewN | apply Kd.R_drew)); exact (Kd.R_mono (Kd.R_far (p := ⟨gb346, 3, none⟩) (Kd.R_far (p := ⟨gb346, 3, none⟩) (Kd.R_far (p := ⟨gb346, 2, none⟩) (Kd.R_far (p := ⟨gb346, 1, none⟩) (Kd.R_far (p := ⟨gb346, 0, none⟩) (Kd.R_types HO344.out BK346.out (by decide)) (fun _ hk => hk.2) (.int .i64 t332)) (fun _ hk => hk.2) (.int .i64 t333)) (fun _ hk => hk.2) (.int .i64 t334)) (fun _ hk => hk.2) (.int .u64 t335)) (fun _ hk => hk.2) (.int .u64 (Go.bits .or .u64 t335 (Go.bits .or .u64 (IntKind.u64.wrap (t335 * 2)) 1)))) (fun _ h_ => h_.1))) (Kd.R_base ho0) hb); have n2_ := Aside0.mk (Kd.R_lower (Kd.R_new' ho0 (Kd.R_lt (by (with_reducible repeat (first | apply Kd.R_alloc | apply Kd.R_drewN | apply Kd.R_drew)); exact (Kd.R_mono (Kd.R_far (p := ⟨gb346, 3, none⟩) (Kd.R_far (p := ⟨gb346, 3, none⟩) (Kd.R_far (p := ⟨gb346, 2, none⟩) (Kd.R_far (p := ⟨gb346, 1, none⟩) (Kd.R_far (p := ⟨gb346, 0, none⟩) (Kd.R_types HO344.out BK346.out (by decide)) (fun _ hk => hk.2) (.int .i64 t332)) (fun _ hk => hk.2) (.int .i64 t333)) (fun _ hk => hk.2) (.int .i64 t334)) (fun _ hk => hk.2) (.int .u64 t335)) (fun _ hk => hk.2) (.int .u64 (Go.bits .or .u64 t335 (Go.bits .or .u64 (IntKind.u64.wrap (t335 * 2)) 1)))) (fun _ h_ => h_.1))))) (below_size (by repeat (first | (with_reducible first | exact HB.out | apply below_alloc | apply pw_below_drewN | apply below_drew1 | refine below_set ?_ (IsS25.ge HI331.out) | refine below_set ?_ GE337.out | refine below_set ?_ GE346.out) | exact HB.out)))); have n3_ := Aside0.mk (IsS25.below (show IsS25 w (((((w17.setCell ⟨gb346, 0, none⟩ (.int .i64 t332)).setCell ⟨gb346, 1, none⟩ (.int .i64 t333)).setCell ⟨gb346, 2, none⟩ (.int .i64 t334)).setCell ⟨gb346, 3, none⟩ (.int .u64 t335)).setCell ⟨gb346, 3, none⟩ (.int .u64 (Go.bits .or .u64 t335 (Go.bits .or .u64 (IntKind.u64.wrap (t335 * 2)) 1)))) gb331 l0 t341 from by repeat (first | (with_reducible first | exact HI331.out | apply IsS25.alloc | apply IsS25.drewN | apply IsS25.drew | apply IsS25.set_1 | refine IsS25.far ?_ NB331_337.out _ | refine IsS25.far ?_ NB331_346.out _) | exact HI331.out)) hb); have n4_ := Aside0.mk (blk_below (g := gb337) (o := .cells #[.int .i64 t332, .int .i64 t333, .int .i64 t334, .int .u64 t335] 28 (0, 0)) (by (with_reducible repeat (first | refine blk_drewN ?_ _ | refine blk_drew ?_ | refine blk_alloc ?_ _)); refine blk_far ?_ NB337_346.out _; (with_reducible repeat (first | refine blk_drewN ?_ _ | refine blk_drew ?_ | refine blk_alloc ?_ _)); refine blk_far ?_ NB337_346.out _; (with_reducible repeat (first | refine blk_drewN ?_ _ | refine blk_drew ?_ | refine blk_alloc ?_ _)); refine blk_far ?_ NB337_346.out _; (with_reducible repeat (first | refine blk_drewN ?_ _ | refine blk_drew ?_ | refine blk_alloc ?_ _)); refine blk_far ?_ NB337_346.out _; (with_reducible repeat (first | refine blk_drewN ?_ _ | refine blk_drew ?_ | refine blk_alloc ?_ _)); refine blk_far ?_ NB337_346.out _; (with_reducible repeat (first | refine blk_drewN ?_ _ | refine blk_drew ?_ | refine blk_alloc ?_ _)); exact BK337.out) hb); have n5_ := Aside0.mk (blk_below (g := gb346) (o := .cells #[.int .i64 t332, .int .i64 t333, .int .i64 t334, .int .u64 (Go.bits .or .u64 t335 (Go.bits .or .u64 (IntKind.u64.wrap (t335 * 2)) 1))] 28 (0, 0)) (by (with_reducible repeat (first | refine blk_drewN ?_ _ | refine blk_drew ?_ | refine blk_alloc ?_ _)); refine blk_put (cs := #[.int .i64 t332, .int .i64 t333, .int .i64 t334, .int .u64 t335]) ?_ 3 _ rfl; (with_reducible repeat (first | refine blk_drewN ?_ _ | refine blk_drew ?_ | refine blk_alloc ?_ _)); refine blk_put (cs := #[.int .i64 t332, .int .i64 t333, .int .i64 t334, .int .u64 0]) ?_ 3 _ rfl; (with_reducible repeat (first | refine blk_drewN ?_ _ | refine blk_drew ?_ | refine blk_alloc ?_ _)); refine blk_put (cs := #[.int .i64 t332, .int .i64 t333, .int .i64 0, .int .u64 0]) ?_ 2 _ rfl; (with_reducible repeat (first | refine blk_drewN ?_ _ | refine blk_drew ?_ | refine blk_alloc ?_ _)); refine blk_put (cs := #[.int .i64 t332, .int .i64 0, .int .i64 0, .int .u64 0]) ?_ 1 _ rfl; (with_reducible repeat (first | refine blk_drewN ?_ _ | refine blk_drew ?_ | refine blk_alloc ?_ _)); refine blk_put (cs := #[.int .i64 0, .int .i64 0, .int .i64 0, .int .u64 0]) ?_ 0 _ rfl; (with_reducible repeat (first | refine blk_drewN ?_ _ | refine blk_drew ?_ | refine blk_alloc ?_ _)); exact BK346.out) hb); have n6_ := Aside0.mk (below_step (by repeat (first | (with_reducible first | exact HB.out | apply below_alloc | apply pw_below_drewN | apply below_drew1 | refine below_set ?_ (IsS25.ge HI331.out) | refine below_set ?_ GE337.out | refine below_set ?_ GE346.out) | exact HB.out)) hb); clear HO340; clear HO344; clear HI331; clear BK337; clear BK346; clear HB; have HO340 := n0_; have HO344 := n1_; have HO349 := n2_; have HI331 := n3_; have BK337 := n4_; have BK346 := n5_; have HB := n6_; clear n0_ n1_ n2_ n3_ n4_ n5_ n6_; (try clear hb); (try clear hb2); (try clear hk); (try clear hi); (try clear ho0))))
  (try simp only [Act.put, List.setIfInBounds_toArray, List.set_cons_zero, List.set_cons_succ])
  go_cut [50] (fun v50 wc => ∃ (kq : Nat) (x50_5 : Bool), v50 = .bool x50_5 ∧ Aside0 (stockyardlaw24_ChunkerFew.j0 kq t338 t342 t347 x50_5 t332 t333 t334 t335 = some r) ∧ Aside0 (kq ≤ k) ∧ Aside0 (Kd.R (Kd.int .u8) 5 wc w.heap.size (fun _ => True) (.slice Ao14 t338.length co14) t338) ∧ Aside0 (Kd.R (Kd.int .i64) 3 wc w.heap.size (fun k_ => some k_ ≠ (v348 : Value).ownBlock) v343 t342) ∧ Aside0 (Kd.R (Kd.int .i64) 3 wc w.heap.size (fun k_ => some k_ ≠ (v343 : Value).ownBlock) v348 t347) ∧ Aside0 (wc.heap[gb337]? = some (.cells #[.int .i64 t332, .int .i64 t333, .int .i64 t334, .int .u64 t335] 28 (0, 0))) ∧ Aside0 (wc.heap[gb346]? = some (.cells #[.int .i64 t332, .int .i64 t333, .int .i64 t334, .int .u64 (Go.bits .or .u64 t335 (Go.bits .or .u64 (IntKind.u64.wrap (t335 * 2)) 1))] 28 (0, 0))) ∧ Aside0 (Below w.heap.size w wc))
  case first =>
    have H := HC6.out
    clear HC6
    replace H := Option.bind_eq_some_iff.mp H
    obtain ⟨t351, A220, H⟩ := H
    replace H : (if t351 = true then (if t345 = true then (stockyardlaw24_ChunkerFew.j0 k t338 t342 t347 (!t350) t332 t333 t334 t335) else (stockyardlaw24_ChunkerFew.j0 k t338 t342 t347 true t332 t333 t334 t335)) else (stockyardlaw24_ChunkerFew.j0 k t338 t342 t347 true t332 t333 t334 t335)) = some r := H
    have A22 := Aside0.mk A220
    clear A220
    by_cases c23 : t351 = true
    · subst c23
      have H1 : (if t345 = true then (stockyardlaw24_ChunkerFew.j0 k t338 t342 t347 (!t350) t332 t333 t334 t335) else (stockyardlaw24_ChunkerFew.j0 k t338 t342 t347 true t332 t333 t334 t335)) = some r := by rw [if_pos rfl] at H; exact H
      clear H
      have H := H1
      clear H1
      by_cases c24 : t345 = true
      · subst c24
        have H1 : (stockyardlaw24_ChunkerFew.j0 k t338 t342 t347 (!t350) t332 t333 t334 t335) = some r := by rw [if_pos rfl] at H; exact H
        clear H
        have H := H1
        clear H1
        have H' := Aside0.mk H
        clear H
        go_wp2_with (first | (go_at_call 17; (with_reducible refine (stockyardlaw24_known.calls k  true _ A22.out).mono ?_); rintro e w25 ⟨rfl, hb⟩; have n0_ := Aside0.mk (Kd.R_below (by (with_reducible repeat (first | apply Kd.R_alloc | apply Kd.R_drewN | apply Kd.R_drew)); exact HO340.out) hb); have n1_ := Aside0.mk (Kd.R_below (by (with_reducible repeat (first | apply Kd.R_alloc | apply Kd.R_drewN | apply Kd.R_drew)); exact HO344.out) hb); have n2_ := Aside0.mk (Kd.R_below (by (with_reducible repeat (first | apply Kd.R_alloc | apply Kd.R_drewN | apply Kd.R_drew)); exact HO349.out) hb); have n3_ := Aside0.mk (IsS25.below (by repeat (first | (with_reducible first | exact HI331.out | apply IsS25.alloc | apply IsS25.drewN | apply IsS25.drew | apply IsS25.set_1 | refine IsS25.far ?_ NB331_337.out _ | refine IsS25.far ?_ NB331_346.out _) | exact HI331.out)) hb); have n4_ := Aside0.mk (blk_below (g := gb337) (o := .cells #[.int .i64 t332, .int .i64 t333, .int .i64 t334, .int .u64 t335] 28 (0, 0)) (by (with_reducible repeat (first | refine blk_drewN ?_ _ | refine blk_drew ?_ | refine blk_alloc ?_ _)); exact BK337.out) hb); have n5_ := Aside0.mk (blk_below (g := gb346) (o := .cells #[.int .i64 t332, .int .i64 t333, .int .i64 t334, .int .u64 (Go.bits .or .u64 t335 (Go.bits .or .u64 (IntKind.u64.wrap (t335 * 2)) 1))] 28 (0, 0)) (by (with_reducible repeat (first | refine blk_drewN ?_ _ | refine blk_drew ?_ | refine blk_alloc ?_ _)); exact BK346.out) hb); have n6_ := Aside0.mk (below_step (by repeat (first | (with_reducible first | exact HB.out | apply below_alloc | apply pw_below_drewN | apply below_drew1 | refine below_set ?_ (IsS25.ge HI331.out) | refine below_set ?_ GE337.out | refine below_set ?_ GE346.out) | exact HB.out)) hb); clear HO340; clear HO344; clear HO349; clear HI331; clear BK337; clear BK346; clear HB; have HO340 := n0_; have HO344 := n1_; have HO349 := n2_; have HI331 := n3_; have BK337 := n4_; have BK346 := n5_; have HB := n6_; clear n0_ n1_ n2_ n3_ n4_ n5_ n6_; (try clear hb); (try clear hb2); (try clear hk); (try clear hi)))
        repeat (go_quiet (first | (go_at_call 17; (with_reducible refine (stockyardlaw24_known.calls k  true _ A22.out).mono ?_); rintro e w25 ⟨rfl, hb⟩; have n0_ := Aside0.mk (Kd.R_below (by (with_reducible repeat (first | apply Kd.R_alloc | apply Kd.R_drewN | apply Kd.R_drew)); exact HO340.out) hb); have n1_ := Aside0.mk (Kd.R_below (by (with_reducible repeat (first | apply Kd.R_alloc | apply Kd.R_drewN | apply Kd.R_drew)); exact HO344.out) hb); have n2_ := Aside0.mk (Kd.R_below (by (with_reducible repeat (first | apply Kd.R_alloc | apply Kd.R_drewN | apply Kd.R_drew)); exact HO349.out) hb); have n3_ := Aside0.mk (IsS25.below (by repeat (first | (with_reducible first | exact HI331.out | apply IsS25.alloc | apply IsS25.drewN | apply IsS25.drew | apply IsS25.set_1 | refine IsS25.far ?_ NB331_337.out _ | refine IsS25.far ?_ NB331_346.out _) | exact HI331.out)) hb); have n4_ := Aside0.mk (blk_below (g := gb337) (o := .cells #[.int .i64 t332, .int .i64 t333, .int .i64 t334, .int .u64 t335] 28 (0, 0)) (by (with_reducible repeat (first | refine blk_drewN ?_ _ | refine blk_drew ?_ | refine blk_alloc ?_ _)); exact BK337.out) hb); have n5_ := Aside0.mk (blk_below (g := gb346) (o := .cells #[.int .i64 t332, .int .i64 t333, .int .i64 t334, .int .u64 (Go.bits .or .u64 t335 (Go.bits .or .u64 (IntKind.u64.wrap (t335 * 2)) 1))] 28 (0, 0)) (by (with_reducible repeat (first | refine blk_drewN ?_ _ | refine blk_drew ?_ | refine blk_alloc ?_ _)); exact BK346.out) hb); have n6_ := Aside0.mk (below_step (by repeat (first | (with_reducible first | exact HB.out | apply below_alloc | apply pw_below_drewN | apply below_drew1 | refine below_set ?_ (IsS25.ge HI331.out) | refine below_set ?_ GE337.out | refine below_set ?_ GE346.out) | exact HB.out)) hb); clear HO340; clear HO344; clear HO349; clear HI331; clear BK337; clear BK346; clear HB; have HO340 := n0_; have HO344 := n1_; have HO349 := n2_; have HI331 := n3_; have BK337 := n4_; have BK346 := n5_; have HB := n6_; clear n0_ n1_ n2_ n3_ n4_ n5_ n6_; (try clear hb); (try clear hb2); (try clear hk); (try clear hi))); try go_wp2_with (first | (go_at_call 17; (with_reducible refine (stockyardlaw24_known.calls k  true _ A22.out).mono ?_); rintro e w25 ⟨rfl, hb⟩; have n0_ := Aside0.mk (Kd.R_below (by (with_reducible repeat (first | apply Kd.R_alloc | apply Kd.R_drewN | apply Kd.R_drew)); exact HO340.out) hb); have n1_ := Aside0.mk (Kd.R_below (by (with_reducible repeat (first | apply Kd.R_alloc | apply Kd.R_drewN | apply Kd.R_drew)); exact HO344.out) hb); have n2_ := Aside0.mk (Kd.R_below (by (with_reducible repeat (first | apply Kd.R_alloc | apply Kd.R_drewN | apply Kd.R_drew)); exact HO349.out) hb); have n3_ := Aside0.mk (IsS25.below (by repeat (first | (with_reducible first | exact HI331.out | apply IsS25.alloc | apply IsS25.drewN | apply IsS25.drew | apply IsS25.set_1 | refine IsS25.far ?_ NB331_337.out _ | refine IsS25.far ?_ NB331_346.out _) | exact HI331.out)) hb); have n4_ := Aside0.mk (blk_below (g := gb337) (o := .cells #[.int .i64 t332, .int .i64 t333, .int .i64 t334, .int .u64 t335] 28 (0, 0)) (by (with_reducible repeat (first | refine blk_drewN ?_ _ | refine blk_drew ?_ | refine blk_alloc ?_ _)); exact BK337.out) hb); have n5_ := Aside0.mk (blk_below (g := gb346) (o := .cells #[.int .i64 t332, .int .i64 t333, .int .i64 t334, .int .u64 (Go.bits .or .u64 t335 (Go.bits .or .u64 (IntKind.u64.wrap (t335 * 2)) 1))] 28 (0, 0)) (by (with_reducible repeat (first | refine blk_drewN ?_ _ | refine blk_drew ?_ | refine blk_alloc ?_ _)); exact BK346.out) hb); have n6_ := Aside0.mk (below_step (by repeat (first | (with_reducible first | exact HB.out | apply below_alloc | apply pw_below_drewN | apply below_drew1 | refine below_set ?_ (IsS25.ge HI331.out) | refine below_set ?_ GE337.out | refine below_set ?_ GE346.out) | exact HB.out)) hb); clear HO340; clear HO344; clear HO349; clear HI331; clear BK337; clear BK346; clear HB; have HO340 := n0_; have HO344 := n1_; have HO349 := n2_; have HI331 := n3_; have BK337 := n4_; have BK346 := n5_; have HB := n6_; clear n0_ n1_ n2_ n3_ n4_ n5_ n6_; (try clear hb); (try clear hb2); (try clear hk); (try clear hi))))
        go_meet
        case rel => exact ⟨_, (!t350), (by first | rfl | (simp; done) | (simp [*]; done)), H', ⟨by first | omega | exact Nat.le_refl _⟩, ⟨by (with_reducible repeat (first | apply Kd.R_alloc | apply Kd.R_drewN | apply Kd.R_drew)); exact HO340.out⟩, ⟨by (with_reducible repeat (first | apply Kd.R_alloc | apply Kd.R_drewN | apply Kd.R_drew)); exact Kd.R_mono HO344.out (fun _ hk => hk.2)⟩, ⟨by (with_reducible repeat (first | apply Kd.R_alloc | apply Kd.R_drewN | apply Kd.R_drew)); exact Kd.R_mono HO349.out (fun _ hk => hk.2)⟩, ⟨by (with_reducible repeat (first | refine blk_drewN ?_ _ | refine blk_drew ?_ | refine blk_alloc ?_ _)); exact BK337.out⟩, ⟨by (with_reducible repeat (first | refine blk_drewN ?_ _ | refine blk_drew ?_ | refine blk_alloc ?_ _)); exact BK346.out⟩, ⟨by repeat (first | (with_reducible first | exact HB.out | apply below_alloc | apply pw_below_drewN | apply below_drew1 | refine below_set ?_ (IsS25.ge HI331.out) | refine below_set ?_ GE337.out | refine below_set ?_ GE346.out) | exact HB.out)⟩⟩
      · replace c24 := Bool.eq_false_iff.mpr c24
        subst c24
        have H1 : (stockyardlaw24_ChunkerFew.j0 k t338 t342 t347 true t332 t333 t334 t335) = some r := by rw [if_neg (show ¬ (false = true) by decide)] at H; exact H
        clear H
        have H := H1
        clear H1
        have H' := Aside0.mk H
        clear H
        go_wp2_with (first | (go_at_call 17; (with_reducible refine (stockyardlaw24_known.calls k  true _ A22.out).mono ?_); rintro e w26 ⟨rfl, hb⟩; have n0_ := Aside0.mk (Kd.R_below (by (with_reducible repeat (first | apply Kd.R_alloc | apply Kd.R_drewN | apply Kd.R_drew)); exact HO340.out) hb); have n1_ := Aside0.mk (Kd.R_below (by (with_reducible repeat (first | apply Kd.R_alloc | apply Kd.R_drewN | apply Kd.R_drew)); exact HO344.out) hb); have n2_ := Aside0.mk (Kd.R_below (by (with_reducible repeat (first | apply Kd.R_alloc | apply Kd.R_drewN | apply Kd.R_drew)); exact HO349.out) hb); have n3_ := Aside0.mk (IsS25.below (by repeat (first | (with_reducible first | exact HI331.out | apply IsS25.alloc | apply IsS25.drewN | apply IsS25.drew | apply IsS25.set_1 | refine IsS25.far ?_ NB331_337.out _ | refine IsS25.far ?_ NB331_346.out _) | exact HI331.out)) hb); have n4_ := Aside0.mk (blk_below (g := gb337) (o := .cells #[.int .i64 t332, .int .i64 t333, .int .i64 t334, .int .u64 t335] 28 (0, 0)) (by (with_reducible repeat (first | refine blk_drewN ?_ _ | refine blk_drew ?_ | refine blk_alloc ?_ _)); exact BK337.out) hb); have n5_ := Aside0.mk (blk_below (g := gb346) (o := .cells #[.int .i64 t332, .int .i64 t333, .int .i64 t334, .int .u64 (Go.bits .or .u64 t335 (Go.bits .or .u64 (IntKind.u64.wrap (t335 * 2)) 1))] 28 (0, 0)) (by (with_reducible repeat (first | refine blk_drewN ?_ _ | refine blk_drew ?_ | refine blk_alloc ?_ _)); exact BK346.out) hb); have n6_ := Aside0.mk (below_step (by repeat (first | (with_reducible first | exact HB.out | apply below_alloc | apply pw_below_drewN | apply below_drew1 | refine below_set ?_ (IsS25.ge HI331.out) | refine below_set ?_ GE337.out | refine below_set ?_ GE346.out) | exact HB.out)) hb); clear HO340; clear HO344; clear HO349; clear HI331; clear BK337; clear BK346; clear HB; have HO340 := n0_; have HO344 := n1_; have HO349 := n2_; have HI331 := n3_; have BK337 := n4_; have BK346 := n5_; have HB := n6_; clear n0_ n1_ n2_ n3_ n4_ n5_ n6_; (try clear hb); (try clear hb2); (try clear hk); (try clear hi)))
        repeat (go_quiet (first | (go_at_call 17; (with_reducible refine (stockyardlaw24_known.calls k  true _ A22.out).mono ?_); rintro e w26 ⟨rfl, hb⟩; have n0_ := Aside0.mk (Kd.R_below (by (with_reducible repeat (first | apply Kd.R_alloc | apply Kd.R_drewN | apply Kd.R_drew)); exact HO340.out) hb); have n1_ := Aside0.mk (Kd.R_below (by (with_reducible repeat (first | apply Kd.R_alloc | apply Kd.R_drewN | apply Kd.R_drew)); exact HO344.out) hb); have n2_ := Aside0.mk (Kd.R_below (by (with_reducible repeat (first | apply Kd.R_alloc | apply Kd.R_drewN | apply Kd.R_drew)); exact HO349.out) hb); have n3_ := Aside0.mk (IsS25.below (by repeat (first | (with_reducible first | exact HI331.out | apply IsS25.alloc | apply IsS25.drewN | apply IsS25.drew | apply IsS25.set_1 | refine IsS25.far ?_ NB331_337.out _ | refine IsS25.far ?_ NB331_346.out _) | exact HI331.out)) hb); have n4_ := Aside0.mk (blk_below (g := gb337) (o := .cells #[.int .i64 t332, .int .i64 t333, .int .i64 t334, .int .u64 t335] 28 (0, 0)) (by (with_reducible repeat (first | refine blk_drewN ?_ _ | refine blk_drew ?_ | refine blk_alloc ?_ _)); exact BK337.out) hb); have n5_ := Aside0.mk (blk_below (g := gb346) (o := .cells #[.int .i64 t332, .int .i64 t333, .int .i64 t334, .int .u64 (Go.bits .or .u64 t335 (Go.bits .or .u64 (IntKind.u64.wrap (t335 * 2)) 1))] 28 (0, 0)) (by (with_reducible repeat (first | refine blk_drewN ?_ _ | refine blk_drew ?_ | refine blk_alloc ?_ _)); exact BK346.out) hb); have n6_ := Aside0.mk (below_step (by repeat (first | (with_reducible first | exact HB.out | apply below_alloc | apply pw_below_drewN | apply below_drew1 | refine below_set ?_ (IsS25.ge HI331.out) | refine below_set ?_ GE337.out | refine below_set ?_ GE346.out) | exact HB.out)) hb); clear HO340; clear HO344; clear HO349; clear HI331; clear BK337; clear BK346; clear HB; have HO340 := n0_; have HO344 := n1_; have HO349 := n2_; have HI331 := n3_; have BK337 := n4_; have BK346 := n5_; have HB := n6_; clear n0_ n1_ n2_ n3_ n4_ n5_ n6_; (try clear hb); (try clear hb2); (try clear hk); (try clear hi))); try go_wp2_with (first | (go_at_call 17; (with_reducible refine (stockyardlaw24_known.calls k  true _ A22.out).mono ?_); rintro e w26 ⟨rfl, hb⟩; have n0_ := Aside0.mk (Kd.R_below (by (with_reducible repeat (first | apply Kd.R_alloc | apply Kd.R_drewN | apply Kd.R_drew)); exact HO340.out) hb); have n1_ := Aside0.mk (Kd.R_below (by (with_reducible repeat (first | apply Kd.R_alloc | apply Kd.R_drewN | apply Kd.R_drew)); exact HO344.out) hb); have n2_ := Aside0.mk (Kd.R_below (by (with_reducible repeat (first | apply Kd.R_alloc | apply Kd.R_drewN | apply Kd.R_drew)); exact HO349.out) hb); have n3_ := Aside0.mk (IsS25.below (by repeat (first | (with_reducible first | exact HI331.out | apply IsS25.alloc | apply IsS25.drewN | apply IsS25.drew | apply IsS25.set_1 | refine IsS25.far ?_ NB331_337.out _ | refine IsS25.far ?_ NB331_346.out _) | exact HI331.out)) hb); have n4_ := Aside0.mk (blk_below (g := gb337) (o := .cells #[.int .i64 t332, .int .i64 t333, .int .i64 t334, .int .u64 t335] 28 (0, 0)) (by (with_reducible repeat (first | refine blk_drewN ?_ _ | refine blk_drew ?_ | refine blk_alloc ?_ _)); exact BK337.out) hb); have n5_ := Aside0.mk (blk_below (g := gb346) (o := .cells #[.int .i64 t332, .int .i64 t333, .int .i64 t334, .int .u64 (Go.bits .or .u64 t335 (Go.bits .or .u64 (IntKind.u64.wrap (t335 * 2)) 1))] 28 (0, 0)) (by (with_reducible repeat (first | refine blk_drewN ?_ _ | refine blk_drew ?_ | refine blk_alloc ?_ _)); exact BK346.out) hb); have n6_ := Aside0.mk (below_step (by repeat (first | (with_reducible first | exact HB.out | apply below_alloc | apply pw_below_drewN | apply below_drew1 | refine below_set ?_ (IsS25.ge HI331.out) | refine below_set ?_ GE337.out | refine below_set ?_ GE346.out) | exact HB.out)) hb); clear HO340; clear HO344; clear HO349; clear HI331; clear BK337; clear BK346; clear HB; have HO340 := n0_; have HO344 := n1_; have HO349 := n2_; have HI331 := n3_; have BK337 := n4_; have BK346 := n5_; have HB := n6_; clear n0_ n1_ n2_ n3_ n4_ n5_ n6_; (try clear hb); (try clear hb2); (try clear hk); (try clear hi))))
        go_meet
        case rel => exact ⟨_, (true), (by first | rfl | (simp; done) | (simp [*]; done)), H', ⟨by first | omega | exact Nat.le_refl _⟩, ⟨by (with_reducible repeat (first | apply Kd.R_alloc | apply Kd.R_drewN | apply Kd.R_drew)); exact HO340.out⟩, ⟨by (with_reducible repeat (first | apply Kd.R_alloc | apply Kd.R_drewN | apply Kd.R_drew)); exact Kd.R_mono HO344.out (fun _ hk => hk.2)⟩, ⟨by (with_reducible repeat (first | apply Kd.R_alloc | apply Kd.R_drewN | apply Kd.R_drew)); exact Kd.R_mono HO349.out (fun _ hk => hk.2)⟩, ⟨by (with_reducible repeat (first | refine blk_drewN ?_ _ | refine blk_drew ?_ | refine blk_alloc ?_ _)); exact BK337.out⟩, ⟨by (with_reducible repeat (first | refine blk_drewN ?_ _ | refine blk_drew ?_ | refine blk_alloc ?_ _)); exact BK346.out⟩, ⟨by repeat (first | (with_reducible first | exact HB.out | apply below_alloc | apply pw_below_drewN | apply below_drew1 | refine below_set ?_ (IsS25.ge HI331.out) | refine below_set ?_ GE337.out | refine below_set ?_ GE346.out) | exact HB.out)⟩⟩
    · replace c23 := Bool.eq_false_iff.mpr c23
      subst c23
      have H1 : (stockyardlaw24_ChunkerFew.j0 k t338 t342 t347 true t332 t333 t334 t335) = some r := by rw [if_neg (show ¬ (false = true) by decide)] at H; exact H
      clear H
      have H := H1
      clear H1
      have H' := Aside0.mk H
      clear H
      go_wp2_with (first | (go_at_call 17; (with_reducible refine (stockyardlaw24_known.calls k  false _ A22.out).mono ?_); rintro e w27 ⟨rfl, hb⟩; have n0_ := Aside0.mk (Kd.R_below (by (with_reducible repeat (first | apply Kd.R_alloc | apply Kd.R_drewN | apply Kd.R_drew)); exact HO340.out) hb); have n1_ := Aside0.mk (Kd.R_below (by (with_reducible repeat (first | apply Kd.R_alloc | apply Kd.R_drewN | apply Kd.R_drew)); exact HO344.out) hb); have n2_ := Aside0.mk (Kd.R_below (by (with_reducible repeat (first | apply Kd.R_alloc | apply Kd.R_drewN | apply Kd.R_drew)); exact HO349.out) hb); have n3_ := Aside0.mk (IsS25.below (by repeat (first | (with_reducible first | exact HI331.out | apply IsS25.alloc | apply IsS25.drewN | apply IsS25.drew | apply IsS25.set_1 | refine IsS25.far ?_ NB331_337.out _ | refine IsS25.far ?_ NB331_346.out _) | exact HI331.out)) hb); have n4_ := Aside0.mk (blk_below (g := gb337) (o := .cells #[.int .i64 t332, .int .i64 t333, .int .i64 t334, .int .u64 t335] 28 (0, 0)) (by (with_reducible repeat (first | refine blk_drewN ?_ _ | refine blk_drew ?_ | refine blk_alloc ?_ _)); exact BK337.out) hb); have n5_ := Aside0.mk (blk_below (g := gb346) (o := .cells #[.int .i64 t332, .int .i64 t333, .int .i64 t334, .int .u64 (Go.bits .or .u64 t335 (Go.bits .or .u64 (IntKind.u64.wrap (t335 * 2)) 1))] 28 (0, 0)) (by (with_reducible repeat (first | refine blk_drewN ?_ _ | refine blk_drew ?_ | refine blk_alloc ?_ _)); exact BK346.out) hb); have n6_ := Aside0.mk (below_step (by repeat (first | (with_reducible first | exact HB.out | apply below_alloc | apply pw_below_drewN | apply below_drew1 | refine below_set ?_ (IsS25.ge HI331.out) | refine below_set ?_ GE337.out | refine below_set ?_ GE346.out) | exact HB.out)) hb); clear HO340; clear HO344; clear HO349; clear HI331; clear BK337; clear BK346; clear HB; have HO340 := n0_; have HO344 := n1_; have HO349 := n2_; have HI331 := n3_; have BK337 := n4_; have BK346 := n5_; have HB := n6_; clear n0_ n1_ n2_ n3_ n4_ n5_ n6_; (try clear hb); (try clear hb2); (try clear hk); (try clear hi)))
      repeat (go_quiet (first | (go_at_call 17; (with_reducible refine (stockyardlaw24_known.calls k  false _ A22.out).mono ?_); rintro e w27 ⟨rfl, hb⟩; have n0_ := Aside0.mk (Kd.R_below (by (with_reducible repeat (first | apply Kd.R_alloc | apply Kd.R_drewN | apply Kd.R_drew)); exact HO340.out) hb); have n1_ := Aside0.mk (Kd.R_below (by (with_reducible repeat (first | apply Kd.R_alloc | apply Kd.R_drewN | apply Kd.R_drew)); exact HO344.out) hb); have n2_ := Aside0.mk (Kd.R_below (by (with_reducible repeat (first | apply Kd.R_alloc | apply Kd.R_drewN | apply Kd.R_drew)); exact HO349.out) hb); have n3_ := Aside0.mk (IsS25.below (by repeat (first | (with_reducible first | exact HI331.out | apply IsS25.alloc | apply IsS25.drewN | apply IsS25.drew | apply IsS25.set_1 | refine IsS25.far ?_ NB331_337.out _ | refine IsS25.far ?_ NB331_346.out _) | exact HI331.out)) hb); have n4_ := Aside0.mk (blk_below (g := gb337) (o := .cells #[.int .i64 t332, .int .i64 t333, .int .i64 t334, .int .u64 t335] 28 (0, 0)) (by (with_reducible repeat (first | refine blk_drewN ?_ _ | refine blk_drew ?_ | refine blk_alloc ?_ _)); exact BK337.out) hb); have n5_ := Aside0.mk (blk_below (g := gb346) (o := .cells #[.int .i64 t332, .int .i64 t333, .int .i64 t334, .int .u64 (Go.bits .or .u64 t335 (Go.bits .or .u64 (IntKind.u64.wrap (t335 * 2)) 1))] 28 (0, 0)) (by (with_reducible repeat (first | refine blk_drewN ?_ _ | refine blk_drew ?_ | refine blk_alloc ?_ _)); exact BK346.out) hb); have n6_ := Aside0.mk (below_step (by repeat (first | (with_reducible first | exact HB.out | apply below_alloc | apply pw_below_drewN | apply below_drew1 | refine below_set ?_ (IsS25.ge HI331.out) | refine below_set ?_ GE337.out | refine below_set ?_ GE346.out) | exact HB.out)) hb); clear HO340; clear HO344; clear HO349; clear HI331; clear BK337; clear BK346; clear HB; have HO340 := n0_; have HO344 := n1_; have HO349 := n2_; have HI331 := n3_; have BK337 := n4_; have BK346 := n5_; have HB := n6_; clear n0_ n1_ n2_ n3_ n4_ n5_ n6_; (try clear hb); (try clear hb2); (try clear hk); (try clear hi))); try go_wp2_with (first | (go_at_call 17; (with_reducible refine (stockyardlaw24_known.calls k  false _ A22.out).mono ?_); rintro e w27 ⟨rfl, hb⟩; have n0_ := Aside0.mk (Kd.R_below (by (with_reducible repeat (first | apply Kd.R_alloc | apply Kd.R_drewN | apply Kd.R_drew)); exact HO340.out) hb); have n1_ := Aside0.mk (Kd.R_below (by (with_reducible repeat (first | apply Kd.R_alloc | apply Kd.R_drewN | apply Kd.R_drew)); exact HO344.out) hb); have n2_ := Aside0.mk (Kd.R_below (by (with_reducible repeat (first | apply Kd.R_alloc | apply Kd.R_drewN | apply Kd.R_drew)); exact HO349.out) hb); have n3_ := Aside0.mk (IsS25.below (by repeat (first | (with_reducible first | exact HI331.out | apply IsS25.alloc | apply IsS25.drewN | apply IsS25.drew | apply IsS25.set_1 | refine IsS25.far ?_ NB331_337.out _ | refine IsS25.far ?_ NB331_346.out _) | exact HI331.out)) hb); have n4_ := Aside0.mk (blk_below (g := gb337) (o := .cells #[.int .i64 t332, .int .i64 t333, .int .i64 t334, .int .u64 t335] 28 (0, 0)) (by (with_reducible repeat (first | refine blk_drewN ?_ _ | refine blk_drew ?_ | refine blk_alloc ?_ _)); exact BK337.out) hb); have n5_ := Aside0.mk (blk_below (g := gb346) (o := .cells #[.int .i64 t332, .int .i64 t333, .int .i64 t334, .int .u64 (Go.bits .or .u64 t335 (Go.bits .or .u64 (IntKind.u64.wrap (t335 * 2)) 1))] 28 (0, 0)) (by (with_reducible repeat (first | refine blk_drewN ?_ _ | refine blk_drew ?_ | refine blk_alloc ?_ _)); exact BK346.out) hb); have n6_ := Aside0.mk (below_step (by repeat (first | (with_reducible first | exact HB.out | apply below_alloc | apply pw_below_drewN | apply below_drew1 | refine below_set ?_ (IsS25.ge HI331.out) | refine below_set ?_ GE337.out | refine below_set ?_ GE346.out) | exact HB.out)) hb); clear HO340; clear HO344; clear HO349; clear HI331; clear BK337; clear BK346; clear HB; have HO340 := n0_; have HO344 := n1_; have HO349 := n2_; have HI331 := n3_; have BK337 := n4_; have BK346 := n5_; have HB := n6_; clear n0_ n1_ n2_ n3_ n4_ n5_ n6_; (try clear hb); (try clear hb2); (try clear hk); (try clear hi))))
      go_meet
      case rel => exact ⟨_, (true), (by first | rfl | (simp; done) | (simp [*]; done)), H', ⟨by first | omega | exact Nat.le_refl _⟩, ⟨by (with_reducible repeat (first | apply Kd.R_alloc | apply Kd.R_drewN | apply Kd.R_drew)); exact HO340.out⟩, ⟨by (with_reducible repeat (first | apply Kd.R_alloc | apply Kd.R_drewN | apply Kd.R_drew)); exact Kd.R_mono HO344.out (fun _ hk => hk.2)⟩, ⟨by (with_reducible repeat (first | apply Kd.R_alloc | apply Kd.R_drewN | apply Kd.R_drew)); exact Kd.R_mono HO349.out (fun _ hk => hk.2)⟩, ⟨by (with_reducible repeat (first | refine blk_drewN ?_ _ | refine blk_drew ?_ | refine blk_alloc ?_ _)); exact BK337.out⟩, ⟨by (with_reducible repeat (first | refine blk_drewN ?_ _ | refine blk_drew ?_ | refine blk_alloc ?_ _)); exact BK346.out⟩, ⟨by repeat (first | (with_reducible first | exact HB.out | apply below_alloc | apply pw_below_drewN | apply below_drew1 | refine below_set ?_ (IsS25.ge HI331.out) | refine below_set ?_ GE337.out | refine below_set ?_ GE346.out) | exact HB.out)⟩⟩
  case rest =>
    clear HC6
    try clear c1
    try clear c2
    try clear p2
    try clear c7
    try clear c10
    try clear c18
    try clear c19
    try clear c23
    try clear c24
    try clear hcz11_0
    try clear hcz11_1
    try clear hcz11_2
    try clear hcz11_3
    try clear hcz13_0
    try clear hcz13_1
    try clear hcz13_2
    try clear hcz13_3
    try clear hcz16_0
    try clear hcz16_1
    try clear hcz16_2
    try clear hcz16_3
    try clear hcz20_0
    try clear hcz20_1
    try clear hcz20_2
    try clear hcz20_3
    try clear hfz11_0
    try clear hfz11_1
    try clear hfz11_2
    try clear hfz11_3
    try clear hfz13_0
    try clear hfz13_1
    try clear hfz13_2
    try clear hfz13_3
    try clear hfz16_0
    try clear hfz16_1
    try clear hfz16_2
    try clear hfz16_3
    try clear hfz20_0
    try clear hfz20_1
    try clear hfz20_2
    try clear hfz20_3
    obtain ⟨kq, x50_5, rfl, HA, HJ5, HO_5, HO_6, HO_9, BK337, BK346, HB⟩ := hcut
    cases kq with
    | zero => exact absurd HA.out (by simp [stockyardlaw24_ChunkerFew.j0])
    | succ kj5 =>
      have H := HA.out
      clear HA
      simp only [stockyardlaw24_ChunkerFew.j0] at H
      by_cases c28 : x50_5 = true
      · subst c28
        have H1 : (some false) = some r := by rw [if_pos rfl] at H; exact H
        clear H
        have H := H1
        clear H1
        exact absurd ((Option.some.inj H).trans HRT.out) (by decide)
      · replace c28 := Bool.eq_false_iff.mpr c28
        subst c28
        have H1 : (if t333 = 0 then (none) else (if (t342.length : Int) < (wrap64 (Int.tdiv (wrap64 ((wrap64 ((t338.length : Int) + t333)) - 1)) t333)) then (stockyardlaw24_ChunkerFew.j1 kj5 t342 t347 true) else (if t332 = 0 then (none) else (stockyardlaw24_ChunkerFew.j1 kj5 t342 t347 (decide ((t342.length : Int) > (wrap64 (Int.tdiv (wrap64 ((wrap64 ((t338.length : Int) + t332)) - 1)) t332)))))))) = some r := by rw [if_neg (show ¬ (false = true) by decide)] at H; exact H
        clear H
        have H := H1
        clear H1
        have HC29 := Aside0.mk H
        clear H
        go_upto_region 11 with (fail)
        repeat (go_quiet (fail); go_upto_region 11 with (fail))
        go_cut [76] (fun v76 wc => ∃ (kq : Nat) (x76_28 : Bool), v76 = .bool x76_28 ∧ Aside0 (stockyardlaw24_ChunkerFew.j1 kq t342 t347 x76_28 = some r) ∧ Aside0 (kq ≤ kj5) ∧ Aside0 (Kd.R (Kd.int .i64) 3 wc w.heap.size (fun k_ => some k_ ≠ (v348 : Value).ownBlock) v343 t342) ∧ Aside0 (Kd.R (Kd.int .i64) 3 wc w.heap.size (fun k_ => some k_ ≠ (v343 : Value).ownBlock) v348 t347) ∧ Aside0 (wc.heap[gb337]? = some (.cells #[.int .i64 t332, .int .i64 t333, .int .i64 t334, .int .u64 t335] 28 (0, 0))) ∧ Aside0 (wc.heap[gb346]? = some (.cells #[.int .i64 t332, .int .i64 t333, .int .i64 t334, .int .u64 (Go.bits .or .u64 t335 (Go.bits .or .u64 (IntKind.u64.wrap (t335 * 2)) 1))] 28 (0, 0))) ∧ Aside0 (Below w.heap.size w wc))
        case first =>
          have H := HC29.out
          clear HC29
          by_cases c30 : t333 = 0
          · rw [if_pos c30] at H
            exact absurd H (by simp)
          · rw [if_neg c30] at H
            have c30b0 : (t333 == 0) = false := beq_eq_false_iff_ne.mpr c30
            have c30b1 : (t333 != 0) = true := bne_iff_ne.mpr c30
            (first | rw [c30b0] | (simp only [i64_w, i32_w]; rw [c30b0]) | skip)
            by_cases c31 : (t342.length : Int) < (wrap64 (Int.tdiv (wrap64 ((wrap64 ((t338.length : Int) + t333)) - 1)) t333))
            · rw [if_pos c31] at H
              have c31b0 : decide ((t342.length : Int) < (wrap64 (Int.tdiv (wrap64 ((wrap64 ((t338.length : Int) + t333)) - 1)) t333))) = true := decide_eq_true c31
              clear c31
              have H' := Aside0.mk H
              clear H
              obtain ⟨Ao32, co32, eo32⟩ := Kd.R_slice HO_6.out
              subst eo32
              have hnb33 := NB337_346.out
              have hnc33 := NB346_337.out
              have hcz34_0 : wc.cell? ⟨gb337, 0, none⟩ = some (.int .i64 t332) := (blk_cell BK337.out 0).trans rfl
              have hcz34_1 : wc.cell? ⟨gb337, 1, none⟩ = some (.int .i64 t333) := (blk_cell BK337.out 1).trans rfl
              have hcz34_2 : wc.cell? ⟨gb337, 2, none⟩ = some (.int .i64 t334) := (blk_cell BK337.out 2).trans rfl
              have hcz34_3 : wc.cell? ⟨gb337, 3, none⟩ = some (.int .u64 t335) := (blk_cell BK337.out 3).trans rfl
              have hfz34_0 := blk_frozen BK337.out 0
              have hfz34_1 := blk_frozen BK337.out 1
              have hfz34_2 := blk_frozen BK337.out 2
              have hfz34_3 := blk_frozen BK337.out 3
              go_wp2
              repeat (go_quiet (fail); try go_wp2)
              go_meet
              case rel => exact ⟨_, (true), (by first | rfl | (simp; done) | (simp [*]; done)), H', ⟨by have := HJ5.out; first | omega | exact Nat.le_refl _⟩, ⟨by (with_reducible repeat (first | apply Kd.R_alloc | apply Kd.R_drewN | apply Kd.R_drew)); exact HO_6.out⟩, ⟨by (with_reducible repeat (first | apply Kd.R_alloc | apply Kd.R_drewN | apply Kd.R_drew)); exact HO_9.out⟩, ⟨by (with_reducible repeat (first | refine blk_drewN ?_ _ | refine blk_drew ?_ | refine blk_alloc ?_ _)); exact BK337.out⟩, ⟨by (with_reducible repeat (first | refine blk_drewN ?_ _ | refine blk_drew ?_ | refine blk_alloc ?_ _)); exact BK346.out⟩, ⟨by repeat (first | (with_reducible first | exact HB.out | apply below_alloc | apply pw_below_drewN | apply below_drew1 | refine below_set ?_ GE337.out | refine below_set ?_ GE346.out) | exact HB.out)⟩⟩
            · rw [if_neg c31] at H
              have c31b0 : decide ((t342.length : Int) < (wrap64 (Int.tdiv (wrap64 ((wrap64 ((t338.length : Int) + t333)) - 1)) t333))) = false := decide_eq_false c31
              clear c31
              by_cases c35 : t332 = 0
              · rw [if_pos c35] at H
                exact absurd H (by simp)
              · rw [if_neg c35] at H
                have c35b0 : (t332 == 0) = false := beq_eq_false_iff_ne.mpr c35
                have c35b1 : (t332 != 0) = true := bne_iff_ne.mpr c35
                have H' := Aside0.mk H
                clear H
                obtain ⟨Ao36, co36, eo36⟩ := Kd.R_slice HO_6.out
                subst eo36
                have hnb37 := NB337_346.out
                have hnc37 := NB346_337.out
                have hcz38_0 : wc.cell? ⟨gb337, 0, none⟩ = some (.int .i64 t332) := (blk_cell BK337.out 0).trans rfl
                have hcz38_1 : wc.cell? ⟨gb337, 1, none⟩ = some (.int .i64 t333) := (blk_cell BK337.out 1).trans rfl
                have hcz38_2 : wc.cell? ⟨gb337, 2, none⟩ = some (.int .i64 t334) := (blk_cell BK337.out 2).trans rfl
                have hcz38_3 : wc.cell? ⟨gb337, 3, none⟩ = some (.int .u64 t335) := (blk_cell BK337.out 3).trans rfl
                have hfz38_0 := blk_frozen BK337.out 0
                have hfz38_1 := blk_frozen BK337.out 1
                have hfz38_2 := blk_frozen BK337.out 2
                have hfz38_3 := blk_frozen BK337.out 3
                go_wp2
                repeat (go_quiet (fail); try go_wp2)
                go_meet
                case rel => exact ⟨_, (decide ((t342.length : Int) > (wrap64 (Int.tdiv (wrap64 ((wrap64 ((t338.length : Int) + t332)) - 1)) t332)))), (by first | rfl | (simp; done) | (simp [*]; done)), H', ⟨by have := HJ5.out; first | omega | exact Nat.le_refl _⟩, ⟨by (with_reducible repeat (first | apply Kd.R_alloc | apply Kd.R_drewN | apply Kd.R_drew)); exact HO_6.out⟩, ⟨by (with_reducible repeat (first | apply Kd.R_alloc | apply Kd.R_drewN | apply Kd.R_drew)); exact HO_9.out⟩, ⟨by (with_reducible repeat (first | refine blk_drewN ?_ _ | refine blk_drew ?_ | refine blk_alloc ?_ _)); exact BK337.out⟩, ⟨by (with_reducible repeat (first | refine blk_drewN ?_ _ | refine blk_drew ?_ | refine blk_alloc ?_ _)); exact BK346.out⟩, ⟨by repeat (first | (with_reducible first | exact HB.out | apply below_alloc | apply pw_below_drewN | apply below_drew1 | refine below_set ?_ GE337.out | refine below_set ?_ GE346.out) | exact HB.out)⟩⟩
        case rest =>
          clear HC29
          try clear c1
          try clear c2
          try clear p2
          try clear c3
          try clear p6
          try clear c7
          try clear c10
          try clear c18
          try clear c19
          try clear c23
          try clear c24
          try clear c28
          try clear c30
          try clear c30b0
          try clear c30b1
          try clear c31
          try clear c31b0
          try clear c33
          try clear c35
          try clear c35b0
          try clear c35b1
          try clear c37
          try clear hcz11_0
          try clear hcz11_1
          try clear hcz11_2
          try clear hcz11_3
          try clear hcz13_0
          try clear hcz13_1
          try clear hcz13_2
          try clear hcz13_3
          try clear hcz16_0
          try clear hcz16_1
          try clear hcz16_2
          try clear hcz16_3
          try clear hcz20_0
          try clear hcz20_1
          try clear hcz20_2
          try clear hcz20_3
          try clear hcz34_0
          try clear hcz34_1
          try clear hcz34_2
          try clear hcz34_3
          try clear hcz38_0
          try clear hcz38_1
          try clear hcz38_2
          try clear hcz38_3
          try clear hfz11_0
          try clear hfz11_1
          try clear hfz11_2
          try clear hfz11_3
          try clear hfz13_0
          try clear hfz13_1
          try clear hfz13_2
          try clear hfz13_3
          try clear hfz16_0
          try clear hfz16_1
          try clear hfz16_2
          try clear hfz16_3
          try clear hfz20_0
          try clear hfz20_1
          try clear hfz20_2
          try clear hfz20_3
          try clear hfz34_0
          try clear hfz34_1
          try clear hfz34_2
          try clear hfz34_3
          try clear hfz38_0
          try clear hfz38_1
          try clear hfz38_2
          try clear hfz38_3
          try clear p2
          obtain ⟨kq, x76_28, rfl, HA, HJ28, HO_6, HO_9, BK337, BK346, HB⟩ := hcut
          cases kq with
          | zero => exact absurd HA.out (by simp [stockyardlaw24_ChunkerFew.j1])
          | succ kj28 =>
            have H := HA.out
            clear HA
            simp only [stockyardlaw24_ChunkerFew.j1] at H
            by_cases c39 : x76_28 = true
            · subst c39
              have H1 : (some false) = some r := by rw [if_pos rfl] at H; exact H
              clear H
              have H := H1
              clear H1
              exact absurd ((Option.some.inj H).trans HRT.out) (by decide)
            · replace c39 := Bool.eq_false_iff.mpr c39
              subst c39
              have H1 : (stockyardlaw24_ChunkerFew.l0 kj28 t342 t347 0) = some r := by rw [if_neg (show ¬ (false = true) by decide)] at H; exact H
              clear H
              have H := H1
              clear H1
              have H' := Aside0.mk H
              clear H
              go_wp2
              repeat (go_quiet (fail); try go_wp2)
              go_loopg [12] kj28 (fun kq v12 w' => ∃ (x12_3 : Int), v12 = .int .i64 x12_3 ∧ Aside0 (stockyardlaw24_ChunkerFew.l0 kq t342 t347 x12_3 = some r) ∧ Aside0 (kq ≤ kj28) ∧ Aside0 (Kd.R (Kd.int .i64) 3 w' w.heap.size (fun k_ => some k_ ≠ (v348 : Value).ownBlock) v343 t342) ∧ Aside0 (Kd.R (Kd.int .i64) 3 w' w.heap.size (fun k_ => some k_ ≠ (v343 : Value).ownBlock) v348 t347) ∧ Aside0 (w'.heap[gb337]? = some (.cells #[.int .i64 t332, .int .i64 t333, .int .i64 t334, .int .u64 t335] 28 (0, 0))) ∧ Aside0 (w'.heap[gb346]? = some (.cells #[.int .i64 t332, .int .i64 t333, .int .i64 t334, .int .u64 (Go.bits .or .u64 t335 (Go.bits .or .u64 (IntKind.u64.wrap (t335 * 2)) 1))] 28 (0, 0))) ∧ Aside0 (Below w.heap.size w w'))
              case atStart => exact ⟨(0), (by first | rfl | (simp; done) | (simp [*]; done)), H', ⟨Nat.le_refl _⟩, ⟨by (with_reducible repeat (first | apply Kd.R_alloc | apply Kd.R_drewN | apply Kd.R_drew)); exact HO_6.out⟩, ⟨by (with_reducible repeat (first | apply Kd.R_alloc | apply Kd.R_drewN | apply Kd.R_drew)); exact HO_9.out⟩, ⟨by (with_reducible repeat (first | refine blk_drewN ?_ _ | refine blk_drew ?_ | refine blk_alloc ?_ _)); exact BK337.out⟩, ⟨by (with_reducible repeat (first | refine blk_drewN ?_ _ | refine blk_drew ?_ | refine blk_alloc ?_ _)); exact BK346.out⟩, ⟨by repeat (first | (with_reducible first | exact HB.out | apply below_alloc | apply pw_below_drewN | apply below_drew1 | refine below_set ?_ GE337.out | refine below_set ?_ GE346.out) | exact HB.out)⟩⟩
              case round =>
                clear H'
                try clear c1
                try clear c2
                try clear p2
                try clear c3
                try clear p6
                try clear c7
                try clear c10
                try clear c18
                try clear c19
                try clear c23
                try clear c24
                try clear c28
                try clear c30
                try clear c30b0
                try clear c30b1
                try clear c31
                try clear c31b0
                try clear c33
                try clear c35
                try clear c35b0
                try clear c35b1
                try clear c37
                try clear c39
                try clear hcz11_0
                try clear hcz11_1
                try clear hcz11_2
                try clear hcz11_3
                try clear hcz13_0
                try clear hcz13_1
                try clear hcz13_2
                try clear hcz13_3
                try clear hcz16_0
                try clear hcz16_1
                try clear hcz16_2
                try clear hcz16_3
                try clear hcz20_0
                try clear hcz20_1
                try clear hcz20_2
                try clear hcz20_3
                try clear hcz34_0
                try clear hcz34_1
                try clear hcz34_2
                try clear hcz34_3
                try clear hcz38_0
                try clear hcz38_1
                try clear hcz38_2
                try clear hcz38_3
                try clear hfz11_0
                try clear hfz11_1
                try clear hfz11_2
                try clear hfz11_3
                try clear hfz13_0
                try clear hfz13_1
                try clear hfz13_2
                try clear hfz13_3
                try clear hfz16_0
                try clear hfz16_1
                try clear hfz16_2
                try clear hfz16_3
                try clear hfz20_0
                try clear hfz20_1
                try clear hfz20_2
                try clear hfz20_3
                try clear hfz34_0
                try clear hfz34_1
                try clear hfz34_2
                try clear hfz34_3
                try clear hfz38_0
                try clear hfz38_1
                try clear hfz38_2
                try clear hfz38_3
                try clear p2
                try clear p6
                obtain ⟨x12_3, rfl, HA, HK3, HO_6, HO_9, BK337, BK346, HB⟩ := hrel
                cases gk with
                | zero => exact absurd HA.out (by simp [stockyardlaw24_ChunkerFew.l0])
                | succ k3 =>
                  have H := HA.out
                  clear HA
                  simp only [stockyardlaw24_ChunkerFew.l0] at H
                  have HC40 := Aside0.mk H
                  clear H
                  go_upto_region 14 with (fail)
                  repeat (go_quiet (fail); go_upto_region 14 with (fail))
                  go_cut [86] (fun v86 wc => ∃ (kq : Nat) (x86_39 : Bool), v86 = .bool x86_39 ∧ Aside0 (stockyardlaw24_ChunkerFew.j3 kq t342 t347 x12_3 x86_39 = some r) ∧ Aside0 (kq ≤ k3) ∧ Aside0 (Kd.R (Kd.int .i64) 3 wc w.heap.size (fun k_ => some k_ ≠ (v348 : Value).ownBlock) v343 t342) ∧ Aside0 (Kd.R (Kd.int .i64) 3 wc w.heap.size (fun k_ => some k_ ≠ (v343 : Value).ownBlock) v348 t347) ∧ Aside0 (wc.heap[gb337]? = some (.cells #[.int .i64 t332, .int .i64 t333, .int .i64 t334, .int .u64 t335] 28 (0, 0))) ∧ Aside0 (wc.heap[gb346]? = some (.cells #[.int .i64 t332, .int .i64 t333, .int .i64 t334, .int .u64 (Go.bits .or .u64 t335 (Go.bits .or .u64 (IntKind.u64.wrap (t335 * 2)) 1))] 28 (0, 0))) ∧ Aside0 (Below w.heap.size w wc))
                  case first =>
                    have H := HC40.out
                    clear HC40
                    by_cases c41 : x12_3 < (t342.length : Int)
                    · rw [if_pos c41] at H
                      have c41b0 : decide (x12_3 < (t342.length : Int)) = true := decide_eq_true c41
                      clear c41
                      (first | rw [c41b0] | (simp only [i64_w, i32_w]; rw [c41b0]) | skip)
                      have H' := Aside0.mk H
                      clear H
                      obtain ⟨Ao42, co42, eo42⟩ := Kd.R_slice HO_6.out
                      subst eo42
                      obtain ⟨Ao43, co43, eo43⟩ := Kd.R_slice HO_9.out
                      subst eo43
                      go_wp2
                      repeat (go_quiet (fail); try go_wp2)
                      go_meet
                      case rel => exact ⟨_, (decide (x12_3 < (t347.length : Int))), (by first | rfl | (simp; done) | (simp [*]; done)), H', ⟨by have := HJ5.out; have := HJ28.out; have := HK3.out; first | omega | exact Nat.le_refl _⟩, ⟨by (with_reducible repeat (first | apply Kd.R_alloc | apply Kd.R_drewN | apply Kd.R_drew)); exact HO_6.out⟩, ⟨by (with_reducible repeat (first | apply Kd.R_alloc | apply Kd.R_drewN | apply Kd.R_drew)); exact HO_9.out⟩, ⟨by (with_reducible repeat (first | refine blk_drewN ?_ _ | refine blk_drew ?_ | refine blk_alloc ?_ _)); exact BK337.out⟩, ⟨by (with_reducible repeat (first | refine blk_drewN ?_ _ | refine blk_drew ?_ | refine blk_alloc ?_ _)); exact BK346.out⟩, ⟨by repeat (first | (with_reducible first | exact HB.out | apply below_alloc | apply pw_below_drewN | apply below_drew1 | refine below_set ?_ GE337.out | refine below_set ?_ GE346.out) | exact HB.out)⟩⟩
                    · rw [if_neg c41] at H
                      have c41b0 : decide (x12_3 < (t342.length : Int)) = false := decide_eq_false c41
                      clear c41
                      (first | rw [c41b0] | (simp only [i64_w, i32_w]; rw [c41b0]) | skip)
                      have H' := Aside0.mk H
                      clear H
                      obtain ⟨Ao44, co44, eo44⟩ := Kd.R_slice HO_6.out
                      subst eo44
                      go_wp2
                      repeat (go_quiet (fail); try go_wp2)
                      go_meet
                      case rel => exact ⟨_, (false), (by first | rfl | (simp; done) | (simp [*]; done)), H', ⟨by have := HJ5.out; have := HJ28.out; have := HK3.out; first | omega | exact Nat.le_refl _⟩, ⟨by (with_reducible repeat (first | apply Kd.R_alloc | apply Kd.R_drewN | apply Kd.R_drew)); exact HO_6.out⟩, ⟨by (with_reducible repeat (first | apply Kd.R_alloc | apply Kd.R_drewN | apply Kd.R_drew)); exact HO_9.out⟩, ⟨by (with_reducible repeat (first | refine blk_drewN ?_ _ | refine blk_drew ?_ | refine blk_alloc ?_ _)); exact BK337.out⟩, ⟨by (with_reducible repeat (first | refine blk_drewN ?_ _ | refine blk_drew ?_ | refine blk_alloc ?_ _)); exact BK346.out⟩, ⟨by repeat (first | (with_reducible first | exact HB.out | apply below_alloc | apply pw_below_drewN | apply below_drew1 | refine below_set ?_ GE337.out | refine below_set ?_ GE346.out) | exact HB.out)⟩⟩
                  case rest =>
                    clear HC40
                    try clear c1
                    try clear c2
                    try clear p2
                    try clear c3
                    try clear c4
                    try clear p6
                    try clear c7
                    try clear c10
                    try clear c18
                    try clear c19
                    try clear c23
                    try clear c24
                    try clear c28
                    try clear c30
                    try clear c30b0
                    try clear c30b1
                    try clear c31
                    try clear c31b0
                    try clear c33
                    try clear c35
                    try clear c35b0
                    try clear c35b1
                    try clear c37
                    try clear c39
                    try clear c41
                    try clear c41b0
                    try clear hcz11_0
                    try clear hcz11_1
                    try clear hcz11_2
                    try clear hcz11_3
                    try clear hcz13_0
                    try clear hcz13_1
                    try clear hcz13_2
                    try clear hcz13_3
                    try clear hcz16_0
                    try clear hcz16_1
                    try clear hcz16_2
                    try clear hcz16_3
                    try clear hcz20_0
                    try clear hcz20_1
                    try clear hcz20_2
                    try clear hcz20_3
                    try clear hcz34_0
                    try clear hcz34_1
                    try clear hcz34_2
                    try clear hcz34_3
                    try clear hcz38_0
                    try clear hcz38_1
                    try clear hcz38_2
                    try clear hcz38_3
                    try clear hfz11_0
                    try clear hfz11_1
                    try clear hfz11_2
                    try clear hfz11_3
                    try clear hfz13_0
                    try clear hfz13_1
                    try clear hfz13_2
                    try clear hfz13_3
                    try clear hfz16_0
                    try clear hfz16_1
                    try clear hfz16_2
                    try clear hfz16_3
                    try clear hfz20_0
                    try clear hfz20_1
                    try clear hfz20_2
                    try clear hfz20_3
                    try clear hfz34_0
                    try clear hfz34_1
                    try clear hfz34_2
                    try clear hfz34_3
                    try clear hfz38_0
                    try clear hfz38_1
                    try clear hfz38_2
                    try clear hfz38_3
                    try clear p2
                    try clear p6
                    obtain ⟨kq, x86_39, rfl, HA, HJ39, HO_6, HO_9, BK337, BK346, HB⟩ := hcut
                    cases kq with
                    | zero => exact absurd HA.out (by simp [stockyardlaw24_ChunkerFew.j3])
                    | succ kj39 =>
                      have H := HA.out
                      clear HA
                      simp only [stockyardlaw24_ChunkerFew.j3] at H
                      by_cases c45 : x86_39 = true
                      · subst c45
                        have H1 : (if 0 ≤ x12_3 then (if x12_3 < (t342.length : Int) then (if x12_3 < (t347.length : Int) then (if (rd t342 x12_3) = (rd t347 x12_3) then (stockyardlaw24_ChunkerFew.l0 kj39 t342 t347 (wrap64 (x12_3 + 1))) else (some (decide ((rd t347 x12_3) > (rd t342 x12_3))))) else (none)) else (none)) else (none)) = some r := by rw [if_pos rfl] at H; exact H
                        clear H
                        have H := H1
                        clear H1
                        by_cases c46 : 0 ≤ x12_3
                        · rw [if_pos c46] at H
                          have c46b0 : decide (0 ≤ x12_3) = true := decide_eq_true c46
                          clear c46
                          by_cases c47 : x12_3 < (t342.length : Int)
                          · rw [if_pos c47] at H
                            have c47b0 : decide (x12_3 < (t342.length : Int)) = true := decide_eq_true c47
                            clear c47
                            by_cases c48 : x12_3 < (t347.length : Int)
                            · rw [if_pos c48] at H
                              have c48b0 : decide (x12_3 < (t347.length : Int)) = true := decide_eq_true c48
                              clear c48
                              by_cases c49 : (rd t342 x12_3) = (rd t347 x12_3)
                              · rw [if_pos c49] at H
                                have c49b0 : ((rd t342 x12_3) == (rd t347 x12_3)) = true := beq_iff_eq.mpr c49
                                have c49b1 : ((rd t342 x12_3) != (rd t347 x12_3)) = false := bne_eq_false_iff_eq.mpr c49
                                clear c49
                                have H' := Aside0.mk H
                                clear H
                                obtain ⟨Ao50, co50, eo50⟩ := Kd.R_slice HO_6.out
                                subst eo50
                                have p352 : 0 ≤ (x12_3 : Int) := of_decide_eq_true (by first | (with_reducible assumption) | assumption)
                                have q352 : x12_3 < (t342.length : Int) := of_decide_eq_true (by first | (with_reducible assumption) | assumption)
                                obtain ⟨ad352, e352, hx352_0⟩ := Kd.at_int (Kd.R_reads' HO_6.out).2.2 x12_3 p352 q352
                                cases e352
                                replace p352 := eq_true p352
                                replace q352 := eq_true q352
                                obtain ⟨Ao51, co51, eo51⟩ := Kd.R_slice HO_9.out
                                subst eo51
                                have p353 : 0 ≤ (x12_3 : Int) := of_decide_eq_true (by first | (with_reducible assumption) | assumption)
                                have q353 : x12_3 < (t347.length : Int) := of_decide_eq_true (by first | (with_reducible assumption) | assumption)
                                obtain ⟨ad353, e353, hx353_0⟩ := Kd.at_int (Kd.R_reads' HO_9.out).2.2 x12_3 p353 q353
                                cases e353
                                replace p353 := eq_true p353
                                replace q353 := eq_true q353
                                go_wp2
                                repeat (go_quiet (fail); try go_wp2)
                                go_roundg kj39
                                case measure => have := HJ5.out; have := HJ28.out; have := HK3.out; have := HJ39.out; omega
                                case rel => exact ⟨(wrap64 (x12_3 + 1)), (by first | rfl | (simp; done) | (simp [*]; done)), H', ⟨by have := HJ5.out; have := HJ28.out; have := HK3.out; have := HJ39.out; omega⟩, ⟨by (with_reducible repeat (first | apply Kd.R_alloc | apply Kd.R_drewN | apply Kd.R_drew)); exact HO_6.out⟩, ⟨by (with_reducible repeat (first | apply Kd.R_alloc | apply Kd.R_drewN | apply Kd.R_drew)); exact HO_9.out⟩, ⟨by (with_reducible repeat (first | refine blk_drewN ?_ _ | refine blk_drew ?_ | refine blk_alloc ?_ _)); exact BK337.out⟩, ⟨by (with_reducible repeat (first | refine blk_drewN ?_ _ | refine blk_drew ?_ | refine blk_alloc ?_ _)); exact BK346.out⟩, ⟨by repeat (first | (with_reducible first | exact HB.out | apply below_alloc | apply pw_below_drewN | apply below_drew1 | refine below_set ?_ GE337.out | refine below_set ?_ GE346.out) | exact HB.out)⟩⟩
                              · rw [if_neg c49] at H
                                have c49b0 : ((rd t342 x12_3) == (rd t347 x12_3)) = false := beq_eq_false_iff_ne.mpr c49
                                have c49b1 : ((rd t342 x12_3) != (rd t347 x12_3)) = true := bne_iff_ne.mpr c49
                                obtain rfl := Option.some.inj H
                                obtain ⟨Ao52, co52, eo52⟩ := Kd.R_slice HO_6.out
                                subst eo52
                                have p352 : 0 ≤ (x12_3 : Int) := of_decide_eq_true (by first | (with_reducible assumption) | assumption)
                                have q352 : x12_3 < (t342.length : Int) := of_decide_eq_true (by first | (with_reducible assumption) | assumption)
                                obtain ⟨ad352, e352, hx352_0⟩ := Kd.at_int (Kd.R_reads' HO_6.out).2.2 x12_3 p352 q352
                                cases e352
                                replace p352 := eq_true p352
                                replace q352 := eq_true q352
                                obtain ⟨Ao53, co53, eo53⟩ := Kd.R_slice HO_9.out
                                subst eo53
                                have p353 : 0 ≤ (x12_3 : Int) := of_decide_eq_true (by first | (with_reducible assumption) | assumption)
                                have q353 : x12_3 < (t347.length : Int) := of_decide_eq_true (by first | (with_reducible assumption) | assumption)
                                obtain ⟨ad353, e353, hx353_0⟩ := Kd.at_int (Kd.R_reads' HO_9.out).2.2 x12_3 p353 q353
                                cases e353
                                replace p353 := eq_true p353
                                replace q353 := eq_true q353
                                have p354 : 0 ≤ (x12_3 : Int) := of_decide_eq_true (by first | (with_reducible assumption) | assumption)
                                have q354 : x12_3 < (t347.length : Int) := of_decide_eq_true (by first | (with_reducible assumption) | assumption)
                                obtain ⟨ad354, e354, hx354_0⟩ := Kd.at_int (Kd.R_reads' HO_9.out).2.2 x12_3 p354 q354
                                obtain rfl : ad353 = ad354 := (by injection e354)
                                replace p354 := eq_true p354
                                replace q354 := eq_true q354
                                have p355 : 0 ≤ (x12_3 : Int) := of_decide_eq_true (by first | (with_reducible assumption) | assumption)
                                have q355 : x12_3 < (t342.length : Int) := of_decide_eq_true (by first | (with_reducible assumption) | assumption)
                                obtain ⟨ad355, e355, hx355_0⟩ := Kd.at_int (Kd.R_reads' HO_6.out).2.2 x12_3 p355 q355
                                obtain rfl : ad352 = ad355 := (by injection e355)
                                replace p355 := eq_true p355
                                replace q355 := eq_true q355
                                go_wp2
                                repeat (go_quiet (fail); try go_wp2)
                                go_ret
                                exact ⟨by first | rfl | (simp [errW_none, errW_some] <;> rfl) | (simp [*, errW_none, errW_some] <;> rfl), by repeat (first | (with_reducible first | exact HB.out | apply below_alloc | apply pw_below_drewN | apply below_drew1 | refine below_set ?_ GE337.out | refine below_set ?_ GE346.out) | exact HB.out)⟩
                            · rw [if_neg c48] at H
                              exact absurd H (by simp)
                          · rw [if_neg c47] at H
                            exact absurd H (by simp)
                        · rw [if_neg c46] at H
                          exact absurd H (by simp)
                      · replace c45 := Bool.eq_false_iff.mpr c45
                        subst c45
                        have H1 : (some true) = some r := by rw [if_neg (show ¬ (false = true) by decide)] at H; exact H
                        clear H
                        have H := H1
                        clear H1
                        obtain rfl := Option.some.inj H
                        go_wp2
                        repeat (go_quiet (fail); try go_wp2)
                        go_ret
                        exact ⟨by first | rfl | (simp [errW_none, errW_some] <;> rfl) | (simp [*, errW_none, errW_some] <;> rfl), by repeat (first | (with_reducible first | exact HB.out | apply below_alloc | apply pw_below_drewN | apply below_drew1 | refine below_set ?_ GE337.out | refine below_set ?_ GE346.out) | exact HB.out)⟩

/-- THE ONE PURE STATEMENT of stockyardlaw24_ChunkerFew: yours. -/
def stockyardlaw24_ChunkerFew.Pure : Prop := ∀ (l0 : List Int), l0.length ≤ maxLen → l0.length * 8 ≤ 140737488351232 → (∀ x ∈ l0, (Lit.int .i64 x).wf = true) → ∃ k, stockyardlaw24_ChunkerFew.f k l0 = some true
theorem stockyardlaw24_ChunkerFew.walk (P : stockyardlaw24_ChunkerFew.Pure) (a0 : Option Addr) (len0 cap0 : Nat) (z0 : List Int) (w : World) (w0 : (a0 = none ∧ len0 = 0 ∧ cap0 = 0 ∧ z0 = []) ∨ ∃ x, a0 = some x ∧ len0 ≤ cap0 ∧ cap0 ≤ maxLen ∧ z0.length = cap0 ∧ (∀ i, i < z0.length → w.cell? (x.add i) = some (.int .i64 (z0.getD i 0))) ∧ ∀ n ∈ z0, (Lit.int .i64 n).wf = true) (y0 : len0 * 8 ≤ 140737488351232) :
    Calls Try.prog 7 #[.slice a0 len0 cap0] w fun e w' => e = .returned (.bool true) ∧ Below w.heap.size w w' := by
  obtain ⟨l0, rfl, hr0, hm0, hw0, hc0⟩ := ReadsInt.ofRowC w0
  obtain ⟨k, h⟩ := P l0 hm0 y0 hw0
  refine (stockyardlaw24_ChunkerFew.calls k _ _ l0 true w (Kd.C_of_reads (d := (0 : Int)) (h1 := fun _ => rfl) hr0) hc0 h rfl).mono ?_
  rintro e w' ⟨rfl, hd⟩
  exact ⟨rfl, hd⟩

end Go.Proofs.Ytgfodmpdnhebjaa.P
