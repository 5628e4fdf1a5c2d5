-- Printed by a program (pr.py over the kit's print) out of the translation.
import Derived.Test.YtgfodmpdnhebjaaPx0
import Derived.Test.YtgfodmpdnhebjaaPxf16
import Derived.Test.YtgfodmpdnhebjaaPxf18
import Derived.Test.YtgfodmpdnhebjaaPxf19
import Derived.Test.YtgfodmpdnhebjaaPxf35
namespace Go.Proofs.Ytgfodmpdnhebjaa.P
open Go.RowKit Go.Proofs.YtgfodmpdnhebjaaW.PrintWords Go.Proofs.YtgfodmpdnhebjaaW.PrintLast Go.Proofs.YtgfodmpdnhebjaaW.PrintMore
attribute [local go_sem] max2_int min2_int max_two min_two max_three min_three max_four min_four   -- for this text's walks alone
set_option linter.unusedVariables false
set_option linter.unusedSimpArgs false

/-! ### stockyardlaw24_ChunkerEdit: function 6 -/
mutual
def stockyardlaw24_ChunkerEdit.j0 : Nat → List Int → List Int → List Int → Bool → Option (Bool)
  | 0, _, _, _, _ => none
  | k + 1, x5, x9, x11, x56 => if x56 = true then (some false) else (stockyardlaw24_ChunkerEdit.l0 k x5 x9 x11 0)
def stockyardlaw24_ChunkerEdit.l0 : Nat → List Int → List Int → List Int → Int → Option (Bool)
  | 0, _, _, _, _ => none
  | k + 1, x5, x9, x11, x13 => if x13 < (x9.length : Int) then (if 0 ≤ x13 then (stockyardlaw24_ChunkerEdit.j2 k x5 x9 x11 x13 (decide ((rd x9 x13) < (x5.length : Int)))) else (none)) else (stockyardlaw24_ChunkerEdit.j2 k x5 x9 x11 x13 false)
def stockyardlaw24_ChunkerEdit.j2 : Nat → List Int → List Int → List Int → Int → Bool → Option (Bool)
  | 0, _, _, _, _, _ => none
  | k + 1, x5, x9, x11, x13, x69 => if x69 = true then (if x13 ≥ (x11.length : Int) then (some false) else (if 0 ≤ x13 then (if x13 < (x11.length : Int) then (if x13 < (x9.length : Int) then (if (rd x11 x13) = (rd x9 x13) then (stockyardlaw24_ChunkerEdit.l0 k x5 x9 x11 (wrap64 (x13 + 1))) else (some false)) else (none)) else (none)) else (none))) else (some true)
end
def stockyardlaw24_ChunkerEdit.f (k : Nat) (l0 : List Int) : Option (Bool) := (stockyardlaw24_made.f l0 0).bind fun bt285 => ((stockyardlaw24_text.f k l0 bt285.2.2.2.2 90).bind fun bt291 => ((stockyardlaw24_text.f k l0 bt291.2 9).bind fun bt295 => ((stockyardlaw24_text.f k l0 bt295.2 9).bind fun bt299 => ((stockyardlaw24_text.f k l0 bt299.2 40).bind fun bt303 => ((stockyardmake_Joined.f k (([bt291.1, bt295.1, bt303.1] : List (List Int)))).bind fun t310 => ((stockyardlaw24_ends.f bt285.1 bt285.2.1 bt285.2.2.1 bt285.2.2.2.1 t310).bind fun bt313 => ((stockyardmake_Joined.f k (([bt291.1, bt299.1, bt303.1] : List (List Int)))).bind fun t320 => ((stockyardlaw24_ends.f bt285.1 bt285.2.1 bt285.2.2.1 bt285.2.2.2.1 t320).bind fun bt323 => ((stockyardlaw24_known.f k).bind fun t327 => (if t327 = true then (if bt313.2 = true then (stockyardlaw24_ChunkerEdit.j0 k bt291.1 bt313.1 bt323.1 (!bt323.2)) else (stockyardlaw24_ChunkerEdit.j0 k bt291.1 bt313.1 bt323.1 true)) else (stockyardlaw24_ChunkerEdit.j0 k bt291.1 bt313.1 bt323.1 true)))))))))))
theorem stockyardlaw24_ChunkerEdit.mono_l : ∀ k, (∀ y0 y1 y2 y3, LeO (stockyardlaw24_ChunkerEdit.j0 k y0 y1 y2 y3) (stockyardlaw24_ChunkerEdit.j0 (k + 1) y0 y1 y2 y3)) ∧ (∀ y0 y1 y2 y3, LeO (stockyardlaw24_ChunkerEdit.l0 k y0 y1 y2 y3) (stockyardlaw24_ChunkerEdit.l0 (k + 1) y0 y1 y2 y3)) ∧ (∀ y0 y1 y2 y3 y4, LeO (stockyardlaw24_ChunkerEdit.j2 k y0 y1 y2 y3 y4) (stockyardlaw24_ChunkerEdit.j2 (k + 1) y0 y1 y2 y3 y4))
  | 0 => ⟨fun _ _ _ _ r h => by simp [stockyardlaw24_ChunkerEdit.j0] at h, fun _ _ _ _ r h => by simp [stockyardlaw24_ChunkerEdit.l0] at h, fun _ _ _ _ _ r h => by simp [stockyardlaw24_ChunkerEdit.j2] at h⟩
  | k + 1 => by
    obtain ⟨ih0, ih1, ih2⟩ := stockyardlaw24_ChunkerEdit.mono_l k
    refine ⟨?_, ?_, ?_⟩
    · intro y0 y1 y2 y3
      unfold stockyardlaw24_ChunkerEdit.j0
      repeat' first
      | (with_reducible exact ih0 _ _ _ _)
      | (with_reducible exact ih1 _ _ _ _)
      | (with_reducible exact ih2 _ _ _ _ _)
      | (with_reducible exact stockyardlaw24_known.mono _)
      | (with_reducible exact stockyardlaw24_text.mono _ _ _ _)
      | (with_reducible exact stockyardmake_Joined.mono _ _)
      | (with_reducible exact LeO.refl _)
      | (with_reducible exact LeO.none _)
      | (with_reducible refine LeO.ite ?_ ?_)
      | (with_reducible refine LeO.bind ?_ (fun _ => ?_))
      | exact ih0 _ _ _ _
      | exact ih1 _ _ _ _
      | exact ih2 _ _ _ _ _
      | exact stockyardlaw24_known.mono _
      | exact stockyardlaw24_text.mono _ _ _ _
      | exact stockyardmake_Joined.mono _ _
      | exact LeO.none _
      | refine LeO.ite ?_ ?_
      | refine LeO.bind ?_ (fun _ => ?_)
    · intro y0 y1 y2 y3
      unfold stockyardlaw24_ChunkerEdit.l0
      repeat' first
      | (with_reducible exact ih0 _ _ _ _)
      | (with_reducible exact ih1 _ _ _ _)
      | (with_reducible exact ih2 _ _ _ _ _)
      | (with_reducible exact stockyardlaw24_known.mono _)
      | (with_reducible exact stockyardlaw24_text.mono _ _ _ _)
      | (with_reducible exact stockyardmake_Joined.mono _ _)
      | (with_reducible exact LeO.refl _)
      | (with_reducible exact LeO.none _)
      | (with_reducible refine LeO.ite ?_ ?_)
      | (with_reducible refine LeO.bind ?_ (fun _ => ?_))
      | exact ih0 _ _ _ _
      | exact ih1 _ _ _ _
      | exact ih2 _ _ _ _ _
      | exact stockyardlaw24_known.mono _
      | exact stockyardlaw24_text.mono _ _ _ _
      | exact stockyardmake_Joined.mono _ _
      | exact LeO.none _
      | refine LeO.ite ?_ ?_
      | refine LeO.bind ?_ (fun _ => ?_)
    · intro y0 y1 y2 y3 y4
      unfold stockyardlaw24_ChunkerEdit.j2
      repeat' first
      | (with_reducible exact ih0 _ _ _ _)
      | (with_reducible exact ih1 _ _ _ _)
      | (with_reducible exact ih2 _ _ _ _ _)
      | (with_reducible exact stockyardlaw24_known.mono _)
      | (with_reducible exact stockyardlaw24_text.mono _ _ _ _)
      | (with_reducible exact stockyardmake_Joined.mono _ _)
      | (with_reducible exact LeO.refl _)
      | (with_reducible exact LeO.none _)
      | (with_reducible refine LeO.ite ?_ ?_)
      | (with_reducible refine LeO.bind ?_ (fun _ => ?_))
      | exact ih0 _ _ _ _
      | exact ih1 _ _ _ _
      | exact ih2 _ _ _ _ _
      | exact stockyardlaw24_known.mono _
      | exact stockyardlaw24_text.mono _ _ _ _
      | exact stockyardmake_Joined.mono _ _
      | exact LeO.none _
      | refine LeO.ite ?_ ?_
      | refine LeO.bind ?_ (fun _ => ?_)
theorem stockyardlaw24_ChunkerEdit.mono : ∀ a0 k, LeO (stockyardlaw24_ChunkerEdit.f k a0) (stockyardlaw24_ChunkerEdit.f (k + 1) a0) := by
  intro a0 k
  obtain ⟨ih0, ih1, ih2⟩ := stockyardlaw24_ChunkerEdit.mono_l k
  unfold stockyardlaw24_ChunkerEdit.f
  repeat' first
      | (with_reducible exact ih0 _ _ _ _)
      | (with_reducible exact ih1 _ _ _ _)
      | (with_reducible exact ih2 _ _ _ _ _)
      | (with_reducible exact stockyardlaw24_known.mono _)
      | (with_reducible exact stockyardlaw24_text.mono _ _ _ _)
      | (with_reducible exact stockyardmake_Joined.mono _ _)
      | (with_reducible exact LeO.refl _)
      | (with_reducible exact LeO.none _)
      | (with_reducible refine LeO.ite ?_ ?_)
      | (with_reducible refine LeO.bind ?_ (fun _ => ?_))
      | exact ih0 _ _ _ _
      | exact ih1 _ _ _ _
      | exact ih2 _ _ _ _ _
      | exact stockyardlaw24_known.mono _
      | exact stockyardlaw24_text.mono _ _ _ _
      | exact stockyardmake_Joined.mono _ _
      | exact LeO.none _
      | refine LeO.ite ?_ ?_
      | refine LeO.bind ?_ (fun _ => ?_)
def stockyardlaw24_ChunkerEdit.T4 : Bool × List (List Nat × List Nat) := (true, [([], []), ([], []), ([], []), ([], []), ([1, 2, 3], [1, 2, 3]), ([4], [4]), ([0, 5, 5], [0, 5]), ([6], [6]), ([7], [7]), ([7], [7]), ([8, 6, 0, 1, 2, 3, 4, 5, 6, 7, 8], [8]), ([9, 10, 0, 1, 2, 3, 4, 5, 6, 7, 8, 9, 10], [9])])
def stockyardlaw24_ChunkerEdit.B4 : List Nat := [0, 0, 0, 0, 14, 30, 63, 127, 255, 255, 511, 2047]
theorem stockyardlaw24_ChunkerEdit.tab4 : rtab .any (opsOf Try.f6 4) = stockyardlaw24_ChunkerEdit.T4 := by kernel_rfl
theorem stockyardlaw24_ChunkerEdit.bits4 : waitsOk stockyardlaw24_ChunkerEdit.T4.2 stockyardlaw24_ChunkerEdit.B4 = true := by kernel_rfl
def stockyardlaw24_ChunkerEdit.T5 : Bool × List (List Nat × List Nat) := (true, [([], []), ([], []), ([], []), ([], []), ([1, 2, 3], [1, 2, 3]), ([4], [4]), ([0, 5, 5], [0, 5]), ([6], [6]), ([7], [7]), ([7], [7]), ([8, 6, 0, 1, 2, 3, 4, 5, 6, 7, 8], [8]), ([9, 10, 0, 1, 2, 3, 4, 5, 6, 7, 8, 9, 10], [9])])
def stockyardlaw24_ChunkerEdit.B5 : List Nat := [0, 0, 0, 0, 14, 30, 63, 127, 255, 255, 511, 2047]
theorem stockyardlaw24_ChunkerEdit.tab5 : rtab .any (opsOf Try.f6 5) = stockyardlaw24_ChunkerEdit.T5 := by kernel_rfl
theorem stockyardlaw24_ChunkerEdit.bits5 : waitsOk stockyardlaw24_ChunkerEdit.T5.2 stockyardlaw24_ChunkerEdit.B5 = true := by kernel_rfl
def stockyardlaw24_ChunkerEdit.T11 : Bool × List (List Nat × List Nat) := (true, [([], []), ([], []), ([1], [1]), ([0, 2], [0, 2]), ([3], [3]), ([4], [4]), ([4], [4]), ([5, 6, 4], [4, 5, 6]), ([7, 4], [4, 7]), ([4], [4]), ([4], [4]), ([9, 10, 4], [4, 9, 10]), ([11, 4], [4, 11]), ([8, 12, 4], [4, 8, 12]), ([4, 13], [4, 13])])
def stockyardlaw24_ChunkerEdit.B11 : List Nat := [0, 0, 2, 7, 15, 31, 31, 127, 255, 31, 31, 1567, 3615, 8191, 16383]
theorem stockyardlaw24_ChunkerEdit.tab11 : rtab .any (opsOf Try.f6 11) = stockyardlaw24_ChunkerEdit.T11 := by kernel_rfl
theorem stockyardlaw24_ChunkerEdit.bits11 : waitsOk stockyardlaw24_ChunkerEdit.T11.2 stockyardlaw24_ChunkerEdit.B11 = true := by kernel_rfl
set_option maxHeartbeats 8000000 in
set_option maxRecDepth 100000 in
theorem stockyardlaw24_ChunkerEdit.calls (k : Nat) (A0 : Option Addr) (c0 : Nat) (l0 : List Int) (r : Bool) (w : World) (hr0 : Kd.C (Kd.int .i64) w A0 l0.length l0) (hc0 : l0.length ≤ c0) (h : stockyardlaw24_ChunkerEdit.f k l0 = some r) (hrt : r = true) :
    Calls Try.prog 6 #[.slice A0 l0.length c0] w fun e w' => e = .returned (.bool r) ∧ Below w.heap.size w w' := by
  have HRT := Aside0.mk hrt
  clear hrt
  have hu25 := Try.underlying25
  have hu28 := Try.underlying28
  have HR0 := Aside0.mk hr0
  have HC0 := Aside0.mk hc0
  clear hr0 hc0
  have HB := Aside0.mk (Below.refl w.heap.size w)
  have H : ((stockyardlaw24_made.f l0 0).bind fun bt285 => ((stockyardlaw24_text.f k l0 bt285.2.2.2.2 90).bind fun bt291 => ((stockyardlaw24_text.f k l0 bt291.2 9).bind fun bt295 => ((stockyardlaw24_text.f k l0 bt295.2 9).bind fun bt299 => ((stockyardlaw24_text.f k l0 bt299.2 40).bind fun bt303 => ((stockyardmake_Joined.f k (([bt291.1, bt295.1, bt303.1] : List (List Int)))).bind fun t310 => ((stockyardlaw24_ends.f bt285.1 bt285.2.1 bt285.2.2.1 bt285.2.2.2.1 t310).bind fun bt313 => ((stockyardmake_Joined.f k (([bt291.1, bt299.1, bt303.1] : List (List Int)))).bind fun t320 => ((stockyardlaw24_ends.f bt285.1 bt285.2.1 bt285.2.2.1 bt285.2.2.2.1 t320).bind fun bt323 => ((stockyardlaw24_known.f k).bind fun t327 => (if t327 = true then (if bt313.2 = true then (stockyardlaw24_ChunkerEdit.j0 k bt291.1 bt313.1 bt323.1 (!bt323.2)) else (stockyardlaw24_ChunkerEdit.j0 k bt291.1 bt313.1 bt323.1 true)) else (stockyardlaw24_ChunkerEdit.j0 k bt291.1 bt313.1 bt323.1 true)))))))))))) = some r := h
  clear h
  replace H := Option.bind_eq_some_iff.mp H
  obtain ⟨⟨t285, t286, t287, t288, t289⟩, A20, H⟩ := H
  replace H : ((stockyardlaw24_text.f k l0 t289 90).bind fun bt291 => ((stockyardlaw24_text.f k l0 bt291.2 9).bind fun bt295 => ((stockyardlaw24_text.f k l0 bt295.2 9).bind fun bt299 => ((stockyardlaw24_text.f k l0 bt299.2 40).bind fun bt303 => ((stockyardmake_Joined.f k (([bt291.1, bt295.1, bt303.1] : List (List Int)))).bind fun t310 => ((stockyardlaw24_ends.f t285 t286 t287 t288 t310).bind fun bt313 => ((stockyardmake_Joined.f k (([bt291.1, bt299.1, bt303.1] : List (List Int)))).bind fun t320 => ((stockyardlaw24_ends.f t285 t286 t287 t288 t320).bind fun bt323 => ((stockyardlaw24_known.f k).bind fun t327 => (if t327 = true then (if bt313.2 = true then (stockyardlaw24_ChunkerEdit.j0 k bt291.1 bt313.1 bt323.1 (!bt323.2)) else (stockyardlaw24_ChunkerEdit.j0 k bt291.1 bt313.1 bt323.1 true)) else (stockyardlaw24_ChunkerEdit.j0 k bt291.1 bt313.1 bt323.1 true))))))))))) = some r := H
  have A2 := Aside0.mk A20
  clear A20
  replace H := Option.bind_eq_some_iff.mp H
  obtain ⟨⟨t291, t294⟩, A30, H⟩ := H
  replace H : ((stockyardlaw24_text.f k l0 t294 9).bind fun bt295 => ((stockyardlaw24_text.f k l0 bt295.2 9).bind fun bt299 => ((stockyardlaw24_text.f k l0 bt299.2 40).bind fun bt303 => ((stockyardmake_Joined.f k (([t291, bt295.1, bt303.1] : List (List Int)))).bind fun t310 => ((stockyardlaw24_ends.f t285 t286 t287 t288 t310).bind fun bt313 => ((stockyardmake_Joined.f k (([t291, bt299.1, bt303.1] : List (List Int)))).bind fun t320 => ((stockyardlaw24_ends.f t285 t286 t287 t288 t320).bind fun bt323 => ((stockyardlaw24_known.f k).bind fun t327 => (if t327 = true then (if bt313.2 = true then (stockyardlaw24_ChunkerEdit.j0 k t291 bt313.1 bt323.1 (!bt323.2)) else (stockyardlaw24_ChunkerEdit.j0 k t291 bt313.1 bt323.1 true)) else (stockyardlaw24_ChunkerEdit.j0 k t291 bt313.1 bt323.1 true)))))))))) = some r := H
  have A3 := Aside0.mk A30
  clear A30
  replace H := Option.bind_eq_some_iff.mp H
  obtain ⟨⟨t295, t298⟩, A40, H⟩ := H
  replace H : ((stockyardlaw24_text.f k l0 t298 9).bind fun bt299 => ((stockyardlaw24_text.f k l0 bt299.2 40).bind fun bt303 => ((stockyardmake_Joined.f k (([t291, t295, bt303.1] : List (List Int)))).bind fun t310 => ((stockyardlaw24_ends.f t285 t286 t287 t288 t310).bind fun bt313 => ((stockyardmake_Joined.f k (([t291, bt299.1, bt303.1] : List (List Int)))).bind fun t320 => ((stockyardlaw24_ends.f t285 t286 t287 t288 t320).bind fun bt323 => ((stockyardlaw24_known.f k).bind fun t327 => (if t327 = true then (if bt313.2 = true then (stockyardlaw24_ChunkerEdit.j0 k t291 bt313.1 bt323.1 (!bt323.2)) else (stockyardlaw24_ChunkerEdit.j0 k t291 bt313.1 bt323.1 true)) else (stockyardlaw24_ChunkerEdit.j0 k t291 bt313.1 bt323.1 true))))))))) = some r := H
  have A4 := Aside0.mk A40
  clear A40
  replace H := Option.bind_eq_some_iff.mp H
  obtain ⟨⟨t299, t302⟩, A50, H⟩ := H
  replace H : ((stockyardlaw24_text.f k l0 t302 40).bind fun bt303 => ((stockyardmake_Joined.f k (([t291, t295, bt303.1] : List (List Int)))).bind fun t310 => ((stockyardlaw24_ends.f t285 t286 t287 t288 t310).bind fun bt313 => ((stockyardmake_Joined.f k (([t291, t299, bt303.1] : List (List Int)))).bind fun t320 => ((stockyardlaw24_ends.f t285 t286 t287 t288 t320).bind fun bt323 => ((stockyardlaw24_known.f k).bind fun t327 => (if t327 = true then (if bt313.2 = true then (stockyardlaw24_ChunkerEdit.j0 k t291 bt313.1 bt323.1 (!bt323.2)) else (stockyardlaw24_ChunkerEdit.j0 k t291 bt313.1 bt323.1 true)) else (stockyardlaw24_ChunkerEdit.j0 k t291 bt313.1 bt323.1 true)))))))) = some r := H
  have A5 := Aside0.mk A50
  clear A50
  replace H := Option.bind_eq_some_iff.mp H
  obtain ⟨⟨t303, t306⟩, A60, H⟩ := H
  replace H : ((stockyardmake_Joined.f k (([t291, t295, t303] : List (List Int)))).bind fun t310 => ((stockyardlaw24_ends.f t285 t286 t287 t288 t310).bind fun bt313 => ((stockyardmake_Joined.f k (([t291, t299, t303] : List (List Int)))).bind fun t320 => ((stockyardlaw24_ends.f t285 t286 t287 t288 t320).bind fun bt323 => ((stockyardlaw24_known.f k).bind fun t327 => (if t327 = true then (if bt313.2 = true then (stockyardlaw24_ChunkerEdit.j0 k t291 bt313.1 bt323.1 (!bt323.2)) else (stockyardlaw24_ChunkerEdit.j0 k t291 bt313.1 bt323.1 true)) else (stockyardlaw24_ChunkerEdit.j0 k t291 bt313.1 bt323.1 true))))))) = some r := H
  have A6 := Aside0.mk A60
  clear A60
  obtain ⟨y307, hy307⟩ : ∃ y_ : List (List Int), y_ = (([t291, t295, t303] : List (List Int))) := ⟨_, rfl⟩
  replace H : ((stockyardmake_Joined.f k y307).bind fun t310 => ((stockyardlaw24_ends.f t285 t286 t287 t288 t310).bind fun bt313 => ((stockyardmake_Joined.f k (([t291, t299, t303] : List (List Int)))).bind fun t320 => ((stockyardlaw24_ends.f t285 t286 t287 t288 t320).bind fun bt323 => ((stockyardlaw24_known.f k).bind fun t327 => (if t327 = true then (if bt313.2 = true then (stockyardlaw24_ChunkerEdit.j0 k t291 bt313.1 bt323.1 (!bt323.2)) else (stockyardlaw24_ChunkerEdit.j0 k t291 bt313.1 bt323.1 true)) else (stockyardlaw24_ChunkerEdit.j0 k t291 bt313.1 bt323.1 true))))))) = some r := by first | (rw [hy307]; with_reducible exact H) | (have H2_ := (Option.bind_some _ _).symm.trans H; rw [hy307]; with_reducible exact H2_) | (have H2_ := (Option.bind_some _ _).symm.trans H; with_reducible exact H2_) | with_reducible exact H | (rw [hy307]; exact H) | exact H
  have Ny307 := Aside0.mk hy307
  clear hy307
  replace H := Option.bind_eq_some_iff.mp H
  obtain ⟨t310, A70, H⟩ := H
  replace H : ((stockyardlaw24_ends.f t285 t286 t287 t288 t310).bind fun bt313 => ((stockyardmake_Joined.f k (([t291, t299, t303] : List (List Int)))).bind fun t320 => ((stockyardlaw24_ends.f t285 t286 t287 t288 t320).bind fun bt323 => ((stockyardlaw24_known.f k).bind fun t327 => (if t327 = true then (if bt313.2 = true then (stockyardlaw24_ChunkerEdit.j0 k t291 bt313.1 bt323.1 (!bt323.2)) else (stockyardlaw24_ChunkerEdit.j0 k t291 bt313.1 bt323.1 true)) else (stockyardlaw24_ChunkerEdit.j0 k t291 bt313.1 bt323.1 true)))))) = some r := H
  have A7 := Aside0.mk A70
  clear A70
  replace H := Option.bind_eq_some_iff.mp H
  obtain ⟨⟨t313, t316⟩, A80, H⟩ := H
  replace H : ((stockyardmake_Joined.f k (([t291, t299, t303] : List (List Int)))).bind fun t320 => ((stockyardlaw24_ends.f t285 t286 t287 t288 t320).bind fun bt323 => ((stockyardlaw24_known.f k).bind fun t327 => (if t327 = true then (if t316 = true then (stockyardlaw24_ChunkerEdit.j0 k t291 t313 bt323.1 (!bt323.2)) else (stockyardlaw24_ChunkerEdit.j0 k t291 t313 bt323.1 true)) else (stockyardlaw24_ChunkerEdit.j0 k t291 t313 bt323.1 true))))) = some r := H
  have A8 := Aside0.mk A80
  clear A80
  obtain ⟨y317, hy317⟩ : ∃ y_ : List (List Int), y_ = (([t291, t299, t303] : List (List Int))) := ⟨_, rfl⟩
  replace H : ((stockyardmake_Joined.f k y317).bind fun t320 => ((stockyardlaw24_ends.f t285 t286 t287 t288 t320).bind fun bt323 => ((stockyardlaw24_known.f k).bind fun t327 => (if t327 = true then (if t316 = true then (stockyardlaw24_ChunkerEdit.j0 k t291 t313 bt323.1 (!bt323.2)) else (stockyardlaw24_ChunkerEdit.j0 k t291 t313 bt323.1 true)) else (stockyardlaw24_ChunkerEdit.j0 k t291 t313 bt323.1 true))))) = some r := by first | (rw [hy317]; with_reducible exact H) | (have H2_ := (Option.bind_some _ _).symm.trans H; rw [hy317]; with_reducible exact H2_) | (have H2_ := (Option.bind_some _ _).symm.trans H; with_reducible exact H2_) | with_reducible exact H | (rw [hy317]; exact H) | exact H
  have Ny317 := Aside0.mk hy317
  clear hy317
  replace H := Option.bind_eq_some_iff.mp H
  obtain ⟨t320, A90, H⟩ := H
  replace H : ((stockyardlaw24_ends.f t285 t286 t287 t288 t320).bind fun bt323 => ((stockyardlaw24_known.f k).bind fun t327 => (if t327 = true then (if t316 = true then (stockyardlaw24_ChunkerEdit.j0 k t291 t313 bt323.1 (!bt323.2)) else (stockyardlaw24_ChunkerEdit.j0 k t291 t313 bt323.1 true)) else (stockyardlaw24_ChunkerEdit.j0 k t291 t313 bt323.1 true)))) = some r := H
  have A9 := Aside0.mk A90
  clear A90
  replace H := Option.bind_eq_some_iff.mp H
  obtain ⟨⟨t323, t326⟩, A100, H⟩ := H
  replace H : ((stockyardlaw24_known.f k).bind fun t327 => (if t327 = true then (if t316 = true then (stockyardlaw24_ChunkerEdit.j0 k t291 t313 t323 (!t326)) else (stockyardlaw24_ChunkerEdit.j0 k t291 t313 t323 true)) else (stockyardlaw24_ChunkerEdit.j0 k t291 t313 t323 true))) = some r := H
  have A10 := Aside0.mk A100
  clear A100
  have HC11 := Aside0.mk H
  clear H
  go_enter Try.func6, Try.ntmps6
  try go_wp2_with (first | ((with_reducible refine gate_dst (N := 16) rfl ?_); (try (refine gate_guard (by rfl) ?_; dsimp only)); refine box_event ?hg (N := 16) ?hd (cs := #[.slice A0 l0.length c0, .int .i64 0]) (t := 25) ?hr ?_; (case hd => rfl); (case hg => rfl); (case hr => first | (go_simp; done) | (go_simp; rfl)); intro gb284 hg w12 hbox hb; have n0_ := Aside0.mk (below_step (by repeat (first | (with_reducible first | exact HB.out | apply below_alloc | apply pw_below_drewN | apply below_drew1) | exact HB.out)) hb); have n1_ := Aside0.mk ((by rw [hg]; exact (below_size (by repeat (first | (with_reducible first | exact HB.out | apply below_alloc | apply pw_below_drewN | apply below_drew1) | exact HB.out))) : w.heap.size ≤ gb284)); have n2_ := Aside0.mk ((by rw [hg]; exact (below_size (by repeat (first | (with_reducible first | exact HB.out | apply below_alloc | apply pw_below_drewN | apply below_drew1) | exact HB.out))) : w.heap.size ≤ gb284)); have n3_ := Aside0.mk ((show IsS25 w w12 gb284 l0 0 from ⟨_, _, hbox, (by rw [hg]; exact (below_size (by repeat (first | (with_reducible first | exact HB.out | apply below_alloc | apply pw_below_drewN | apply below_drew1) | exact HB.out))) : w.heap.size ≤ gb284), HR0.out⟩)); clear HB; have HB := n0_; have GW284 := n1_; have GE284 := n2_; have HI284 := n3_; clear n0_ n1_ n2_ n3_; clear hb hbox hg) | ((with_reducible refine gate_callee (f := 14) rfl ?_); refine goesL_ (some 18) rfl rfl Try.func14 (by kernel_rfl) rfl #[.pointer (some ⟨gb284, 0, none⟩)] rfl (by (try simp only [List.map_toArray, List.map_cons, List.map_nil]); first | done | rfl | (simp only [List.length_drop, List.length_take]; rfl)) ?_; (with_reducible refine (stockyardlaw24_made.calls gb284 l0 0 t285 t286 t287 t288 t289 w _ ?side1 ?side2 A2.out).mono ?_); (case side1 => repeat (first | (with_reducible first | exact HI284.out | apply IsS25.alloc | apply IsS25.drewN | apply IsS25.drew | apply IsS25.set_1) | exact HI284.out)); (case side2 => repeat (first | (with_reducible first | exact HB.out | apply below_alloc | apply pw_below_drewN | apply below_drew1 | refine below_set ?_ (IsS25.ge HI284.out)) | exact HB.out)); rintro e w13 ⟨rfl, hi, hb, hk⟩; refine ⟨_, rfl, ?_⟩; have n0_ := Aside0.mk (hb); have n1_ := Aside0.mk (hi); clear HB; clear HI284; have HB := n0_; have HI284 := n1_; clear n0_ n1_; (try clear hb); (try clear hb2); (try clear hk); (try clear hi)) | ((with_reducible refine gate_dst (N := 4) rfl ?_); (try (refine gate_guard (by rfl) ?_; dsimp only)); refine box_event ?hg (N := 4) ?hd (cs := #[.int .i64 0, .int .i64 0, .int .i64 0, .int .u64 0]) (t := 28) ?hr ?_; (case hd => rfl); (case hg => rfl); (case hr => first | (go_simp; done) | (go_simp; rfl)); intro gb290 hg w14 hbox hb; have n0_ := Aside0.mk (IsS25.below (by repeat (first | (with_reducible first | exact HI284.out | apply IsS25.alloc | apply IsS25.drewN | apply IsS25.drew | apply IsS25.set_1) | exact HI284.out)) hb); have n1_ := Aside0.mk (below_step (by repeat (first | (with_reducible first | exact HB.out | apply below_alloc | apply pw_below_drewN | apply below_drew1 | refine below_set ?_ (IsS25.ge HI284.out)) | exact HB.out)) hb); have n2_ := Aside0.mk (hbox); have n3_ := Aside0.mk ((by rw [hg]; exact (below_size (by repeat (first | (with_reducible first | exact HB.out | apply below_alloc | apply pw_below_drewN | apply below_drew1 | refine below_set ?_ (IsS25.ge HI284.out)) | exact HB.out))) : w.heap.size ≤ gb290)); have n4_ := Aside0.mk ((by rw [hg]; exact (below_size (by repeat (first | (with_reducible first | exact HB.out | apply below_alloc | apply pw_below_drewN | apply below_drew1 | refine below_set ?_ (IsS25.ge HI284.out)) | exact HB.out))) : w.heap.size ≤ gb290)); have n5_ := Aside0.mk ((by rw [hg]; exact Nat.ne_of_lt (IsS25.lt (show IsS25 w _ gb284 l0 t289 from by repeat (first | (with_reducible first | exact HI284.out | apply IsS25.alloc | apply IsS25.drewN | apply IsS25.drew | apply IsS25.set_1) | exact HI284.out))) : gb284 ≠ gb290)); have n6_ := Aside0.mk ((by rw [hg]; exact Nat.ne_of_gt (IsS25.lt (show IsS25 w _ gb284 l0 t289 from by repeat (first | (with_reducible first | exact HI284.out | apply IsS25.alloc | apply IsS25.drewN | apply IsS25.drew | apply IsS25.set_1) | exact HI284.out))) : gb290 ≠ gb284)); clear HI284; clear HB; have HI284 := n0_; have HB := n1_; have BK290 := n2_; have GW290 := n3_; have GE290 := n4_; have NB284_290 := n5_; have NB290_284 := n6_; clear n0_ n1_ n2_ n3_ n4_ n5_ n6_; clear hb hbox hg; have hnb15 := NB290_284.out; have hnc15 := NB284_290.out; have hcz16_0 : w14.cell? ⟨gb290, 0, none⟩ = some (.int .i64 0) := (blk_cell BK290.out 0).trans rfl; have hcz16_1 : w14.cell? ⟨gb290, 1, none⟩ = some (.int .i64 0) := (blk_cell BK290.out 1).trans rfl; have hcz16_2 : w14.cell? ⟨gb290, 2, none⟩ = some (.int .i64 0) := (blk_cell BK290.out 2).trans rfl; have hcz16_3 : w14.cell? ⟨gb290, 3, none⟩ = some (.int .u64 0) := (blk_cell BK290.out 3).trans rfl; have hfz16_0 := blk_frozen BK290.out 0; have hfz16_1 := blk_frozen BK290.out 1; have hfz16_2 := blk_frozen BK290.out 2; have hfz16_3 := blk_frozen BK290.out 3) | ((with_reducible refine gate_callee (f := 15) rfl ?_); refine goesL_ (some 20) rfl rfl Try.func15 (by kernel_rfl) rfl #[.pointer (some ⟨gb284, 0, none⟩), .int .i64 90] rfl (by (try simp only [List.map_toArray, List.map_cons, List.map_nil]); first | done | rfl | (simp only [List.length_drop, List.length_take]; rfl)) ?_; (with_reducible refine (stockyardlaw24_text.calls k gb284 l0 t289 90 t291 t294 w _ ?side1 ?side2 A3.out).mono ?_); (case side1 => repeat (first | (with_reducible first | exact HI284.out | apply IsS25.alloc | apply IsS25.drewN | apply IsS25.drew | apply IsS25.set_1 | refine IsS25.far ?_ NB284_290.out _) | exact HI284.out)); (case side2 => repeat (first | (with_reducible first | exact HB.out | apply below_alloc | apply pw_below_drewN | apply below_drew1 | refine below_set ?_ (IsS25.ge HI284.out) | refine below_set ?_ GE290.out) | exact HB.out)); rintro e w17 ⟨v292, rfl, ho0, hi, hb, hk⟩; refine ⟨_, rfl, ?_⟩; have n0_ := Aside0.mk (KeepBut.blk hk (g' := gb290) (o := .cells #[.int .i64 t285, .int .i64 t286, .int .i64 t287, .int .u64 t288] 28 (0, 0)) (by (with_reducible repeat (first | refine blk_drewN ?_ _ | refine blk_drew ?_ | refine blk_alloc ?_ _)); refine blk_put (cs := #[.int .i64 t285, .int .i64 t286, .int .i64 t287, .int .u64 0]) ?_ 3 _ rfl; (with_reducible repeat (first | refine blk_drewN ?_ _ | refine blk_drew ?_ | refine blk_alloc ?_ _)); refine blk_put (cs := #[.int .i64 t285, .int .i64 t286, .int .i64 0, .int .u64 0]) ?_ 2 _ rfl; (with_reducible repeat (first | refine blk_drewN ?_ _ | refine blk_drew ?_ | refine blk_alloc ?_ _)); refine blk_put (cs := #[.int .i64 t285, .int .i64 0, .int .i64 0, .int .u64 0]) ?_ 1 _ rfl; (with_reducible repeat (first | refine blk_drewN ?_ _ | refine blk_drew ?_ | refine blk_alloc ?_ _)); refine blk_put (cs := #[.int .i64 0, .int .i64 0, .int .i64 0, .int .u64 0]) ?_ 0 _ rfl; (with_reducible repeat (first | refine blk_drewN ?_ _ | refine blk_drew ?_ | refine blk_alloc ?_ _)); exact BK290.out) NB290_284.out (by simp)); have n1_ := Aside0.mk (Kd.R_lower ho0 (below_size (by repeat (first | (with_reducible first | exact HB.out | apply below_alloc | apply pw_below_drewN | apply below_drew1 | refine below_set ?_ (IsS25.ge HI284.out) | refine below_set ?_ GE290.out) | exact HB.out)))); have n2_ := Aside0.mk (hb); have n3_ := Aside0.mk (hi); clear BK290; clear HB; clear HI284; have BK290 := n0_; have HO293 := n1_; have HB := n2_; have HI284 := n3_; clear n0_ n1_ n2_ n3_; (try clear hb); (try clear hb2); (try clear hk); (try clear hi); (try clear ho0)) | ((with_reducible refine gate_callee (f := 15) rfl ?_); refine goesL_ (some 22) rfl rfl Try.func15 (by kernel_rfl) rfl #[.pointer (some ⟨gb284, 0, none⟩), .int .i64 9] rfl (by (try simp only [List.map_toArray, List.map_cons, List.map_nil]); first | done | rfl | (simp only [List.length_drop, List.length_take]; rfl)) ?_; (with_reducible refine (stockyardlaw24_text.calls k gb284 l0 t294 9 t295 t298 w _ ?side1 ?side2 A4.out).mono ?_); (case side1 => repeat (first | (with_reducible first | exact HI284.out | apply IsS25.alloc | apply IsS25.drewN | apply IsS25.drew | apply IsS25.set_1 | refine IsS25.far ?_ NB284_290.out _) | exact HI284.out)); (case side2 => repeat (first | (with_reducible first | exact HB.out | apply below_alloc | apply pw_below_drewN | apply below_drew1 | refine below_set ?_ (IsS25.ge HI284.out) | refine below_set ?_ GE290.out) | exact HB.out)); rintro e w18 ⟨v296, rfl, ho0, hi, hb, hk⟩; refine ⟨_, rfl, ?_⟩; have n0_ := Aside0.mk (KeepBut.blk hk (g' := gb290) (o := .cells #[.int .i64 t285, .int .i64 t286, .int .i64 t287, .int .u64 t288] 28 (0, 0)) (by (with_reducible repeat (first | refine blk_drewN ?_ _ | refine blk_drew ?_ | refine blk_alloc ?_ _)); exact BK290.out) NB290_284.out (by simp)); have n1_ := Aside0.mk (Kd.R_mono (Kd.R_told (Kd.R_oldK (IsS25.apart (show IsS25 w _ gb284 l0 t294 from by repeat (first | (with_reducible first | exact HI284.out | apply IsS25.alloc | apply IsS25.drewN | apply IsS25.drew | apply IsS25.set_1 | refine IsS25.far ?_ NB284_290.out _) | exact HI284.out)) (by (with_reducible repeat (first | apply Kd.R_alloc | apply Kd.R_drewN | apply Kd.R_drew)); exact HO293.out) (by decide)) hk) (Kd.R_base ho0)) (fun _ h_ => h_.1)); have n2_ := Aside0.mk (Kd.R_lower (Kd.R_new' ho0 (Kd.R_lt (by (with_reducible repeat (first | apply Kd.R_alloc | apply Kd.R_drewN | apply Kd.R_drew)); exact HO293.out))) (below_size (by repeat (first | (with_reducible first | exact HB.out | apply below_alloc | apply pw_below_drewN | apply below_drew1 | refine below_set ?_ (IsS25.ge HI284.out) | refine below_set ?_ GE290.out) | exact HB.out)))); have n3_ := Aside0.mk (hb); have n4_ := Aside0.mk (hi); clear BK290; clear HO293; clear HB; clear HI284; have BK290 := n0_; have HO293 := n1_; have HO297 := n2_; have HB := n3_; have HI284 := n4_; clear n0_ n1_ n2_ n3_ n4_; (try clear hb); (try clear hb2); (try clear hk); (try clear hi); (try clear ho0)) | ((with_reducible refine gate_callee (f := 15) rfl ?_); refine goesL_ (some 24) rfl rfl Try.func15 (by kernel_rfl) rfl #[.pointer (some ⟨gb284, 0, none⟩), .int .i64 9] rfl (by (try simp only [List.map_toArray, List.map_cons, List.map_nil]); first | done | rfl | (simp only [List.length_drop, List.length_take]; rfl)) ?_; (with_reducible refine (stockyardlaw24_text.calls k gb284 l0 t298 9 t299 t302 w _ ?side1 ?side2 A5.out).mono ?_); (case side1 => repeat (first | (with_reducible first | exact HI284.out | apply IsS25.alloc | apply IsS25.drewN | apply IsS25.drew | apply IsS25.set_1 | refine IsS25.far ?_ NB284_290.out _) | exact HI284.out)); (case side2 => repeat (first | (with_reducible first | exact HB.out | apply below_alloc | apply pw_below_drewN | apply below_drew1 | refine below_set ?_ (IsS25.ge HI284.out) | refine below_set ?_ GE290.out) | exact HB.out)); rintro e w19 ⟨v300, rfl, ho0, hi, hb, hk⟩; refine ⟨_, rfl, ?_⟩; have n0_ := Aside0.mk (KeepBut.blk hk (g' := gb290) (o := .cells #[.int .i64 t285, .int .i64 t286, .int .i64 t287, .int .u64 t288] 28 (0, 0)) (by (with_reducible repeat (first | refine blk_drewN ?_ _ | refine blk_drew ?_ | refine blk_alloc ?_ _)); exact BK290.out) NB290_284.out (by simp)); have n1_ := Aside0.mk (Kd.R_mono (Kd.R_told (Kd.R_oldK (IsS25.apart (show IsS25 w _ gb284 l0 t298 from by repeat (first | (with_reducible first | exact HI284.out | apply IsS25.alloc | apply IsS25.drewN | apply IsS25.drew | apply IsS25.set_1 | refine IsS25.far ?_ NB284_290.out _) | exact HI284.out)) (by (with_reducible repeat (first | apply Kd.R_alloc | apply Kd.R_drewN | apply Kd.R_drew)); exact HO293.out) (by decide)) hk) (Kd.R_base ho0)) (fun _ h_ => h_.1)); have n2_ := Aside0.mk (Kd.R_mono (Kd.R_told (Kd.R_oldK (IsS25.apart (show IsS25 w _ gb284 l0 t298 from by repeat (first | (with_reducible first | exact HI284.out | apply IsS25.alloc | apply IsS25.drewN | apply IsS25.drew | apply IsS25.set_1 | refine IsS25.far ?_ NB284_290.out _) | exact HI284.out)) (by (with_reducible repeat (first | apply Kd.R_alloc | apply Kd.R_drewN | apply Kd.R_drew)); exact HO297.out) (by decide)) hk) (Kd.R_base ho0)) (fun _ h_ => h_.1)); have n3_ := Aside0.mk (Kd.R_lower (Kd.R_new' (Kd.R_new' ho0 (Kd.R_lt (by (with_reducible repeat (first | apply Kd.R_alloc | apply Kd.R_drewN | apply Kd.R_drew)); exact HO293.out))) (Kd.R_lt (by (with_reducible repeat (first | apply Kd.R_alloc | apply Kd.R_drewN | apply Kd.R_drew)); exact HO297.out))) (below_size (by repeat (first | (with_reducible first | exact HB.out | apply below_alloc | apply pw_below_drewN | apply below_drew1 | refine below_set ?_ (IsS25.ge HI284.out) | refine below_set ?_ GE290.out) | exact HB.out)))); have n4_ := Aside0.mk (hb); have n5_ := Aside0.mk (hi); clear BK290; clear HO293; clear HO297; clear HB; clear HI284; have BK290 := n0_; have HO293 := n1_; have HO297 := n2_; have HO301 := n3_; have HB := n4_; have HI284 := n5_; clear n0_ n1_ n2_ n3_ n4_ n5_; (try clear hb); (try clear hb2); (try clear hk); (try clear hi); (try clear ho0)) | ((with_reducible refine gate_callee (f := 15) rfl ?_); refine goesL_ (some 26) rfl rfl Try.func15 (by kernel_rfl) rfl #[.pointer (some ⟨gb284, 0, none⟩), .int .i64 40] rfl (by (try simp only [List.map_toArray, List.map_cons, List.map_nil]); first | done | rfl | (simp only [List.length_drop, List.length_take]; rfl)) ?_; (with_reducible refine (stockyardlaw24_text.calls k gb284 l0 t302 40 t303 t306 w _ ?side1 ?side2 A6.out).mono ?_); (case side1 => repeat (first | (with_reducible first | exact HI284.out | apply IsS25.alloc | apply IsS25.drewN | apply IsS25.drew | apply IsS25.set_1 | refine IsS25.far ?_ NB284_290.out _) | exact HI284.out)); (case side2 => repeat (first | (with_reducible first | exact HB.out | apply below_alloc | apply pw_below_drewN | apply below_drew1 | refine below_set ?_ (IsS25.ge HI284.out) | refine below_set ?_ GE290.out) | exact HB.out)); rintro e w20 ⟨v304, rfl, ho0, hi, hb, hk⟩; refine ⟨_, rfl, ?_⟩; have n0_ := Aside0.mk (KeepBut.blk hk (g' := gb290) (o := .cells #[.int .i64 t285, .int .i64 t286, .int .i64 t287, .int .u64 t288] 28 (0, 0)) (by (with_reducible repeat (first | refine blk_drewN ?_ _ | refine blk_drew ?_ | refine blk_alloc ?_ _)); exact BK290.out) NB290_284.out (by simp)); have n1_ := Aside0.mk (Kd.R_mono (Kd.R_told (Kd.R_oldK (IsS25.apart (show IsS25 w _ gb284 l0 t302 from by repeat (first | (with_reducible first | exact HI284.out | apply IsS25.alloc | apply IsS25.drewN | apply IsS25.drew | apply IsS25.set_1 | refine IsS25.far ?_ NB284_290.out _) | exact HI284.out)) (by (with_reducible repeat (first | apply Kd.R_alloc | apply Kd.R_drewN | apply Kd.R_drew)); exact HO293.out) (by decide)) hk) (Kd.R_base ho0)) (fun _ h_ => h_.1)); have n2_ := Aside0.mk (Kd.R_mono (Kd.R_told (Kd.R_oldK (IsS25.apart (show IsS25 w _ gb284 l0 t302 from by repeat (first | (with_reducible first | exact HI284.out | apply IsS25.alloc | apply IsS25.drewN | apply IsS25.drew | apply IsS25.set_1 | refine IsS25.far ?_ NB284_290.out _) | exact HI284.out)) (by (with_reducible repeat (first | apply Kd.R_alloc | apply Kd.R_drewN | apply Kd.R_drew)); exact HO297.out) (by decide)) hk) (Kd.R_base ho0)) (fun _ h_ => h_.1)); have n3_ := Aside0.mk (Kd.R_mono (Kd.R_told (Kd.R_oldK (IsS25.apart (show IsS25 w _ gb284 l0 t302 from by repeat (first | (with_reducible first | exact HI284.out | apply IsS25.alloc | apply IsS25.drewN | apply IsS25.drew | apply IsS25.set_1 | refine IsS25.far ?_ NB284_290.out _) | exact HI284.out)) (by (with_reducible repeat (first | apply Kd.R_alloc | apply Kd.R_drewN | apply Kd.R_drew)); exact HO301.out) (by decide)) hk) (Kd.R_base ho0)) (fun _ h_ => h_.1)); have n4_ := Aside0.mk (Kd.R_lower (Kd.R_new' (Kd.R_new' (Kd.R_new' ho0 (Kd.R_lt (by (with_reducible repeat (first | apply Kd.R_alloc | apply Kd.R_drewN | apply Kd.R_drew)); exact HO293.out))) (Kd.R_lt (by (with_reducible repeat (first | apply Kd.R_alloc | apply Kd.R_drewN | apply Kd.R_drew)); exact HO297.out))) (Kd.R_lt (by (with_reducible repeat (first | apply Kd.R_alloc | apply Kd.R_drewN | apply Kd.R_drew)); exact HO301.out))) (below_size (by repeat (first | (with_reducible first | exact HB.out | apply below_alloc | apply pw_below_drewN | apply below_drew1 | refine below_set ?_ (IsS25.ge HI284.out) | refine below_set ?_ GE290.out) | exact HB.out)))); have n5_ := Aside0.mk (hb); have n6_ := Aside0.mk (hi); clear BK290; clear HO293; clear HO297; clear HO301; clear HB; clear HI284; have BK290 := n0_; have HO293 := n1_; have HO297 := n2_; have HO301 := n3_; have HO305 := n4_; have HB := n5_; have HI284 := n6_; clear n0_ n1_ n2_ n3_ n4_ n5_ n6_; (try clear hb); (try clear hb2); (try clear hk); (try clear hi); (try clear ho0)))
  have n0_ := Aside0.mk (Kd.R_drew HO293.out)
  have n1_ := Aside0.mk (Kd.R_drew HO297.out)
  have n2_ := Aside0.mk (Kd.R_drew HO301.out)
  have n3_ := Aside0.mk (Kd.R_drew HO305.out)
  have n4_ := Aside0.mk (blk_drew BK290.out)
  have n5_ := Aside0.mk (IsS25.drew HI284.out)
  have n6_ := Aside0.mk (below_drew1 HB.out)
  clear HO293
  clear HO297
  clear HO301
  clear HO305
  clear BK290
  clear HI284
  clear HB
  have HO293 := n0_
  have HO297 := n1_
  have HO301 := n2_
  have HO305 := n3_
  have BK290 := n4_
  have HI284 := n5_
  have HB := n6_
  clear n0_ n1_ n2_ n3_ n4_ n5_ n6_
  obtain ⟨Ao22, co22, eo22⟩ := Kd.R_slice HO293.out
  (first | subst eo22 | (injection eo22 with f1_ f2_ f3_; have f4_ := f1_.symm; have f5_ := f3_.symm; clear f1_ f2_ f3_; subst f4_; subst f5_))
  obtain ⟨Ao23, co23, eo23⟩ := Kd.R_slice HO297.out
  (first | subst eo23 | (injection eo23 with f1_ f2_ f3_; have f4_ := f1_.symm; have f5_ := f3_.symm; clear f1_ f2_ f3_; subst f4_; subst f5_))
  obtain ⟨Ao24, co24, eo24⟩ := Kd.R_slice HO305.out
  (first | subst eo24 | (injection eo24 with f1_ f2_ f3_; have f4_ := f1_.symm; have f5_ := f3_.symm; clear f1_ f2_ f3_; subst f4_; subst f5_))
  refine start_ (n := 12) (S := fun w' => w'.cell? ⟨gb290, 0, none⟩ = some (.int .i64 t285) ∧ w'.cell? ⟨gb290, 1, none⟩ = some (.int .i64 t286) ∧ w'.cell? ⟨gb290, 2, none⟩ = some (.int .i64 t287) ∧ w'.cell? ⟨gb290, 3, none⟩ = some (.int .u64 t288)) (ds := []) #[false, false, false, false, false, false, false, false, false, false, false, false] (by kernel_rfl) rfl rfl ⟨(blk_cell BK290.out 0).trans rfl, (blk_cell BK290.out 1).trans rfl, (blk_cell BK290.out 2).trans rfl, (blk_cell BK290.out 3).trans rfl⟩ (fun hHeld => ?_); refine with_tabW stockyardlaw24_ChunkerEdit.tab4 stockyardlaw24_ChunkerEdit.bits4 (fun HT_ HW_ => ?_)
  generalize w20.drew = w21 at HO293 HO297 HO301 HO305 BK290 HI284 HB hHeld ⊢
  refine pure_ (i := 1) (N := some 29) (v := ?_) (a' := ?_) #[false, true, false, false, false, false, false, false, false, false, false, false] rfl rfl (any_of HT_.out (by kernel_rfl)) (fun _ _ _ h => h) (Or.inl ⟨by rfl, ?_⟩) ?_ ?_
  rotate_left
  · intro w'
    go_simp
    with_reducible rfl
  rotate_left
  · simp only [Act.put, List.setIfInBounds_toArray, List.set_cons_zero, List.set_cons_succ, i64_w, i32_w]
    rfl
  refine pure_ (i := 2) (N := some 30) (v := ?_) (a' := ?_) #[false, true, true, false, false, false, false, false, false, false, false, false] rfl rfl (any_of HT_.out (by kernel_rfl)) (fun _ _ _ h => h) (Or.inl ⟨by rfl, ?_⟩) ?_ ?_
  rotate_left
  · intro w'
    go_simp
    with_reducible rfl
  rotate_left
  · simp only [Act.put, List.setIfInBounds_toArray, List.set_cons_zero, List.set_cons_succ, i64_w, i32_w]
    rfl
  refine pure_ (i := 3) (N := some 31) (v := ?_) (a' := ?_) #[false, true, true, true, false, false, false, false, false, false, false, false] rfl rfl (any_of HT_.out (by kernel_rfl)) (fun _ _ _ h => h) (Or.inl ⟨by rfl, ?_⟩) ?_ ?_
  rotate_left
  · intro w'
    go_simp
    with_reducible rfl
  rotate_left
  · simp only [Act.put, List.setIfInBounds_toArray, List.set_cons_zero, List.set_cons_succ, i64_w, i32_w]
    rfl
  refine take_ (i := 0) (N := some 28) (v := ?_) (a' := ?_) #[true, true, true, true, false, false, false, false, false, false, false, false] rfl rfl (take_ofW HT_.out HW_.out (by kernel_rfl)) (fun _ _ _ h => h) (Or.inl ⟨by rfl, ?_⟩) hHeld ?_ ?_
  rotate_left
  · rintro w' ⟨s0, s1, s2, s3⟩
    go_simp
    with_reducible rfl
  rotate_left
  · simp only [Act.put, List.setIfInBounds_toArray, List.set_cons_zero, List.set_cons_succ, i64_w, i32_w]
    rfl
  refine one_ (i := 4) (N := some 32) #[true, true, true, true, true, false, false, false, false, false, false, false] rfl rfl (one_of HT_.out (by kernel_rfl)) (by decide) (fun K hK => ?_)
  refine Kd.N_lit_step (Kd.slice 5 (Kd.int .u8)) _ 30 ?hg (N' := 32) ?hd (xs := ([t291, t295, t303] : List (List Int))) (inner := [.slice Ao22 t291.length co22, .slice Ao23 t295.length co23, .slice Ao24 t303.length co24]) (ok := (fun k_ => some k_ ≠ (v300 : Value).ownBlock ∧ k_ ≠ gb290 ∧ k_ ≠ gb284)) (okp := (fun k_ => some k_ ≠ (v300 : Value).ownBlock ∧ k_ ≠ gb290 ∧ k_ ≠ gb284)) ?hr ?hp (fun _ hk => hk) ((show ∀ k_, w21.heap.size ≤ k_ → (fun k_ => some k_ ≠ (v300 : Value).ownBlock ∧ k_ ≠ gb290 ∧ k_ ≠ gb284) k_ from fun k_ hk => ⟨Kd.fresh' (Kd.R_lt (by (with_reducible repeat (first | apply Kd.R_alloc | apply Kd.R_drewN | apply Kd.R_drew)); exact HO301.out)) k_ hk, Kd.freshB (g := gb290) (o := .cells #[.int .i64 t285, .int .i64 t286, .int .i64 t287, .int .u64 t288] 28 (0, 0)) (by (with_reducible repeat (first | refine blk_drewN ?_ _ | refine blk_drew ?_ | refine blk_alloc ?_ _)); exact BK290.out) k_ hk, IsS25.fresh (by repeat (first | (with_reducible first | exact HI284.out | apply IsS25.alloc | apply IsS25.drewN | apply IsS25.drew | apply IsS25.set_1 | refine IsS25.far ?_ NB284_290.out _) | exact HI284.out)) k_ hk⟩) _ (Nat.le_refl _)) (Below.refl _ _) (Nat.le_refl _) (by simp) ?_; (case hd => rfl); (case hg => rfl); (case hr => first | (go_simp; done) | (go_simp; rfl)); (case hp => exact (Reps.one (show Kd.FK (Kd.slice 5 (Kd.int .u8)) _ _ t291 [.slice Ao22 t291.length co22] from (Kd.FK_slice_mk (Kd.R_reads' (Kd.R_mono (ok' := (fun k_ => some k_ ≠ (v300 : Value).ownBlock ∧ k_ ≠ gb290 ∧ k_ ≠ gb284)) (IsS25.apart HI284.out (Kd.R_types (HO293.out) BK290.out (by decide)) (by decide)) (fun k_ hk => ⟨hk.1.1.1.2, ⟨hk.1.2, hk.2⟩⟩))).2.1 (Kd.R_F (Kd.R_mono (ok' := (fun k_ => some k_ ≠ (v300 : Value).ownBlock ∧ k_ ≠ gb290 ∧ k_ ≠ gb284)) (IsS25.apart HI284.out (Kd.R_types (HO293.out) BK290.out (by decide)) (by decide)) (fun k_ hk => ⟨hk.1.1.1.2, ⟨hk.1.2, hk.2⟩⟩))))) (Reps.one (show Kd.FK (Kd.slice 5 (Kd.int .u8)) _ _ t295 [.slice Ao23 t295.length co23] from (Kd.FK_slice_mk (Kd.R_reads' (Kd.R_mono (ok' := (fun k_ => some k_ ≠ (v300 : Value).ownBlock ∧ k_ ≠ gb290 ∧ k_ ≠ gb284)) (IsS25.apart HI284.out (Kd.R_types (HO297.out) BK290.out (by decide)) (by decide)) (fun k_ hk => ⟨hk.1.1.1.2, ⟨hk.1.2, hk.2⟩⟩))).2.1 (Kd.R_F (Kd.R_mono (ok' := (fun k_ => some k_ ≠ (v300 : Value).ownBlock ∧ k_ ≠ gb290 ∧ k_ ≠ gb284)) (IsS25.apart HI284.out (Kd.R_types (HO297.out) BK290.out (by decide)) (by decide)) (fun k_ hk => ⟨hk.1.1.1.2, ⟨hk.1.2, hk.2⟩⟩))))) (Reps.one (show Kd.FK (Kd.slice 5 (Kd.int .u8)) _ _ t303 [.slice Ao24 t303.length co24] from (Kd.FK_slice_mk (Kd.R_reads' (Kd.R_mono (ok' := (fun k_ => some k_ ≠ (v300 : Value).ownBlock ∧ k_ ≠ gb290 ∧ k_ ≠ gb284)) (IsS25.apart HI284.out (Kd.R_types (HO305.out) BK290.out (by decide)) (by decide)) (fun k_ hk => ⟨hk.1.1.2, ⟨hk.1.2, hk.2⟩⟩))).2.1 (Kd.R_F (Kd.R_mono (ok' := (fun k_ => some k_ ≠ (v300 : Value).ownBlock ∧ k_ ≠ gb290 ∧ k_ ≠ gb284)) (IsS25.apart HI284.out (Kd.R_types (HO305.out) BK290.out (by decide)) (by decide)) (fun k_ hk => ⟨hk.1.1.2, ⟨hk.1.2, hk.2⟩⟩))))) (Reps.none _ _)))))
  intro v308 w25 ho26 hb hg_ hnew_
  clear hg_ hnew_
  (first | rw [← Ny307.out] at ho26 | (simp only [Int.reduceToNat] at ho26; rw [← Ny307.out] at ho26))
  have n0_ := Aside0.mk (Kd.R_below (by (with_reducible repeat (first | apply Kd.R_alloc | apply Kd.R_drewN | apply Kd.R_drew)); exact HO293.out) hb)
  have n1_ := Aside0.mk (Kd.R_below (by (with_reducible repeat (first | apply Kd.R_alloc | apply Kd.R_drewN | apply Kd.R_drew)); exact HO297.out) hb)
  have n2_ := Aside0.mk (Kd.R_below (by (with_reducible repeat (first | apply Kd.R_alloc | apply Kd.R_drewN | apply Kd.R_drew)); exact HO301.out) hb)
  have n3_ := Aside0.mk (Kd.R_below (by (with_reducible repeat (first | apply Kd.R_alloc | apply Kd.R_drewN | apply Kd.R_drew)); exact HO305.out) hb)
  have n4_ := Aside0.mk (Kd.N_lower ho26 (below_size (by repeat (first | (with_reducible first | exact HB.out | apply below_alloc | apply pw_below_drewN | apply below_drew1 | refine below_set ?_ (IsS25.ge HI284.out) | refine below_set ?_ GE290.out) | exact HB.out))))
  have n5_ := Aside0.mk (IsS25.below (by repeat (first | (with_reducible first | exact HI284.out | apply IsS25.alloc | apply IsS25.drewN | apply IsS25.drew | apply IsS25.set_1 | refine IsS25.far ?_ NB284_290.out _) | exact HI284.out)) hb)
  have n6_ := Aside0.mk (blk_below (g := gb290) (o := .cells #[.int .i64 t285, .int .i64 t286, .int .i64 t287, .int .u64 t288] 28 (0, 0)) (by (with_reducible repeat (first | refine blk_drewN ?_ _ | refine blk_drew ?_ | refine blk_alloc ?_ _)); exact BK290.out) hb)
  have n7_ := Aside0.mk (below_step (by repeat (first | (with_reducible first | exact HB.out | apply below_alloc | apply pw_below_drewN | apply below_drew1 | refine below_set ?_ (IsS25.ge HI284.out) | refine below_set ?_ GE290.out) | exact HB.out)) hb)
  clear HO293
  clear HO297
  clear HO301
  clear HO305
  clear HI284
  clear BK290
  clear HB
  have HO293 := n0_
  have HO297 := n1_
  have HO301 := n2_
  have HO305 := n3_
  have HO309 := n4_
  have HI284 := n5_
  have BK290 := n6_
  have HB := n7_
  clear n0_ n1_ n2_ n3_ n4_ n5_ n6_ n7_
  clear hb ho26
  obtain ⟨Ao27, co27, eo27⟩ := Kd.N_slice HO309.out
  (first | subst eo27 | (injection eo27 with f1_ f2_ f3_; have f4_ := f1_.symm; have f5_ := f3_.symm; clear f1_ f2_ f3_; subst f4_; subst f5_))
  refine hK.out _ _ ⟨(blk_cell BK290.out 0).trans rfl, (blk_cell BK290.out 1).trans rfl, (blk_cell BK290.out 2).trans rfl, (blk_cell BK290.out 3).trans rfl⟩ (fun hHeld => ?_)
  clear hK K
  refine norm_ (a' := ?_) ?_ ?_
  rotate_left
  · show Act.put _ (some 32) _ = _
    simp only [Act.put, List.setIfInBounds_toArray, List.set_cons_zero, List.set_cons_succ, i64_w, i32_w]
    rfl
  refine one_ (i := 5) (N := some 33) #[true, true, true, true, true, true, false, false, false, false, false, false] rfl rfl (one_of HT_.out (by kernel_rfl)) (by decide) (fun K hK => ?_)
  refine goes_ Try.func19 (by kernel_rfl) rfl #[.slice Ao27 y307.length co27] (by rfl) rfl rfl (by (try simp only [List.map_toArray, List.map_cons, List.map_nil]); first | done | rfl | (simp only [List.length_drop, List.length_take]; rfl)) ?_
  with_reducible refine (stockyardmake_Joined.calls k _ _ y307 t310 _ ?side1 ?side2 A7.out).mono ?_
  (case side1 => repeat (first | exact (Kd.N_reads' HO309.out).2.2 | (with_reducible refine Kd.C_alloc ?_ _) | (with_reducible refine Kd.C_drewN ?_ _) | (with_reducible refine Kd.C_drew ?_)))
  (case side2 => exact (Kd.N_reads' HO309.out).2.1)
  rintro e w28 ⟨v311, rfl, ho0, hb⟩
  refine ⟨_, rfl, ?_⟩
  have n0_ := Aside0.mk (Kd.R_elder' (by (with_reducible repeat (first | apply Kd.R_alloc | apply Kd.R_drewN | apply Kd.R_drew)); exact HO293.out) (Kd.R_base ho0) hb)
  have n1_ := Aside0.mk (Kd.R_elder' (by (with_reducible repeat (first | apply Kd.R_alloc | apply Kd.R_drewN | apply Kd.R_drew)); exact HO297.out) (Kd.R_base ho0) hb)
  have n2_ := Aside0.mk (Kd.R_elder' (by (with_reducible repeat (first | apply Kd.R_alloc | apply Kd.R_drewN | apply Kd.R_drew)); exact HO301.out) (Kd.R_base ho0) hb)
  have n3_ := Aside0.mk (Kd.R_elder' (by (with_reducible repeat (first | apply Kd.R_alloc | apply Kd.R_drewN | apply Kd.R_drew)); exact HO305.out) (Kd.R_base ho0) hb)
  have n4_ := Aside0.mk (Kd.N_elder' (by (with_reducible repeat (first | apply Kd.N_alloc | apply Kd.N_drewN | apply Kd.N_drew)); exact HO309.out) (Kd.R_base ho0) hb)
  have n5_ := Aside0.mk (Kd.R_lower (Kd.R_new' (Kd.R_new' (Kd.R_new' (Kd.R_new' ho0 (Kd.R_lt (by (with_reducible repeat (first | apply Kd.R_alloc | apply Kd.R_drewN | apply Kd.R_drew)); exact HO293.out))) (Kd.R_lt (by (with_reducible repeat (first | apply Kd.R_alloc | apply Kd.R_drewN | apply Kd.R_drew)); exact HO297.out))) (Kd.R_lt (by (with_reducible repeat (first | apply Kd.R_alloc | apply Kd.R_drewN | apply Kd.R_drew)); exact HO301.out))) (Kd.R_lt (by (with_reducible repeat (first | apply Kd.R_alloc | apply Kd.R_drewN | apply Kd.R_drew)); exact HO305.out))) (below_size (by repeat (first | (with_reducible first | exact HB.out | apply below_alloc | apply pw_below_drewN | apply below_drew1 | refine below_set ?_ (IsS25.ge HI284.out) | refine below_set ?_ GE290.out) | exact HB.out))))
  have n6_ := Aside0.mk (IsS25.below (by repeat (first | (with_reducible first | exact HI284.out | apply IsS25.alloc | apply IsS25.drewN | apply IsS25.drew | apply IsS25.set_1 | refine IsS25.far ?_ NB284_290.out _) | exact HI284.out)) hb)
  have n7_ := Aside0.mk (blk_below (g := gb290) (o := .cells #[.int .i64 t285, .int .i64 t286, .int .i64 t287, .int .u64 t288] 28 (0, 0)) (by (with_reducible repeat (first | refine blk_drewN ?_ _ | refine blk_drew ?_ | refine blk_alloc ?_ _)); exact BK290.out) hb)
  have n8_ := Aside0.mk (below_step (by repeat (first | (with_reducible first | exact HB.out | apply below_alloc | apply pw_below_drewN | apply below_drew1 | refine below_set ?_ (IsS25.ge HI284.out) | refine below_set ?_ GE290.out) | exact HB.out)) hb)
  clear HO293
  clear HO297
  clear HO301
  clear HO305
  clear HO309
  clear HI284
  clear BK290
  clear HB
  have HO293 := n0_
  have HO297 := n1_
  have HO301 := n2_
  have HO305 := n3_
  have HO309 := n4_
  have HO312 := n5_
  have HI284 := n6_
  have BK290 := n7_
  have HB := n8_
  clear n0_ n1_ n2_ n3_ n4_ n5_ n6_ n7_ n8_
  (try clear hb)
  (try clear hb2)
  (try clear hk)
  (try clear hi)
  (try clear ho0)
  obtain ⟨Ao29, co29, eo29⟩ := Kd.R_slice HO312.out
  (first | subst eo29 | (injection eo29 with f1_ f2_ f3_; have f4_ := f1_.symm; have f5_ := f3_.symm; clear f1_ f2_ f3_; subst f4_; subst f5_))
  refine hK.out _ _ ⟨(blk_cell BK290.out 0).trans rfl, (blk_cell BK290.out 1).trans rfl, (blk_cell BK290.out 2).trans rfl, (blk_cell BK290.out 3).trans rfl⟩ (fun hHeld => ?_)
  clear hK K
  refine norm_ (a' := ?_) ?_ ?_
  rotate_left
  · show Act.put _ (some 33) _ = _
    simp only [Act.put, List.setIfInBounds_toArray, List.set_cons_zero, List.set_cons_succ, i64_w, i32_w]
    rfl
  refine one_ (i := 6) (N := some 34) #[true, true, true, true, true, true, true, false, false, false, false, false] rfl rfl (one_of HT_.out (by kernel_rfl)) (by decide) (fun K hK => ?_)
  refine goes_ Try.func16 (by kernel_rfl) rfl #[.agg #[.int .i64 t285, .int .i64 t286, .int .i64 t287, .int .u64 t288], .slice Ao29 t310.length co29] (by rfl) rfl rfl (by (try simp only [List.map_toArray, List.map_cons, List.map_nil]); first | done | rfl | (simp only [List.length_drop, List.length_take]; rfl)) ?_
  with_reducible refine (stockyardlaw24_ends.calls t285 t286 t287 t288 _ _ t310 t313 t316 _ ?side1 ?side2 A8.out).mono ?_
  (case side1 => repeat (first | exact (Kd.R_reads' HO312.out).2.2 | (with_reducible refine Kd.C_alloc ?_ _) | (with_reducible refine Kd.C_drewN ?_ _) | (with_reducible refine Kd.C_drew ?_)))
  (case side2 => exact (Kd.R_reads' HO312.out).2.1)
  rintro e w30 ⟨v314, rfl, ho0, hb⟩
  refine ⟨_, rfl, ?_⟩
  have n0_ := Aside0.mk (Kd.R_below (by (with_reducible repeat (first | apply Kd.R_alloc | apply Kd.R_drewN | apply Kd.R_drew)); exact HO293.out) hb)
  have n1_ := Aside0.mk (Kd.R_below (by (with_reducible repeat (first | apply Kd.R_alloc | apply Kd.R_drewN | apply Kd.R_drew)); exact HO297.out) hb)
  have n2_ := Aside0.mk (Kd.R_below (by (with_reducible repeat (first | apply Kd.R_alloc | apply Kd.R_drewN | apply Kd.R_drew)); exact HO301.out) hb)
  have n3_ := Aside0.mk (Kd.R_below (by (with_reducible repeat (first | apply Kd.R_alloc | apply Kd.R_drewN | apply Kd.R_drew)); exact HO305.out) hb)
  have n4_ := Aside0.mk (Kd.N_elder' (by (with_reducible repeat (first | apply Kd.N_alloc | apply Kd.N_drewN | apply Kd.N_drew)); exact HO309.out) (Kd.R_base ho0) hb)
  have n5_ := Aside0.mk (Kd.R_below (by (with_reducible repeat (first | apply Kd.R_alloc | apply Kd.R_drewN | apply Kd.R_drew)); exact HO312.out) hb)
  have n6_ := Aside0.mk (Kd.R_lower ho0 (below_size (by repeat (first | (with_reducible first | exact HB.out | apply below_alloc | apply pw_below_drewN | apply below_drew1 | refine below_set ?_ (IsS25.ge HI284.out) | refine below_set ?_ GE290.out) | exact HB.out))))
  have n7_ := Aside0.mk (IsS25.below (by repeat (first | (with_reducible first | exact HI284.out | apply IsS25.alloc | apply IsS25.drewN | apply IsS25.drew | apply IsS25.set_1 | refine IsS25.far ?_ NB284_290.out _) | exact HI284.out)) hb)
  have n8_ := Aside0.mk (blk_below (g := gb290) (o := .cells #[.int .i64 t285, .int .i64 t286, .int .i64 t287, .int .u64 t288] 28 (0, 0)) (by (with_reducible repeat (first | refine blk_drewN ?_ _ | refine blk_drew ?_ | refine blk_alloc ?_ _)); exact BK290.out) hb)
  have n9_ := Aside0.mk (below_step (by repeat (first | (with_reducible first | exact HB.out | apply below_alloc | apply pw_below_drewN | apply below_drew1 | refine below_set ?_ (IsS25.ge HI284.out) | refine below_set ?_ GE290.out) | exact HB.out)) hb)
  clear HO293
  clear HO297
  clear HO301
  clear HO305
  clear HO309
  clear HO312
  clear HI284
  clear BK290
  clear HB
  have HO293 := n0_
  have HO297 := n1_
  have HO301 := n2_
  have HO305 := n3_
  have HO309 := n4_
  have HO312 := n5_
  have HO315 := n6_
  have HI284 := n7_
  have BK290 := n8_
  have HB := n9_
  clear n0_ n1_ n2_ n3_ n4_ n5_ n6_ n7_ n8_ n9_
  (try clear hb)
  (try clear hb2)
  (try clear hk)
  (try clear hi)
  (try clear ho0)
  refine hK.out _ _ ⟨(blk_cell BK290.out 0).trans rfl, (blk_cell BK290.out 1).trans rfl, (blk_cell BK290.out 2).trans rfl, (blk_cell BK290.out 3).trans rfl⟩ (fun hHeld => ?_)
  clear hK K
  refine norm_ (a' := ?_) ?_ ?_
  rotate_left
  · show Act.put _ (some 34) _ = _
    simp only [Act.put, List.setIfInBounds_toArray, List.set_cons_zero, List.set_cons_succ, i64_w, i32_w]
    rfl
  refine pure_ (i := 7) (N := some 27) (v := ?_) (a' := ?_) #[true, true, true, true, true, true, true, true, false, false, false, false] rfl rfl (any_of HT_.out (by kernel_rfl)) (fun _ _ _ h => h) (Or.inl ⟨by rfl, ?_⟩) ?_ ?_
  rotate_left
  · intro w'
    go_simp
    with_reducible rfl
  rotate_left
  · simp only [Act.put, List.setIfInBounds_toArray, List.set_cons_zero, List.set_cons_succ, i64_w, i32_w]
    rfl
  refine pure_ (i := 8) (N := some 35) (v := ?_) (a' := ?_) #[true, true, true, true, true, true, true, true, true, false, false, false] rfl rfl (any_of HT_.out (by kernel_rfl)) (fun _ _ _ h => h) (Or.inl ⟨by rfl, ?_⟩) ?_ ?_
  rotate_left
  · intro w'
    go_simp
    with_reducible rfl
  rotate_left
  · simp only [Act.put, List.setIfInBounds_toArray, List.set_cons_zero, List.set_cons_succ, i64_w, i32_w]
    rfl
  refine pure_ (i := 9) (N := some 36) (v := ?_) (a' := ?_) #[true, true, true, true, true, true, true, true, true, true, false, false] rfl rfl (any_of HT_.out (by kernel_rfl)) (fun _ _ _ h => h) (Or.inl ⟨by rfl, ?_⟩) ?_ ?_
  rotate_left
  · intro w'
    go_simp
    with_reducible rfl
  rotate_left
  · simp only [Act.put, List.setIfInBounds_toArray, List.set_cons_zero, List.set_cons_succ, i64_w, i32_w]
    rfl
  refine pure_ (i := 10) (N := some 9) (v := ?_) (a' := ?_) #[true, true, true, true, true, true, true, true, true, true, true, false] rfl rfl (any_of HT_.out (by kernel_rfl)) (fun _ _ _ h => h) (Or.inl ⟨by rfl, ?_⟩) ?_ ?_
  rotate_left
  · intro w'
    go_simp
    with_reducible rfl
  rotate_left
  · simp only [Act.put, List.setIfInBounds_toArray, List.set_cons_zero, List.set_cons_succ, i64_w, i32_w]
    rfl
  refine pure_ (i := 11) (N := some 10) (v := ?_) (a' := ?_) #[true, true, true, true, true, true, true, true, true, true, true, true] rfl rfl (any_of HT_.out (by kernel_rfl)) (fun _ _ _ h => h) (Or.inl ⟨by rfl, ?_⟩) ?_ ?_
  rotate_left
  · intro w'
    go_simp
    with_reducible rfl
  rotate_left
  · simp only [Act.put, List.setIfInBounds_toArray, List.set_cons_zero, List.set_cons_succ, i64_w, i32_w]
    rfl
  refine done_ (done_of HT_.out (by kernel_rfl)) ?_
  try go_wp2
  have n0_ := Aside0.mk (Kd.R_drew HO293.out)
  have n1_ := Aside0.mk (Kd.R_drew HO297.out)
  have n2_ := Aside0.mk (Kd.R_drew HO301.out)
  have n3_ := Aside0.mk (Kd.R_drew HO305.out)
  have n4_ := Aside0.mk (Kd.N_drew HO309.out)
  have n5_ := Aside0.mk (Kd.R_drew HO312.out)
  have n6_ := Aside0.mk (Kd.R_drew HO315.out)
  have n7_ := Aside0.mk (blk_drew BK290.out)
  have n8_ := Aside0.mk (IsS25.drew HI284.out)
  have n9_ := Aside0.mk (below_drew1 HB.out)
  clear HO293
  clear HO297
  clear HO301
  clear HO305
  clear HO309
  clear HO312
  clear HO315
  clear BK290
  clear HI284
  clear HB
  have HO293 := n0_
  have HO297 := n1_
  have HO301 := n2_
  have HO305 := n3_
  have HO309 := n4_
  have HO312 := n5_
  have HO315 := n6_
  have BK290 := n7_
  have HI284 := n8_
  have HB := n9_
  clear n0_ n1_ n2_ n3_ n4_ n5_ n6_ n7_ n8_ n9_
  obtain ⟨Ao32, co32, eo32⟩ := Kd.R_slice HO301.out
  (first | subst eo32 | (injection eo32 with f1_ f2_ f3_; have f4_ := f1_.symm; have f5_ := f3_.symm; clear f1_ f2_ f3_; subst f4_; subst f5_))
  refine start_ (n := 12) (S := fun w' => w'.cell? ⟨gb290, 0, none⟩ = some (.int .i64 t285) ∧ w'.cell? ⟨gb290, 1, none⟩ = some (.int .i64 t286) ∧ w'.cell? ⟨gb290, 2, none⟩ = some (.int .i64 t287) ∧ w'.cell? ⟨gb290, 3, none⟩ = some (.int .u64 t288)) (ds := []) #[false, false, false, false, false, false, false, false, false, false, false, false] (by kernel_rfl) rfl rfl ⟨(blk_cell BK290.out 0).trans rfl, (blk_cell BK290.out 1).trans rfl, (blk_cell BK290.out 2).trans rfl, (blk_cell BK290.out 3).trans rfl⟩ (fun hHeld => ?_); refine with_tabW stockyardlaw24_ChunkerEdit.tab5 stockyardlaw24_ChunkerEdit.bits5 (fun HT_ HW_ => ?_)
  generalize w30.drew = w31 at HO293 HO297 HO301 HO305 HO309 HO312 HO315 BK290 HI284 HB hHeld ⊢
  refine pure_ (i := 1) (N := some 39) (v := ?_) (a' := ?_) #[false, true, false, false, false, false, false, false, false, false, false, false] rfl rfl (any_of HT_.out (by kernel_rfl)) (fun _ _ _ h => h) (Or.inl ⟨by rfl, ?_⟩) ?_ ?_
  rotate_left
  · intro w'
    go_simp
    with_reducible rfl
  rotate_left
  · simp only [Act.put, List.setIfInBounds_toArray, List.set_cons_zero, List.set_cons_succ, i64_w, i32_w]
    rfl
  refine pure_ (i := 2) (N := some 40) (v := ?_) (a' := ?_) #[false, true, true, false, false, false, false, false, false, false, false, false] rfl rfl (any_of HT_.out (by kernel_rfl)) (fun _ _ _ h => h) (Or.inl ⟨by rfl, ?_⟩) ?_ ?_
  rotate_left
  · intro w'
    go_simp
    with_reducible rfl
  rotate_left
  · simp only [Act.put, List.setIfInBounds_toArray, List.set_cons_zero, List.set_cons_succ, i64_w, i32_w]
    rfl
  refine pure_ (i := 3) (N := some 41) (v := ?_) (a' := ?_) #[false, true, true, true, false, false, false, false, false, false, false, false] rfl rfl (any_of HT_.out (by kernel_rfl)) (fun _ _ _ h => h) (Or.inl ⟨by rfl, ?_⟩) ?_ ?_
  rotate_left
  · intro w'
    go_simp
    with_reducible rfl
  rotate_left
  · simp only [Act.put, List.setIfInBounds_toArray, List.set_cons_zero, List.set_cons_succ, i64_w, i32_w]
    rfl
  refine take_ (i := 0) (N := some 38) (v := ?_) (a' := ?_) #[true, true, true, true, false, false, false, false, false, false, false, false] rfl rfl (take_ofW HT_.out HW_.out (by kernel_rfl)) (fun _ _ _ h => h) (Or.inl ⟨by rfl, ?_⟩) hHeld ?_ ?_
  rotate_left
  · rintro w' ⟨s0, s1, s2, s3⟩
    go_simp
    with_reducible rfl
  rotate_left
  · simp only [Act.put, List.setIfInBounds_toArray, List.set_cons_zero, List.set_cons_succ, i64_w, i32_w]
    rfl
  refine one_ (i := 4) (N := some 42) #[true, true, true, true, true, false, false, false, false, false, false, false] rfl rfl (one_of HT_.out (by kernel_rfl)) (by decide) (fun K hK => ?_)
  refine Kd.N_lit_step (Kd.slice 5 (Kd.int .u8)) _ 30 ?hg (N' := 42) ?hd (xs := ([t291, t299, t303] : List (List Int))) (inner := [.slice Ao22 t291.length co22, .slice Ao32 t299.length co32, .slice Ao24 t303.length co24]) (ok := (fun k_ => some k_ ≠ (.slice Ao23 t295.length co23 : Value).ownBlock ∧ some k_ ≠ (.slice Ao27 y307.length co27 : Value).ownBlock ∧ some k_ ≠ (.slice Ao29 t310.length co29 : Value).ownBlock ∧ some k_ ≠ (v314 : Value).ownBlock ∧ k_ ≠ gb290 ∧ k_ ≠ gb284)) (okp := (fun k_ => some k_ ≠ (.slice Ao23 t295.length co23 : Value).ownBlock ∧ some k_ ≠ (.slice Ao27 y307.length co27 : Value).ownBlock ∧ some k_ ≠ (.slice Ao29 t310.length co29 : Value).ownBlock ∧ some k_ ≠ (v314 : Value).ownBlock ∧ k_ ≠ gb290 ∧ k_ ≠ gb284)) ?hr ?hp (fun _ hk => hk) ((show ∀ k_, w31.heap.size ≤ k_ → (fun k_ => some k_ ≠ (.slice Ao23 t295.length co23 : Value).ownBlock ∧ some k_ ≠ (.slice Ao27 y307.length co27 : Value).ownBlock ∧ some k_ ≠ (.slice Ao29 t310.length co29 : Value).ownBlock ∧ some k_ ≠ (v314 : Value).ownBlock ∧ k_ ≠ gb290 ∧ k_ ≠ gb284) k_ from fun k_ hk => ⟨Kd.fresh' (Kd.R_lt (by (with_reducible repeat (first | apply Kd.R_alloc | apply Kd.R_drewN | apply Kd.R_drew)); exact HO297.out)) k_ hk, Kd.fresh' (Kd.N_lt (by (with_reducible repeat (first | apply Kd.N_alloc | apply Kd.N_drewN | apply Kd.N_drew)); exact HO309.out)) k_ hk, Kd.fresh' (Kd.R_lt (by (with_reducible repeat (first | apply Kd.R_alloc | apply Kd.R_drewN | apply Kd.R_drew)); exact HO312.out)) k_ hk, Kd.fresh' (Kd.R_lt (by (with_reducible repeat (first | apply Kd.R_alloc | apply Kd.R_drewN | apply Kd.R_drew)); exact HO315.out)) k_ hk, Kd.freshB (g := gb290) (o := .cells #[.int .i64 t285, .int .i64 t286, .int .i64 t287, .int .u64 t288] 28 (0, 0)) (by (with_reducible repeat (first | refine blk_drewN ?_ _ | refine blk_drew ?_ | refine blk_alloc ?_ _)); exact BK290.out) k_ hk, IsS25.fresh (by repeat (first | (with_reducible first | exact HI284.out | apply IsS25.alloc | apply IsS25.drewN | apply IsS25.drew | apply IsS25.set_1 | refine IsS25.far ?_ NB284_290.out _) | exact HI284.out)) k_ hk⟩) _ (Nat.le_refl _)) (Below.refl _ _) (Nat.le_refl _) (by simp) ?_; (case hd => rfl); (case hg => rfl); (case hr => first | (go_simp; done) | (go_simp; rfl)); (case hp => exact (Reps.one (show Kd.FK (Kd.slice 5 (Kd.int .u8)) _ _ t291 [.slice Ao22 t291.length co22] from (Kd.FK_slice_mk (Kd.R_reads' (Kd.R_mono (ok' := (fun k_ => some k_ ≠ (.slice Ao23 t295.length co23 : Value).ownBlock ∧ some k_ ≠ (.slice Ao27 y307.length co27 : Value).ownBlock ∧ some k_ ≠ (.slice Ao29 t310.length co29 : Value).ownBlock ∧ some k_ ≠ (v314 : Value).ownBlock ∧ k_ ≠ gb290 ∧ k_ ≠ gb284)) (IsS25.apart HI284.out (Kd.R_types (Kd.R_apart' (Kd.R_apart' (HO293.out) (Kd.N_typed HO309.out) (by decide)) (Kd.R_typed HO315.out) (by decide)) BK290.out (by decide)) (by decide)) (fun k_ hk => ⟨hk.1.1.1.1.1.1.1.2, ⟨hk.1.1.1.2, ⟨hk.1.1.1.1.2, ⟨hk.1.1.2, ⟨hk.1.2, hk.2⟩⟩⟩⟩⟩))).2.1 (Kd.R_F (Kd.R_mono (ok' := (fun k_ => some k_ ≠ (.slice Ao23 t295.length co23 : Value).ownBlock ∧ some k_ ≠ (.slice Ao27 y307.length co27 : Value).ownBlock ∧ some k_ ≠ (.slice Ao29 t310.length co29 : Value).ownBlock ∧ some k_ ≠ (v314 : Value).ownBlock ∧ k_ ≠ gb290 ∧ k_ ≠ gb284)) (IsS25.apart HI284.out (Kd.R_types (Kd.R_apart' (Kd.R_apart' (HO293.out) (Kd.N_typed HO309.out) (by decide)) (Kd.R_typed HO315.out) (by decide)) BK290.out (by decide)) (by decide)) (fun k_ hk => ⟨hk.1.1.1.1.1.1.1.2, ⟨hk.1.1.1.2, ⟨hk.1.1.1.1.2, ⟨hk.1.1.2, ⟨hk.1.2, hk.2⟩⟩⟩⟩⟩))))) (Reps.one (show Kd.FK (Kd.slice 5 (Kd.int .u8)) _ _ t299 [.slice Ao32 t299.length co32] from (Kd.FK_slice_mk (Kd.R_reads' (Kd.R_mono (ok' := (fun k_ => some k_ ≠ (.slice Ao23 t295.length co23 : Value).ownBlock ∧ some k_ ≠ (.slice Ao27 y307.length co27 : Value).ownBlock ∧ some k_ ≠ (.slice Ao29 t310.length co29 : Value).ownBlock ∧ some k_ ≠ (v314 : Value).ownBlock ∧ k_ ≠ gb290 ∧ k_ ≠ gb284)) (IsS25.apart HI284.out (Kd.R_types (Kd.R_apart' (Kd.R_apart' (HO301.out) (Kd.N_typed HO309.out) (by decide)) (Kd.R_typed HO315.out) (by decide)) BK290.out (by decide)) (by decide)) (fun k_ hk => ⟨hk.1.1.1.1.1.1.2, ⟨hk.1.1.1.2, ⟨hk.1.1.1.1.2, ⟨hk.1.1.2, ⟨hk.1.2, hk.2⟩⟩⟩⟩⟩))).2.1 (Kd.R_F (Kd.R_mono (ok' := (fun k_ => some k_ ≠ (.slice Ao23 t295.length co23 : Value).ownBlock ∧ some k_ ≠ (.slice Ao27 y307.length co27 : Value).ownBlock ∧ some k_ ≠ (.slice Ao29 t310.length co29 : Value).ownBlock ∧ some k_ ≠ (v314 : Value).ownBlock ∧ k_ ≠ gb290 ∧ k_ ≠ gb284)) (IsS25.apart HI284.out (Kd.R_types (Kd.R_apart' (Kd.R_apart' (HO301.out) (Kd.N_typed HO309.out) (by decide)) (Kd.R_typed HO315.out) (by decide)) BK290.out (by decide)) (by decide)) (fun k_ hk => ⟨hk.1.1.1.1.1.1.2, ⟨hk.1.1.1.2, ⟨hk.1.1.1.1.2, ⟨hk.1.1.2, ⟨hk.1.2, hk.2⟩⟩⟩⟩⟩))))) (Reps.one (show Kd.FK (Kd.slice 5 (Kd.int .u8)) _ _ t303 [.slice Ao24 t303.length co24] from (Kd.FK_slice_mk (Kd.R_reads' (Kd.R_mono (ok' := (fun k_ => some k_ ≠ (.slice Ao23 t295.length co23 : Value).ownBlock ∧ some k_ ≠ (.slice Ao27 y307.length co27 : Value).ownBlock ∧ some k_ ≠ (.slice Ao29 t310.length co29 : Value).ownBlock ∧ some k_ ≠ (v314 : Value).ownBlock ∧ k_ ≠ gb290 ∧ k_ ≠ gb284)) (IsS25.apart HI284.out (Kd.R_types (Kd.R_apart' (Kd.R_apart' (HO305.out) (Kd.N_typed HO309.out) (by decide)) (Kd.R_typed HO315.out) (by decide)) BK290.out (by decide)) (by decide)) (fun k_ hk => ⟨hk.1.1.1.1.1.1.2, ⟨hk.1.1.1.2, ⟨hk.1.1.1.1.2, ⟨hk.1.1.2, ⟨hk.1.2, hk.2⟩⟩⟩⟩⟩))).2.1 (Kd.R_F (Kd.R_mono (ok' := (fun k_ => some k_ ≠ (.slice Ao23 t295.length co23 : Value).ownBlock ∧ some k_ ≠ (.slice Ao27 y307.length co27 : Value).ownBlock ∧ some k_ ≠ (.slice Ao29 t310.length co29 : Value).ownBlock ∧ some k_ ≠ (v314 : Value).ownBlock ∧ k_ ≠ gb290 ∧ k_ ≠ gb284)) (IsS25.apart HI284.out (Kd.R_types (Kd.R_apart' (Kd.R_apart' (HO305.out) (Kd.N_typed HO309.out) (by decide)) (Kd.R_typed HO315.out) (by decide)) BK290.out (by decide)) (by decide)) (fun k_ hk => ⟨hk.1.1.1.1.1.1.2, ⟨hk.1.1.1.2, ⟨hk.1.1.1.1.2, ⟨hk.1.1.2, ⟨hk.1.2, hk.2⟩⟩⟩⟩⟩))))) (Reps.none _ _)))))
  intro v318 w33 ho34 hb hg_ hnew_
  clear hg_ hnew_
  (first | rw [← Ny317.out] at ho34 | (simp only [Int.reduceToNat] at ho34; rw [← Ny317.out] at ho34))
  have n0_ := Aside0.mk (Kd.R_below (by (with_reducible repeat (first | apply Kd.R_alloc | apply Kd.R_drewN | apply Kd.R_drew)); exact HO293.out) hb)
  have n1_ := Aside0.mk (Kd.R_below (by (with_reducible repeat (first | apply Kd.R_alloc | apply Kd.R_drewN | apply Kd.R_drew)); exact HO297.out) hb)
  have n2_ := Aside0.mk (Kd.R_below (by (with_reducible repeat (first | apply Kd.R_alloc | apply Kd.R_drewN | apply Kd.R_drew)); exact HO301.out) hb)
  have n3_ := Aside0.mk (Kd.R_below (by (with_reducible repeat (first | apply Kd.R_alloc | apply Kd.R_drewN | apply Kd.R_drew)); exact HO305.out) hb)
  have n4_ := Aside0.mk (Kd.N_elder' (by (with_reducible repeat (first | apply Kd.N_alloc | apply Kd.N_drewN | apply Kd.N_drew)); exact HO309.out) (Kd.N_base ho34) hb)
  have n5_ := Aside0.mk (Kd.R_below (by (with_reducible repeat (first | apply Kd.R_alloc | apply Kd.R_drewN | apply Kd.R_drew)); exact HO312.out) hb)
  have n6_ := Aside0.mk (Kd.R_below (by (with_reducible repeat (first | apply Kd.R_alloc | apply Kd.R_drewN | apply Kd.R_drew)); exact HO315.out) hb)
  have n7_ := Aside0.mk (Kd.N_lower ho34 (below_size (by repeat (first | (with_reducible first | exact HB.out | apply below_alloc | apply pw_below_drewN | apply below_drew1 | refine below_set ?_ (IsS25.ge HI284.out) | refine below_set ?_ GE290.out) | exact HB.out))))
  have n8_ := Aside0.mk (IsS25.below (by repeat (first | (with_reducible first | exact HI284.out | apply IsS25.alloc | apply IsS25.drewN | apply IsS25.drew | apply IsS25.set_1 | refine IsS25.far ?_ NB284_290.out _) | exact HI284.out)) hb)
  have n9_ := Aside0.mk (blk_below (g := gb290) (o := .cells #[.int .i64 t285, .int .i64 t286, .int .i64 t287, .int .u64 t288] 28 (0, 0)) (by (with_reducible repeat (first | refine blk_drewN ?_ _ | refine blk_drew ?_ | refine blk_alloc ?_ _)); exact BK290.out) hb)
  have n10_ := Aside0.mk (below_step (by repeat (first | (with_reducible first | exact HB.out | apply below_alloc | apply pw_below_drewN | apply below_drew1 | refine below_set ?_ (IsS25.ge HI284.out) | refine below_set ?_ GE290.out) | exact HB.out)) hb)
  clear HO293
  clear HO297
  clear HO301
  clear HO305
  clear HO309
  clear HO312
  clear HO315
  clear HI284
  clear BK290
  clear HB
  have HO293 := n0_
  have HO297 := n1_
  have HO301 := n2_
  have HO305 := n3_
  have HO309 := n4_
  have HO312 := n5_
  have HO315 := n6_
  have HO319 := n7_
  have HI284 := n8_
  have BK290 := n9_
  have HB := n10_
  clear n0_ n1_ n2_ n3_ n4_ n5_ n6_ n7_ n8_ n9_ n10_
  clear hb ho34
  obtain ⟨Ao35, co35, eo35⟩ := Kd.N_slice HO319.out
  (first | subst eo35 | (injection eo35 with f1_ f2_ f3_; have f4_ := f1_.symm; have f5_ := f3_.symm; clear f1_ f2_ f3_; subst f4_; subst f5_))
  refine hK.out _ _ ⟨(blk_cell BK290.out 0).trans rfl, (blk_cell BK290.out 1).trans rfl, (blk_cell BK290.out 2).trans rfl, (blk_cell BK290.out 3).trans rfl⟩ (fun hHeld => ?_)
  clear hK K
  refine norm_ (a' := ?_) ?_ ?_
  rotate_left
  · show Act.put _ (some 42) _ = _
    simp only [Act.put, List.setIfInBounds_toArray, List.set_cons_zero, List.set_cons_succ, i64_w, i32_w]
    rfl
  refine one_ (i := 5) (N := some 43) #[true, true, true, true, true, true, false, false, false, false, false, false] rfl rfl (one_of HT_.out (by kernel_rfl)) (by decide) (fun K hK => ?_)
  refine goes_ Try.func19 (by kernel_rfl) rfl #[.slice Ao35 y317.length co35] (by rfl) rfl rfl (by (try simp only [List.map_toArray, List.map_cons, List.map_nil]); first | done | rfl | (simp only [List.length_drop, List.length_take]; rfl)) ?_
  with_reducible refine (stockyardmake_Joined.calls k _ _ y317 t320 _ ?side1 ?side2 A9.out).mono ?_
  (case side1 => repeat (first | exact (Kd.N_reads' HO319.out).2.2 | (with_reducible refine Kd.C_alloc ?_ _) | (with_reducible refine Kd.C_drewN ?_ _) | (with_reducible refine Kd.C_drew ?_)))
  (case side2 => exact (Kd.N_reads' HO319.out).2.1)
  rintro e w36 ⟨v321, rfl, ho0, hb⟩
  refine ⟨_, rfl, ?_⟩
  have n0_ := Aside0.mk (Kd.R_elder' (by (with_reducible repeat (first | apply Kd.R_alloc | apply Kd.R_drewN | apply Kd.R_drew)); exact HO293.out) (Kd.R_base ho0) hb)
  have n1_ := Aside0.mk (Kd.R_elder' (by (with_reducible repeat (first | apply Kd.R_alloc | apply Kd.R_drewN | apply Kd.R_drew)); exact HO297.out) (Kd.R_base ho0) hb)
  have n2_ := Aside0.mk (Kd.R_elder' (by (with_reducible repeat (first | apply Kd.R_alloc | apply Kd.R_drewN | apply Kd.R_drew)); exact HO301.out) (Kd.R_base ho0) hb)
  have n3_ := Aside0.mk (Kd.R_elder' (by (with_reducible repeat (first | apply Kd.R_alloc | apply Kd.R_drewN | apply Kd.R_drew)); exact HO305.out) (Kd.R_base ho0) hb)
  have n4_ := Aside0.mk (Kd.N_elder' (by (with_reducible repeat (first | apply Kd.N_alloc | apply Kd.N_drewN | apply Kd.N_drew)); exact HO309.out) (Kd.R_base ho0) hb)
  have n5_ := Aside0.mk (Kd.R_elder' (by (with_reducible repeat (first | apply Kd.R_alloc | apply Kd.R_drewN | apply Kd.R_drew)); exact HO312.out) (Kd.R_base ho0) hb)
  have n6_ := Aside0.mk (Kd.R_below (by (with_reducible repeat (first | apply Kd.R_alloc | apply Kd.R_drewN | apply Kd.R_drew)); exact HO315.out) hb)
  have n7_ := Aside0.mk (Kd.N_elder' (by (with_reducible repeat (first | apply Kd.N_alloc | apply Kd.N_drewN | apply Kd.N_drew)); exact HO319.out) (Kd.R_base ho0) hb)
  have n8_ := Aside0.mk (Kd.R_lower (Kd.R_new' (Kd.R_new' (Kd.R_new' (Kd.R_new' (Kd.R_new' ho0 (Kd.R_lt (by (with_reducible repeat (first | apply Kd.R_alloc | apply Kd.R_drewN | apply Kd.R_drew)); exact HO293.out))) (Kd.R_lt (by (with_reducible repeat (first | apply Kd.R_alloc | apply Kd.R_drewN | apply Kd.R_drew)); exact HO297.out))) (Kd.R_lt (by (with_reducible repeat (first | apply Kd.R_alloc | apply Kd.R_drewN | apply Kd.R_drew)); exact HO301.out))) (Kd.R_lt (by (with_reducible repeat (first | apply Kd.R_alloc | apply Kd.R_drewN | apply Kd.R_drew)); exact HO305.out))) (Kd.R_lt (by (with_reducible repeat (first | apply Kd.R_alloc | apply Kd.R_drewN | apply Kd.R_drew)); exact HO312.out))) (below_size (by repeat (first | (with_reducible first | exact HB.out | apply below_alloc | apply pw_below_drewN | apply below_drew1 | refine below_set ?_ (IsS25.ge HI284.out) | refine below_set ?_ GE290.out) | exact HB.out))))
  have n9_ := Aside0.mk (IsS25.below (by repeat (first | (with_reducible first | exact HI284.out | apply IsS25.alloc | apply IsS25.drewN | apply IsS25.drew | apply IsS25.set_1 | refine IsS25.far ?_ NB284_290.out _) | exact HI284.out)) hb)
  have n10_ := Aside0.mk (blk_below (g := gb290) (o := .cells #[.int .i64 t285, .int .i64 t286, .int .i64 t287, .int .u64 t288] 28 (0, 0)) (by (with_reducible repeat (first | refine blk_drewN ?_ _ | refine blk_drew ?_ | refine blk_alloc ?_ _)); exact BK290.out) hb)
  have n11_ := Aside0.mk (below_step (by repeat (first | (with_reducible first | exact HB.out | apply below_alloc | apply pw_below_drewN | apply below_drew1 | refine below_set ?_ (IsS25.ge HI284.out) | refine below_set ?_ GE290.out) | exact HB.out)) hb)
  clear HO293
  clear HO297
  clear HO301
  clear HO305
  clear HO309
  clear HO312
  clear HO315
  clear HO319
  clear HI284
  clear BK290
  clear HB
  have HO293 := n0_
  have HO297 := n1_
  have HO301 := n2_
  have HO305 := n3_
  have HO309 := n4_
  have HO312 := n5_
  have HO315 := n6_
  have HO319 := n7_
  have HO322 := n8_
  have HI284 := n9_
  have BK290 := n10_
  have HB := n11_
  clear n0_ n1_ n2_ n3_ n4_ n5_ n6_ n7_ n8_ n9_ n10_ n11_
  (try clear hb)
  (try clear hb2)
  (try clear hk)
  (try clear hi)
  (try clear ho0)
  obtain ⟨Ao37, co37, eo37⟩ := Kd.R_slice HO322.out
  (first | subst eo37 | (injection eo37 with f1_ f2_ f3_; have f4_ := f1_.symm; have f5_ := f3_.symm; clear f1_ f2_ f3_; subst f4_; subst f5_))
  refine hK.out _ _ ⟨(blk_cell BK290.out 0).trans rfl, (blk_cell BK290.out 1).trans rfl, (blk_cell BK290.out 2).trans rfl, (blk_cell BK290.out 3).trans rfl⟩ (fun hHeld => ?_)
  clear hK K
  refine norm_ (a' := ?_) ?_ ?_
  rotate_left
  · show Act.put _ (some 43) _ = _
    simp only [Act.put, List.setIfInBounds_toArray, List.set_cons_zero, List.set_cons_succ, i64_w, i32_w]
    rfl
  refine one_ (i := 6) (N := some 44) #[true, true, true, true, true, true, true, false, false, false, false, false] rfl rfl (one_of HT_.out (by kernel_rfl)) (by decide) (fun K hK => ?_)
  refine goes_ Try.func16 (by kernel_rfl) rfl #[.agg #[.int .i64 t285, .int .i64 t286, .int .i64 t287, .int .u64 t288], .slice Ao37 t320.length co37] (by rfl) rfl rfl (by (try simp only [List.map_toArray, List.map_cons, List.map_nil]); first | done | rfl | (simp only [List.length_drop, List.length_take]; rfl)) ?_
  with_reducible refine (stockyardlaw24_ends.calls t285 t286 t287 t288 _ _ t320 t323 t326 _ ?side1 ?side2 A10.out).mono ?_
  (case side1 => repeat (first | exact (Kd.R_reads' HO322.out).2.2 | (with_reducible refine Kd.C_alloc ?_ _) | (with_reducible refine Kd.C_drewN ?_ _) | (with_reducible refine Kd.C_drew ?_)))
  (case side2 => exact (Kd.R_reads' HO322.out).2.1)
  rintro e w38 ⟨v324, rfl, ho0, hb⟩
  refine ⟨_, rfl, ?_⟩
  have n0_ := Aside0.mk (Kd.R_below (by (with_reducible repeat (first | apply Kd.R_alloc | apply Kd.R_drewN | apply Kd.R_drew)); exact HO293.out) hb)
  have n1_ := Aside0.mk (Kd.R_below (by (with_reducible repeat (first | apply Kd.R_alloc | apply Kd.R_drewN | apply Kd.R_drew)); exact HO297.out) hb)
  have n2_ := Aside0.mk (Kd.R_below (by (with_reducible repeat (first | apply Kd.R_alloc | apply Kd.R_drewN | apply Kd.R_drew)); exact HO301.out) hb)
  have n3_ := Aside0.mk (Kd.R_below (by (with_reducible repeat (first | apply Kd.R_alloc | apply Kd.R_drewN | apply Kd.R_drew)); exact HO305.out) hb)
  have n4_ := Aside0.mk (Kd.N_elder' (by (with_reducible repeat (first | apply Kd.N_alloc | apply Kd.N_drewN | apply Kd.N_drew)); exact HO309.out) (Kd.R_base ho0) hb)
  have n5_ := Aside0.mk (Kd.R_below (by (with_reducible repeat (first | apply Kd.R_alloc | apply Kd.R_drewN | apply Kd.R_drew)); exact HO312.out) hb)
  have n6_ := Aside0.mk (Kd.R_elder' (by (with_reducible repeat (first | apply Kd.R_alloc | apply Kd.R_drewN | apply Kd.R_drew)); exact HO315.out) (Kd.R_base ho0) hb)
  have n7_ := Aside0.mk (Kd.N_elder' (by (with_reducible repeat (first | apply Kd.N_alloc | apply Kd.N_drewN | apply Kd.N_drew)); exact HO319.out) (Kd.R_base ho0) hb)
  have n8_ := Aside0.mk (Kd.R_below (by (with_reducible repeat (first | apply Kd.R_alloc | apply Kd.R_drewN | apply Kd.R_drew)); exact HO322.out) hb)
  have n9_ := Aside0.mk (Kd.R_lower (Kd.R_new' ho0 (Kd.R_lt (by (with_reducible repeat (first | apply Kd.R_alloc | apply Kd.R_drewN | apply Kd.R_drew)); exact HO315.out))) (below_size (by repeat (first | (with_reducible first | exact HB.out | apply below_alloc | apply pw_below_drewN | apply below_drew1 | refine below_set ?_ (IsS25.ge HI284.out) | refine below_set ?_ GE290.out) | exact HB.out))))
  have n10_ := Aside0.mk (IsS25.below (by repeat (first | (with_reducible first | exact HI284.out | apply IsS25.alloc | apply IsS25.drewN | apply IsS25.drew | apply IsS25.set_1 | refine IsS25.far ?_ NB284_290.out _) | exact HI284.out)) hb)
  have n11_ := Aside0.mk (blk_below (g := gb290) (o := .cells #[.int .i64 t285, .int .i64 t286, .int .i64 t287, .int .u64 t288] 28 (0, 0)) (by (with_reducible repeat (first | refine blk_drewN ?_ _ | refine blk_drew ?_ | refine blk_alloc ?_ _)); exact BK290.out) hb)
  have n12_ := Aside0.mk (below_step (by repeat (first | (with_reducible first | exact HB.out | apply below_alloc | apply pw_below_drewN | apply below_drew1 | refine below_set ?_ (IsS25.ge HI284.out) | refine below_set ?_ GE290.out) | exact HB.out)) hb)
  clear HO293
  clear HO297
  clear HO301
  clear HO305
  clear HO309
  clear HO312
  clear HO315
  clear HO319
  clear HO322
  clear HI284
  clear BK290
  clear HB
  have HO293 := n0_
  have HO297 := n1_
  have HO301 := n2_
  have HO305 := n3_
  have HO309 := n4_
  have HO312 := n5_
  have HO315 := n6_
  have HO319 := n7_
  have HO322 := n8_
  have HO325 := n9_
  have HI284 := n10_
  have BK290 := n11_
  have HB := n12_
  clear n0_ n1_ n2_ n3_ n4_ n5_ n6_ n7_ n8_ n9_ n10_ n11_ n12_
  (try clear hb)
  (try clear hb2)
  (try clear hk)
  (try clear hi)
  (try clear ho0)
  refine hK.out _ _ ⟨(blk_cell BK290.out 0).trans rfl, (blk_cell BK290.out 1).trans rfl, (blk_cell BK290.out 2).trans rfl, (blk_cell BK290.out 3).trans rfl⟩ (fun hHeld => ?_)
  clear hK K
  refine norm_ (a' := ?_) ?_ ?_
  rotate_left
  · show Act.put _ (some 44) _ = _
    simp only [Act.put, List.setIfInBounds_toArray, List.set_cons_zero, List.set_cons_succ, i64_w, i32_w]
    rfl
  refine pure_ (i := 7) (N := some 37) (v := ?_) (a' := ?_) #[true, true, true, true, true, true, true, true, false, false, false, false] rfl rfl (any_of HT_.out (by kernel_rfl)) (fun _ _ _ h => h) (Or.inl ⟨by rfl, ?_⟩) ?_ ?_
  rotate_left
  · intro w'
    go_simp
    with_reducible rfl
  rotate_left
  · simp only [Act.put, List.setIfInBounds_toArray, List.set_cons_zero, List.set_cons_succ, i64_w, i32_w]
    rfl
  refine pure_ (i := 8) (N := some 45) (v := ?_) (a' := ?_) #[true, true, true, true, true, true, true, true, true, false, false, false] rfl rfl (any_of HT_.out (by kernel_rfl)) (fun _ _ _ h => h) (Or.inl ⟨by rfl, ?_⟩) ?_ ?_
  rotate_left
  · intro w'
    go_simp
    with_reducible rfl
  rotate_left
  · simp only [Act.put, List.setIfInBounds_toArray, List.set_cons_zero, List.set_cons_succ, i64_w, i32_w]
    rfl
  refine pure_ (i := 9) (N := some 46) (v := ?_) (a' := ?_) #[true, true, true, true, true, true, true, true, true, true, false, false] rfl rfl (any_of HT_.out (by kernel_rfl)) (fun _ _ _ h => h) (Or.inl ⟨by rfl, ?_⟩) ?_ ?_
  rotate_left
  · intro w'
    go_simp
    with_reducible rfl
  rotate_left
  · simp only [Act.put, List.setIfInBounds_toArray, List.set_cons_zero, List.set_cons_succ, i64_w, i32_w]
    rfl
  refine pure_ (i := 10) (N := some 11) (v := ?_) (a' := ?_) #[true, true, true, true, true, true, true, true, true, true, true, false] rfl rfl (any_of HT_.out (by kernel_rfl)) (fun _ _ _ h => h) (Or.inl ⟨by rfl, ?_⟩) ?_ ?_
  rotate_left
  · intro w'
    go_simp
    with_reducible rfl
  rotate_left
  · simp only [Act.put, List.setIfInBounds_toArray, List.set_cons_zero, List.set_cons_succ, i64_w, i32_w]
    rfl
  refine pure_ (i := 11) (N := some 12) (v := ?_) (a' := ?_) #[true, true, true, true, true, true, true, true, true, true, true, true] rfl rfl (any_of HT_.out (by kernel_rfl)) (fun _ _ _ h => h) (Or.inl ⟨by rfl, ?_⟩) ?_ ?_
  rotate_left
  · intro w'
    go_simp
    with_reducible rfl
  rotate_left
  · simp only [Act.put, List.setIfInBounds_toArray, List.set_cons_zero, List.set_cons_succ, i64_w, i32_w]
    rfl
  refine done_ (done_of HT_.out (by kernel_rfl)) ?_
  go_upto_region 6 with (fail)
  go_cut [56] (fun v56 wc => ∃ (kq : Nat) (x56_10 : Bool), v56 = .bool x56_10 ∧ Aside0 (stockyardlaw24_ChunkerEdit.j0 kq t291 t313 t323 x56_10 = some r) ∧ Aside0 (kq ≤ k) ∧ Aside0 (Kd.R (Kd.int .u8) 5 wc w.heap.size (fun _ => True) (.slice Ao22 t291.length co22) t291) ∧ Aside0 (Kd.R (Kd.int .i64) 3 wc w.heap.size (fun k_ => some k_ ≠ (v324 : Value).ownBlock) v314 t313) ∧ Aside0 (Kd.R (Kd.int .i64) 3 wc w.heap.size (fun k_ => some k_ ≠ (v314 : Value).ownBlock) v324 t323) ∧ Aside0 (wc.heap[gb290]? = some (.cells #[.int .i64 t285, .int .i64 t286, .int .i64 t287, .int .u64 t288] 28 (0, 0))) ∧ Aside0 (Below w.heap.size w wc))
  case first =>
    have H := HC11.out
    clear HC11
    replace H := Option.bind_eq_some_iff.mp H
    obtain ⟨t327, A390, H⟩ := H
    replace H : (if t327 = true then (if t316 = true then (stockyardlaw24_ChunkerEdit.j0 k t291 t313 t323 (!t326)) else (stockyardlaw24_ChunkerEdit.j0 k t291 t313 t323 true)) else (stockyardlaw24_ChunkerEdit.j0 k t291 t313 t323 true)) = some r := H
    have A39 := Aside0.mk A390
    clear A390
    by_cases c40 : t327 = true
    · subst c40
      have H1 : (if t316 = true then (stockyardlaw24_ChunkerEdit.j0 k t291 t313 t323 (!t326)) else (stockyardlaw24_ChunkerEdit.j0 k t291 t313 t323 true)) = some r := by rw [if_pos rfl] at H; exact H
      clear H
      have H := H1
      clear H1
      by_cases c41 : t316 = true
      · subst c41
        have H1 : (stockyardlaw24_ChunkerEdit.j0 k t291 t313 t323 (!t326)) = some r := by rw [if_pos rfl] at H; exact H
        clear H
        have H := H1
        clear H1
        have H' := Aside0.mk H
        clear H
        go_wp2_with (first | ((with_reducible refine gate_callee (f := 17) rfl ?_); refine goesL_ (some 47) rfl rfl Try.func17 (by kernel_rfl) rfl #[] rfl (by (try simp only [List.map_toArray, List.map_cons, List.map_nil]); first | done | rfl | (simp only [List.length_drop, List.length_take]; rfl)) ?_; (with_reducible refine (stockyardlaw24_known.calls k  true _ A39.out).mono ?_); rintro e w42 ⟨rfl, hb⟩; refine ⟨_, rfl, ?_⟩; have n0_ := Aside0.mk (Kd.R_below (by (with_reducible repeat (first | apply Kd.R_alloc | apply Kd.R_drewN | apply Kd.R_drew)); exact HO293.out) hb); have n1_ := Aside0.mk (Kd.R_below (by (with_reducible repeat (first | apply Kd.R_alloc | apply Kd.R_drewN | apply Kd.R_drew)); exact HO297.out) hb); have n2_ := Aside0.mk (Kd.R_below (by (with_reducible repeat (first | apply Kd.R_alloc | apply Kd.R_drewN | apply Kd.R_drew)); exact HO301.out) hb); have n3_ := Aside0.mk (Kd.R_below (by (with_reducible repeat (first | apply Kd.R_alloc | apply Kd.R_drewN | apply Kd.R_drew)); exact HO305.out) hb); have n4_ := Aside0.mk (Kd.N_below (by (with_reducible repeat (first | apply Kd.N_alloc | apply Kd.N_drewN | apply Kd.N_drew)); exact HO309.out) hb); have n5_ := Aside0.mk (Kd.R_below (by (with_reducible repeat (first | apply Kd.R_alloc | apply Kd.R_drewN | apply Kd.R_drew)); exact HO312.out) hb); have n6_ := Aside0.mk (Kd.R_below (by (with_reducible repeat (first | apply Kd.R_alloc | apply Kd.R_drewN | apply Kd.R_drew)); exact HO315.out) hb); have n7_ := Aside0.mk (Kd.N_below (by (with_reducible repeat (first | apply Kd.N_alloc | apply Kd.N_drewN | apply Kd.N_drew)); exact HO319.out) hb); have n8_ := Aside0.mk (Kd.R_below (by (with_reducible repeat (first | apply Kd.R_alloc | apply Kd.R_drewN | apply Kd.R_drew)); exact HO322.out) hb); have n9_ := Aside0.mk (Kd.R_below (by (with_reducible repeat (first | apply Kd.R_alloc | apply Kd.R_drewN | apply Kd.R_drew)); exact HO325.out) hb); have n10_ := Aside0.mk (IsS25.below (by repeat (first | (with_reducible first | exact HI284.out | apply IsS25.alloc | apply IsS25.drewN | apply IsS25.drew | apply IsS25.set_1 | refine IsS25.far ?_ NB284_290.out _) | exact HI284.out)) hb); have n11_ := Aside0.mk (blk_below (g := gb290) (o := .cells #[.int .i64 t285, .int .i64 t286, .int .i64 t287, .int .u64 t288] 28 (0, 0)) (by (with_reducible repeat (first | refine blk_drewN ?_ _ | refine blk_drew ?_ | refine blk_alloc ?_ _)); exact BK290.out) hb); have n12_ := Aside0.mk (below_step (by repeat (first | (with_reducible first | exact HB.out | apply below_alloc | apply pw_below_drewN | apply below_drew1 | refine below_set ?_ (IsS25.ge HI284.out) | refine below_set ?_ GE290.out) | exact HB.out)) hb); clear HO293; clear HO297; clear HO301; clear HO305; clear HO309; clear HO312; clear HO315; clear HO319; clear HO322; clear HO325; clear HI284; clear BK290; clear HB; have HO293 := n0_; have HO297 := n1_; have HO301 := n2_; have HO305 := n3_; have HO309 := n4_; have HO312 := n5_; have HO315 := n6_; have HO319 := n7_; have HO322 := n8_; have HO325 := n9_; have HI284 := n10_; have BK290 := n11_; have HB := n12_; clear n0_ n1_ n2_ n3_ n4_ n5_ n6_ n7_ n8_ n9_ n10_ n11_ n12_; (try clear hb); (try clear hb2); (try clear hk); (try clear hi)))
        go_meet
        case rel => exact ⟨_, (!t326), (by first | rfl | (simp; done) | (simp [*]; done)), H', ⟨by first | omega | exact Nat.le_refl _⟩, ⟨by (with_reducible repeat (first | apply Kd.R_alloc | apply Kd.R_drewN | apply Kd.R_drew)); exact Kd.R_mono HO293.out (fun _ hk => trivial)⟩, ⟨by (with_reducible repeat (first | apply Kd.R_alloc | apply Kd.R_drewN | apply Kd.R_drew)); exact Kd.R_mono HO315.out (fun _ hk => hk.2)⟩, ⟨by (with_reducible repeat (first | apply Kd.R_alloc | apply Kd.R_drewN | apply Kd.R_drew)); exact Kd.R_mono HO325.out (fun _ hk => hk.2)⟩, ⟨by (with_reducible repeat (first | refine blk_drewN ?_ _ | refine blk_drew ?_ | refine blk_alloc ?_ _)); exact BK290.out⟩, ⟨by repeat (first | (with_reducible first | exact HB.out | apply below_alloc | apply pw_below_drewN | apply below_drew1 | refine below_set ?_ (IsS25.ge HI284.out) | refine below_set ?_ GE290.out) | exact HB.out)⟩⟩
      · replace c41 := Bool.eq_false_iff.mpr c41
        subst c41
        have H1 : (stockyardlaw24_ChunkerEdit.j0 k t291 t313 t323 true) = some r := by rw [if_neg (show ¬ (false = true) by decide)] at H; exact H
        clear H
        have H := H1
        clear H1
        have H' := Aside0.mk H
        clear H
        go_wp2_with (first | ((with_reducible refine gate_callee (f := 17) rfl ?_); refine goesL_ (some 47) rfl rfl Try.func17 (by kernel_rfl) rfl #[] rfl (by (try simp only [List.map_toArray, List.map_cons, List.map_nil]); first | done | rfl | (simp only [List.length_drop, List.length_take]; rfl)) ?_; (with_reducible refine (stockyardlaw24_known.calls k  true _ A39.out).mono ?_); rintro e w43 ⟨rfl, hb⟩; refine ⟨_, rfl, ?_⟩; have n0_ := Aside0.mk (Kd.R_below (by (with_reducible repeat (first | apply Kd.R_alloc | apply Kd.R_drewN | apply Kd.R_drew)); exact HO293.out) hb); have n1_ := Aside0.mk (Kd.R_below (by (with_reducible repeat (first | apply Kd.R_alloc | apply Kd.R_drewN | apply Kd.R_drew)); exact HO297.out) hb); have n2_ := Aside0.mk (Kd.R_below (by (with_reducible repeat (first | apply Kd.R_alloc | apply Kd.R_drewN | apply Kd.R_drew)); exact HO301.out) hb); have n3_ := Aside0.mk (Kd.R_below (by (with_reducible repeat (first | apply Kd.R_alloc | apply Kd.R_drewN | apply Kd.R_drew)); exact HO305.out) hb); have n4_ := Aside0.mk (Kd.N_below (by (with_reducible repeat (first | apply Kd.N_alloc | apply Kd.N_drewN | apply Kd.N_drew)); exact HO309.out) hb); have n5_ := Aside0.mk (Kd.R_below (by (with_reducible repeat (first | apply Kd.R_alloc | apply Kd.R_drewN | apply Kd.R_drew)); exact HO312.out) hb); have n6_ := Aside0.mk (Kd.R_below (by (with_reducible repeat (first | apply Kd.R_alloc | apply Kd.R_drewN | apply Kd.R_drew)); exact HO315.out) hb); have n7_ := Aside0.mk (Kd.N_below (by (with_reducible repeat (first | apply Kd.N_alloc | apply Kd.N_drewN | apply Kd.N_drew)); exact HO319.out) hb); have n8_ := Aside0.mk (Kd.R_below (by (with_reducible repeat (first | apply Kd.R_alloc | apply Kd.R_drewN | apply Kd.R_drew)); exact HO322.out) hb); have n9_ := Aside0.mk (Kd.R_below (by (with_reducible repeat (first | apply Kd.R_alloc | apply Kd.R_drewN | apply Kd.R_drew)); exact HO325.out) hb); have n10_ := Aside0.mk (IsS25.below (by repeat (first | (with_reducible first | exact HI284.out | apply IsS25.alloc | apply IsS25.drewN | apply IsS25.drew | apply IsS25.set_1 | refine IsS25.far ?_ NB284_290.out _) | exact HI284.out)) hb); have n11_ := Aside0.mk (blk_below (g := gb290) (o := .cells #[.int .i64 t285, .int .i64 t286, .int .i64 t287, .int .u64 t288] 28 (0, 0)) (by (with_reducible repeat (first | refine blk_drewN ?_ _ | refine blk_drew ?_ | refine blk_alloc ?_ _)); exact BK290.out) hb); have n12_ := Aside0.mk (below_step (by repeat (first | (with_reducible first | exact HB.out | apply below_alloc | apply pw_below_drewN | apply below_drew1 | refine below_set ?_ (IsS25.ge HI284.out) | refine below_set ?_ GE290.out) | exact HB.out)) hb); clear HO293; clear HO297; clear HO301; clear HO305; clear HO309; clear HO312; clear HO315; clear HO319; clear HO322; clear HO325; clear HI284; clear BK290; clear HB; have HO293 := n0_; have HO297 := n1_; have HO301 := n2_; have HO305 := n3_; have HO309 := n4_; have HO312 := n5_; have HO315 := n6_; have HO319 := n7_; have HO322 := n8_; have HO325 := n9_; have HI284 := n10_; have BK290 := n11_; have HB := n12_; clear n0_ n1_ n2_ n3_ n4_ n5_ n6_ n7_ n8_ n9_ n10_ n11_ n12_; (try clear hb); (try clear hb2); (try clear hk); (try clear hi)))
        go_meet
        case rel => exact ⟨_, (true), (by first | rfl | (simp; done) | (simp [*]; done)), H', ⟨by first | omega | exact Nat.le_refl _⟩, ⟨by (with_reducible repeat (first | apply Kd.R_alloc | apply Kd.R_drewN | apply Kd.R_drew)); exact Kd.R_mono HO293.out (fun _ hk => trivial)⟩, ⟨by (with_reducible repeat (first | apply Kd.R_alloc | apply Kd.R_drewN | apply Kd.R_drew)); exact Kd.R_mono HO315.out (fun _ hk => hk.2)⟩, ⟨by (with_reducible repeat (first | apply Kd.R_alloc | apply Kd.R_drewN | apply Kd.R_drew)); exact Kd.R_mono HO325.out (fun _ hk => hk.2)⟩, ⟨by (with_reducible repeat (first | refine blk_drewN ?_ _ | refine blk_drew ?_ | refine blk_alloc ?_ _)); exact BK290.out⟩, ⟨by repeat (first | (with_reducible first | exact HB.out | apply below_alloc | apply pw_below_drewN | apply below_drew1 | refine below_set ?_ (IsS25.ge HI284.out) | refine below_set ?_ GE290.out) | exact HB.out)⟩⟩
    · replace c40 := Bool.eq_false_iff.mpr c40
      subst c40
      have H1 : (stockyardlaw24_ChunkerEdit.j0 k t291 t313 t323 true) = some r := by rw [if_neg (show ¬ (false = true) by decide)] at H; exact H
      clear H
      have H := H1
      clear H1
      have H' := Aside0.mk H
      clear H
      go_wp2_with (first | ((with_reducible refine gate_callee (f := 17) rfl ?_); refine goesL_ (some 47) rfl rfl Try.func17 (by kernel_rfl) rfl #[] rfl (by (try simp only [List.map_toArray, List.map_cons, List.map_nil]); first | done | rfl | (simp only [List.length_drop, List.length_take]; rfl)) ?_; (with_reducible refine (stockyardlaw24_known.calls k  false _ A39.out).mono ?_); rintro e w44 ⟨rfl, hb⟩; refine ⟨_, rfl, ?_⟩; have n0_ := Aside0.mk (Kd.R_below (by (with_reducible repeat (first | apply Kd.R_alloc | apply Kd.R_drewN | apply Kd.R_drew)); exact HO293.out) hb); have n1_ := Aside0.mk (Kd.R_below (by (with_reducible repeat (first | apply Kd.R_alloc | apply Kd.R_drewN | apply Kd.R_drew)); exact HO297.out) hb); have n2_ := Aside0.mk (Kd.R_below (by (with_reducible repeat (first | apply Kd.R_alloc | apply Kd.R_drewN | apply Kd.R_drew)); exact HO301.out) hb); have n3_ := Aside0.mk (Kd.R_below (by (with_reducible repeat (first | apply Kd.R_alloc | apply Kd.R_drewN | apply Kd.R_drew)); exact HO305.out) hb); have n4_ := Aside0.mk (Kd.N_below (by (with_reducible repeat (first | apply Kd.N_alloc | apply Kd.N_drewN | apply Kd.N_drew)); exact HO309.out) hb); have n5_ := Aside0.mk (Kd.R_below (by (with_reducible repeat (first | apply Kd.R_alloc | apply Kd.R_drewN | apply Kd.R_drew)); exact HO312.out) hb); have n6_ := Aside0.mk (Kd.R_below (by (with_reducible repeat (first | apply Kd.R_alloc | apply Kd.R_drewN | apply Kd.R_drew)); exact HO315.out) hb); have n7_ := Aside0.mk (Kd.N_below (by (with_reducible repeat (first | apply Kd.N_alloc | apply Kd.N_drewN | apply Kd.N_drew)); exact HO319.out) hb); have n8_ := Aside0.mk (Kd.R_below (by (with_reducible repeat (first | apply Kd.R_alloc | apply Kd.R_drewN | apply Kd.R_drew)); exact HO322.out) hb); have n9_ := Aside0.mk (Kd.R_below (by (with_reducible repeat (first | apply Kd.R_alloc | apply Kd.R_drewN | apply Kd.R_drew)); exact HO325.out) hb); have n10_ := Aside0.mk (IsS25.below (by repeat (first | (with_reducible first | exact HI284.out | apply IsS25.alloc | apply IsS25.drewN | apply IsS25.drew | apply IsS25.set_1 | refine IsS25.far ?_ NB284_290.out _) | exact HI284.out)) hb); have n11_ := Aside0.mk (blk_below (g := gb290) (o := .cells #[.int .i64 t285, .int .i64 t286, .int .i64 t287, .int .u64 t288] 28 (0, 0)) (by (with_reducible repeat (first | refine blk_drewN ?_ _ | refine blk_drew ?_ | refine blk_alloc ?_ _)); exact BK290.out) hb); have n12_ := Aside0.mk (below_step (by repeat (first | (with_reducible first | exact HB.out | apply below_alloc | apply pw_below_drewN | apply below_drew1 | refine below_set ?_ (IsS25.ge HI284.out) | refine below_set ?_ GE290.out) | exact HB.out)) hb); clear HO293; clear HO297; clear HO301; clear HO305; clear HO309; clear HO312; clear HO315; clear HO319; clear HO322; clear HO325; clear HI284; clear BK290; clear HB; have HO293 := n0_; have HO297 := n1_; have HO301 := n2_; have HO305 := n3_; have HO309 := n4_; have HO312 := n5_; have HO315 := n6_; have HO319 := n7_; have HO322 := n8_; have HO325 := n9_; have HI284 := n10_; have BK290 := n11_; have HB := n12_; clear n0_ n1_ n2_ n3_ n4_ n5_ n6_ n7_ n8_ n9_ n10_ n11_ n12_; (try clear hb); (try clear hb2); (try clear hk); (try clear hi)))
      go_meet
      case rel => exact ⟨_, (true), (by first | rfl | (simp; done) | (simp [*]; done)), H', ⟨by first | omega | exact Nat.le_refl _⟩, ⟨by (with_reducible repeat (first | apply Kd.R_alloc | apply Kd.R_drewN | apply Kd.R_drew)); exact Kd.R_mono HO293.out (fun _ hk => trivial)⟩, ⟨by (with_reducible repeat (first | apply Kd.R_alloc | apply Kd.R_drewN | apply Kd.R_drew)); exact Kd.R_mono HO315.out (fun _ hk => hk.2)⟩, ⟨by (with_reducible repeat (first | apply Kd.R_alloc | apply Kd.R_drewN | apply Kd.R_drew)); exact Kd.R_mono HO325.out (fun _ hk => hk.2)⟩, ⟨by (with_reducible repeat (first | refine blk_drewN ?_ _ | refine blk_drew ?_ | refine blk_alloc ?_ _)); exact BK290.out⟩, ⟨by repeat (first | (with_reducible first | exact HB.out | apply below_alloc | apply pw_below_drewN | apply below_drew1 | refine below_set ?_ (IsS25.ge HI284.out) | refine below_set ?_ GE290.out) | exact HB.out)⟩⟩
  case rest =>
    clear HC11
    try clear c1
    try clear p2
    try clear c4
    try clear c6
    try clear c14
    try clear c15
    try clear c16
    try clear c17
    try clear c19
    try clear c40
    try clear c41
    try clear hcz16_0
    try clear hcz16_1
    try clear hcz16_2
    try clear hcz16_3
    try clear hfz16_0
    try clear hfz16_1
    try clear hfz16_2
    try clear hfz16_3
    obtain ⟨kq, x56_10, rfl, HA, HJ10, HO_5, HO_9, HO_11, BK290, HB⟩ := hcut
    cases kq with
    | zero => exact absurd HA.out (by simp [stockyardlaw24_ChunkerEdit.j0])
    | succ kj10 =>
      have H := HA.out
      clear HA
      simp only [stockyardlaw24_ChunkerEdit.j0] at H
      by_cases c45 : x56_10 = true
      · subst c45
        have H1 : (some false) = some r := by rw [if_pos rfl] at H; exact H
        clear H
        have H := H1
        clear H1
        exact absurd ((Option.some.inj H).trans HRT.out) (by decide)
      · replace c45 := Bool.eq_false_iff.mpr c45
        subst c45
        have H1 : (stockyardlaw24_ChunkerEdit.l0 kj10 t291 t313 t323 0) = some r := by rw [if_neg (show ¬ (false = true) by decide)] at H; exact H
        clear H
        have H := H1
        clear H1
        have H' := Aside0.mk H
        clear H
        go_wp2
        go_loopg [13] kj10 (fun kq v13 w' => ∃ (x13_2 : Int), v13 = .int .i64 x13_2 ∧ Aside0 (stockyardlaw24_ChunkerEdit.l0 kq t291 t313 t323 x13_2 = some r) ∧ Aside0 (kq ≤ kj10) ∧ Aside0 (Kd.R (Kd.int .u8) 5 w' w.heap.size (fun _ => True) (.slice Ao22 t291.length co22) t291) ∧ Aside0 (Kd.R (Kd.int .i64) 3 w' w.heap.size (fun k_ => some k_ ≠ (v324 : Value).ownBlock) v314 t313) ∧ Aside0 (Kd.R (Kd.int .i64) 3 w' w.heap.size (fun k_ => some k_ ≠ (v314 : Value).ownBlock) v324 t323) ∧ Aside0 (w'.heap[gb290]? = some (.cells #[.int .i64 t285, .int .i64 t286, .int .i64 t287, .int .u64 t288] 28 (0, 0))) ∧ Aside0 (Below w.heap.size w w'))
        case atStart => exact ⟨(0), (by first | rfl | (simp; done) | (simp [*]; done)), H', ⟨Nat.le_refl _⟩, ⟨by (with_reducible repeat (first | apply Kd.R_alloc | apply Kd.R_drewN | apply Kd.R_drew)); exact HO_5.out⟩, ⟨by (with_reducible repeat (first | apply Kd.R_alloc | apply Kd.R_drewN | apply Kd.R_drew)); exact HO_9.out⟩, ⟨by (with_reducible repeat (first | apply Kd.R_alloc | apply Kd.R_drewN | apply Kd.R_drew)); exact HO_11.out⟩, ⟨by (with_reducible repeat (first | refine blk_drewN ?_ _ | refine blk_drew ?_ | refine blk_alloc ?_ _)); exact BK290.out⟩, ⟨by repeat (first | (with_reducible first | exact HB.out | apply below_alloc | apply pw_below_drewN | apply below_drew1 | refine below_set ?_ GE290.out) | exact HB.out)⟩⟩
        case round =>
          clear H'
          try clear c1
          try clear p2
          try clear c4
          try clear c6
          try clear c14
          try clear c15
          try clear c16
          try clear c17
          try clear c19
          try clear c40
          try clear c41
          try clear c45
          try clear hcz16_0
          try clear hcz16_1
          try clear hcz16_2
          try clear hcz16_3
          try clear hfz16_0
          try clear hfz16_1
          try clear hfz16_2
          try clear hfz16_3
          try clear p2
          obtain ⟨x13_2, rfl, HA, HK2, HO_5, HO_9, HO_11, BK290, HB⟩ := hrel
          cases gk with
          | zero => exact absurd HA.out (by simp [stockyardlaw24_ChunkerEdit.l0])
          | succ k2 =>
            have H := HA.out
            clear HA
            simp only [stockyardlaw24_ChunkerEdit.l0] at H
            have HC46 := Aside0.mk H
            clear H
            go_upto_region 9 with (fail)
            go_cut [69] (fun v69 wc => ∃ (kq : Nat) (x69_45 : Bool), v69 = .bool x69_45 ∧ Aside0 (stockyardlaw24_ChunkerEdit.j2 kq t291 t313 t323 x13_2 x69_45 = some r) ∧ Aside0 (kq ≤ k2) ∧ Aside0 (Kd.R (Kd.int .u8) 5 wc w.heap.size (fun _ => True) (.slice Ao22 t291.length co22) t291) ∧ Aside0 (Kd.R (Kd.int .i64) 3 wc w.heap.size (fun k_ => some k_ ≠ (v324 : Value).ownBlock) v314 t313) ∧ Aside0 (Kd.R (Kd.int .i64) 3 wc w.heap.size (fun k_ => some k_ ≠ (v314 : Value).ownBlock) v324 t323) ∧ Aside0 (wc.heap[gb290]? = some (.cells #[.int .i64 t285, .int .i64 t286, .int .i64 t287, .int .u64 t288] 28 (0, 0))) ∧ Aside0 (Below w.heap.size w wc))
            case first =>
              have H := HC46.out
              clear HC46
              by_cases c47 : x13_2 < (t313.length : Int)
              · rw [if_pos c47] at H
                have c47b0 : decide (x13_2 < (t313.length : Int)) = true := decide_eq_true c47
                clear c47
                (first | rw [c47b0] | (simp only [i64_w, i32_w]; rw [c47b0]) | skip)
                by_cases c48 : 0 ≤ x13_2
                · rw [if_pos c48] at H
                  have c48b0 : decide (0 ≤ x13_2) = true := decide_eq_true c48
                  clear c48
                  have H' := Aside0.mk H
                  clear H
                  obtain ⟨Ao49, co49, eo49⟩ := Kd.R_slice HO_9.out
                  subst eo49
                  have p328 : 0 ≤ (x13_2 : Int) := of_decide_eq_true (by first | (with_reducible assumption) | assumption)
                  have q328 : x13_2 < (t313.length : Int) := of_decide_eq_true (by first | (with_reducible assumption) | assumption)
                  obtain ⟨ad328, e328, hx328_0⟩ := Kd.at_int (Kd.R_reads' HO_9.out).2.2 x13_2 p328 q328
                  cases e328
                  replace p328 := eq_true p328
                  replace q328 := eq_true q328
                  go_wp2
                  go_meet
                  case rel => exact ⟨_, (decide ((rd t313 x13_2) < (t291.length : Int))), (by first | rfl | (simp; done) | (simp [*]; done)), H', ⟨by have := HJ10.out; have := HK2.out; first | omega | exact Nat.le_refl _⟩, ⟨by (with_reducible repeat (first | apply Kd.R_alloc | apply Kd.R_drewN | apply Kd.R_drew)); exact HO_5.out⟩, ⟨by (with_reducible repeat (first | apply Kd.R_alloc | apply Kd.R_drewN | apply Kd.R_drew)); exact HO_9.out⟩, ⟨by (with_reducible repeat (first | apply Kd.R_alloc | apply Kd.R_drewN | apply Kd.R_drew)); exact HO_11.out⟩, ⟨by (with_reducible repeat (first | refine blk_drewN ?_ _ | refine blk_drew ?_ | refine blk_alloc ?_ _)); exact BK290.out⟩, ⟨by repeat (first | (with_reducible first | exact HB.out | apply below_alloc | apply pw_below_drewN | apply below_drew1 | refine below_set ?_ GE290.out) | exact HB.out)⟩⟩
                · rw [if_neg c48] at H
                  exact absurd H (by simp)
              · rw [if_neg c47] at H
                have c47b0 : decide (x13_2 < (t313.length : Int)) = false := decide_eq_false c47
                clear c47
                (first | rw [c47b0] | (simp only [i64_w, i32_w]; rw [c47b0]) | skip)
                have H' := Aside0.mk H
                clear H
                obtain ⟨Ao50, co50, eo50⟩ := Kd.R_slice HO_9.out
                subst eo50
                go_wp2
                go_meet
                case rel => exact ⟨_, (false), (by first | rfl | (simp; done) | (simp [*]; done)), H', ⟨by have := HJ10.out; have := HK2.out; first | omega | exact Nat.le_refl _⟩, ⟨by (with_reducible repeat (first | apply Kd.R_alloc | apply Kd.R_drewN | apply Kd.R_drew)); exact HO_5.out⟩, ⟨by (with_reducible repeat (first | apply Kd.R_alloc | apply Kd.R_drewN | apply Kd.R_drew)); exact HO_9.out⟩, ⟨by (with_reducible repeat (first | apply Kd.R_alloc | apply Kd.R_drewN | apply Kd.R_drew)); exact HO_11.out⟩, ⟨by (with_reducible repeat (first | refine blk_drewN ?_ _ | refine blk_drew ?_ | refine blk_alloc ?_ _)); exact BK290.out⟩, ⟨by repeat (first | (with_reducible first | exact HB.out | apply below_alloc | apply pw_below_drewN | apply below_drew1 | refine below_set ?_ GE290.out) | exact HB.out)⟩⟩
            case rest =>
              clear HC46
              try clear c1
              try clear p2
              try clear p3
              try clear q3
              try clear hx3
              try clear c4
              try clear c6
              try clear c14
              try clear c15
              try clear c16
              try clear c17
              try clear c19
              try clear p32
              try clear q32
              try clear hx32
              try clear c40
              try clear c41
              try clear c45
              try clear c47
              try clear c47b0
              try clear c48
              try clear c48b0
              try clear hcz16_0
              try clear hcz16_1
              try clear hcz16_2
              try clear hcz16_3
              try clear hfz16_0
              try clear hfz16_1
              try clear hfz16_2
              try clear hfz16_3
              try clear hx328_0
              try clear p2
              try clear p328
              try clear q328
              obtain ⟨kq, x69_45, rfl, HA, HJ45, HO_5, HO_9, HO_11, BK290, HB⟩ := hcut
              cases kq with
              | zero => exact absurd HA.out (by simp [stockyardlaw24_ChunkerEdit.j2])
              | succ kj45 =>
                have H := HA.out
                clear HA
                simp only [stockyardlaw24_ChunkerEdit.j2] at H
                by_cases c51 : x69_45 = true
                · subst c51
                  have H1 : (if x13_2 ≥ (t323.length : Int) then (some false) else (if 0 ≤ x13_2 then (if x13_2 < (t323.length : Int) then (if x13_2 < (t313.length : Int) then (if (rd t323 x13_2) = (rd t313 x13_2) then (stockyardlaw24_ChunkerEdit.l0 kj45 t291 t313 t323 (wrap64 (x13_2 + 1))) else (some false)) else (none)) else (none)) else (none))) = some r := by rw [if_pos rfl] at H; exact H
                  clear H
                  have H := H1
                  clear H1
                  by_cases c52 : x13_2 ≥ (t323.length : Int)
                  · rw [if_pos c52] at H
                    have c52b0 : decide ((t323.length : Int) ≤ x13_2) = true := decide_eq_true c52
                    clear c52
                    exact absurd ((Option.some.inj H).trans HRT.out) (by decide)
                  · rw [if_neg c52] at H
                    have c52b0 : decide ((t323.length : Int) ≤ x13_2) = false := decide_eq_false c52
                    clear c52
                    by_cases c53 : 0 ≤ x13_2
                    · rw [if_pos c53] at H
                      have c53b0 : decide (0 ≤ x13_2) = true := decide_eq_true c53
                      clear c53
                      by_cases c54 : x13_2 < (t323.length : Int)
                      · rw [if_pos c54] at H
                        have c54b0 : decide (x13_2 < (t323.length : Int)) = true := decide_eq_true c54
                        clear c54
                        by_cases c55 : x13_2 < (t313.length : Int)
                        · rw [if_pos c55] at H
                          have c55b0 : decide (x13_2 < (t313.length : Int)) = true := decide_eq_true c55
                          clear c55
                          by_cases c56 : (rd t323 x13_2) = (rd t313 x13_2)
                          · rw [if_pos c56] at H
                            have c56b0 : ((rd t323 x13_2) == (rd t313 x13_2)) = true := beq_iff_eq.mpr c56
                            have c56b1 : ((rd t323 x13_2) != (rd t313 x13_2)) = false := bne_eq_false_iff_eq.mpr c56
                            clear c56
                            have H' := Aside0.mk H
                            clear H
                            try go_wp2
                            have n0_ := Aside0.mk (Kd.R_drew HO_5.out)
                            have n1_ := Aside0.mk (Kd.R_drew HO_9.out)
                            have n2_ := Aside0.mk (Kd.R_drew HO_11.out)
                            have n3_ := Aside0.mk (blk_drew BK290.out)
                            have n4_ := Aside0.mk (below_drew1 HB.out)
                            clear HO_5
                            clear HO_9
                            clear HO_11
                            clear BK290
                            clear HB
                            have HO_5 := n0_
                            have HO_9 := n1_
                            have HO_11 := n2_
                            have BK290 := n3_
                            have HB := n4_
                            clear n0_ n1_ n2_ n3_ n4_
                            obtain ⟨Ao58, co58, eo58⟩ := Kd.R_slice HO_11.out
                            (first | subst eo58 | (injection eo58 with f1_ f2_ f3_; have f4_ := f1_.symm; have f5_ := f3_.symm; clear f1_ f2_ f3_; subst f4_; subst f5_))
                            have p329 : 0 ≤ (x13_2 : Int) := of_decide_eq_true (by first | (with_reducible assumption) | assumption)
                            have q329 : x13_2 < (t323.length : Int) := of_decide_eq_true (by first | (with_reducible assumption) | assumption)
                            obtain ⟨ad329, e329, hx329_0⟩ := Kd.at_int (Kd.R_reads' HO_11.out).2.2 x13_2 p329 q329
                            cases e329
                            replace p329 := eq_true p329
                            replace q329 := eq_true q329
                            obtain ⟨Ao59, co59, eo59⟩ := Kd.R_slice HO_9.out
                            (first | subst eo59 | (injection eo59 with f1_ f2_ f3_; have f4_ := f1_.symm; have f5_ := f3_.symm; clear f1_ f2_ f3_; subst f4_; subst f5_))
                            have p330 : 0 ≤ (x13_2 : Int) := of_decide_eq_true (by first | (with_reducible assumption) | assumption)
                            have q330 : x13_2 < (t313.length : Int) := of_decide_eq_true (by first | (with_reducible assumption) | assumption)
                            obtain ⟨ad330, e330, hx330_0⟩ := Kd.at_int (Kd.R_reads' HO_9.out).2.2 x13_2 p330 q330
                            cases e330
                            replace p330 := eq_true p330
                            replace q330 := eq_true q330
                            refine start_ (n := 15) (S := fun w' => w'.cell? (ad329.add (x13_2).toNat) = some (.int .i64 (rd t323 x13_2)) ∧ w'.cell? (ad330.add (x13_2).toNat) = some (.int .i64 (rd t313 x13_2))) (ds := []) #[false, false, false, false, false, false, false, false, false, false, false, false, false, false, false] (by kernel_rfl) rfl rfl ⟨hx329_0, hx330_0⟩ (fun hHeld => ?_); refine with_tabW stockyardlaw24_ChunkerEdit.tab11 stockyardlaw24_ChunkerEdit.bits11 (fun HT_ HW_ => ?_)
                            generalize wc.drew = w57 at HO_5 HO_9 HO_11 BK290 HB hx329_0 hx330_0 hHeld ⊢
                            refine pure_ (i := 0) (N := some 72) (v := ?_) (a' := ?_) #[true, false, false, false, false, false, false, false, false, false, false, false, false, false, false] rfl rfl (any_of HT_.out (by kernel_rfl)) (fun _ _ _ h => h) (Or.inl ⟨by rfl, ?_⟩) ?_ ?_
                            rotate_left
                            · intro w'
                              go_simp
                              with_reducible rfl
                            rotate_left
                            · simp only [Act.put, List.setIfInBounds_toArray, List.set_cons_zero, List.set_cons_succ, i64_w, i32_w]
                              rfl
                            refine pure_ (i := 1) (N := some 73) (v := ?_) (a' := ?_) #[true, true, false, false, false, false, false, false, false, false, false, false, false, false, false] rfl rfl (any_of HT_.out (by kernel_rfl)) (fun _ _ _ h => h) (Or.inl ⟨by rfl, ?_⟩) ?_ ?_
                            rotate_left
                            · intro w'
                              go_simp
                              with_reducible rfl
                            rotate_left
                            · simp only [Act.put, List.setIfInBounds_toArray, List.set_cons_zero, List.set_cons_succ, i64_w, i32_w]
                              rfl
                            refine pure_ (i := 2) (N := some 74) (v := ?_) (a' := ?_) #[true, true, true, false, false, false, false, false, false, false, false, false, false, false, false] rfl rfl (any_of HT_.out (by kernel_rfl)) (fun _ _ _ h => h) (Or.inl ⟨by rfl, ?_⟩) ?_ ?_
                            rotate_left
                            · intro w'
                              go_simp
                              with_reducible rfl
                            rotate_left
                            · simp only [Act.put, List.setIfInBounds_toArray, List.set_cons_zero, List.set_cons_succ, i64_w, i32_w]
                              rfl
                            refine pure_ (i := 3) (N := some 75) (v := ?_) (a' := ?_) #[true, true, true, true, false, false, false, false, false, false, false, false, false, false, false] rfl rfl (any_of HT_.out (by kernel_rfl)) (fun _ _ _ h => h) (Or.inl ⟨by rfl, ?_⟩) ?_ ?_
                            rotate_left
                            · intro w'
                              go_simp
                              with_reducible rfl
                            rotate_left
                            · simp only [Act.put, List.setIfInBounds_toArray, List.set_cons_zero, List.set_cons_succ, i64_w, i32_w]
                              rfl
                            refine pure_ (i := 4) (N := some 76) (v := ?_) (a' := ?_) #[true, true, true, true, true, false, false, false, false, false, false, false, false, false, false] rfl rfl (any_of HT_.out (by kernel_rfl)) (fun _ _ _ h => h) (Or.inl ⟨by rfl, ?_⟩) ?_ ?_
                            rotate_left
                            · intro w'
                              go_simp
                              with_reducible rfl
                            rotate_left
                            · simp only [Act.put, List.setIfInBounds_toArray, List.set_cons_zero, List.set_cons_succ, i64_w, i32_w]
                              rfl
                            refine pure_ (i := 5) (N := some 77) (v := ?_) (a' := ?_) #[true, true, true, true, true, true, false, false, false, false, false, false, false, false, false] rfl rfl (any_of HT_.out (by kernel_rfl)) (fun _ _ _ h => h) (Or.inl ⟨by rfl, ?_⟩) ?_ ?_
                            rotate_left
                            · intro w'
                              go_simp
                              with_reducible rfl
                            rotate_left
                            · simp only [Act.put, List.setIfInBounds_toArray, List.set_cons_zero, List.set_cons_succ, i64_w, i32_w]
                              rfl
                            refine pure_ (i := 6) (N := some 78) (v := ?_) (a' := ?_) #[true, true, true, true, true, true, true, false, false, false, false, false, false, false, false] rfl rfl (any_of HT_.out (by kernel_rfl)) (fun _ _ _ h => h) (Or.inl ⟨by rfl, ?_⟩) ?_ ?_
                            rotate_left
                            · intro w'
                              go_simp
                              with_reducible rfl
                            rotate_left
                            · simp only [Act.put, List.setIfInBounds_toArray, List.set_cons_zero, List.set_cons_succ, i64_w, i32_w]
                              rfl
                            refine pure_ (i := 7) (N := some 79) (v := ?_) (a' := ?_) #[true, true, true, true, true, true, true, true, false, false, false, false, false, false, false] rfl rfl (any_of HT_.out (by kernel_rfl)) (fun _ _ _ h => h) (Or.inl ⟨by rfl, ?_⟩) ?_ ?_
                            rotate_left
                            · intro w'
                              go_simp
                              with_reducible rfl
                            rotate_left
                            · simp only [Act.put, List.setIfInBounds_toArray, List.set_cons_zero, List.set_cons_succ, i64_w, i32_w]
                              rfl
                            refine pure_ (i := 9) (N := some 81) (v := ?_) (a' := ?_) #[true, true, true, true, true, true, true, true, false, true, false, false, false, false, false] rfl rfl (any_of HT_.out (by kernel_rfl)) (fun _ _ _ h => h) (Or.inl ⟨by rfl, ?_⟩) ?_ ?_
                            rotate_left
                            · intro w'
                              go_simp
                              with_reducible rfl
                            rotate_left
                            · simp only [Act.put, List.setIfInBounds_toArray, List.set_cons_zero, List.set_cons_succ, i64_w, i32_w]
                              rfl
                            refine pure_ (i := 10) (N := some 82) (v := ?_) (a' := ?_) #[true, true, true, true, true, true, true, true, false, true, true, false, false, false, false] rfl rfl (any_of HT_.out (by kernel_rfl)) (fun _ _ _ h => h) (Or.inl ⟨by rfl, ?_⟩) ?_ ?_
                            rotate_left
                            · intro w'
                              go_simp
                              with_reducible rfl
                            rotate_left
                            · simp only [Act.put, List.setIfInBounds_toArray, List.set_cons_zero, List.set_cons_succ, i64_w, i32_w]
                              rfl
                            refine pure_ (i := 11) (N := some 83) (v := ?_) (a' := ?_) #[true, true, true, true, true, true, true, true, false, true, true, true, false, false, false] rfl rfl (any_of HT_.out (by kernel_rfl)) (fun _ _ _ h => h) (Or.inl ⟨by rfl, ?_⟩) ?_ ?_
                            rotate_left
                            · intro w'
                              go_simp
                              with_reducible rfl
                            rotate_left
                            · simp only [Act.put, List.setIfInBounds_toArray, List.set_cons_zero, List.set_cons_succ, i64_w, i32_w]
                              rfl
                            refine take_ (i := 8) (N := some 80) (v := ?_) (a' := ?_) #[true, true, true, true, true, true, true, true, true, true, true, true, false, false, false] rfl rfl (take_ofW HT_.out HW_.out (by kernel_rfl)) (fun _ _ _ h => h) (Or.inl ⟨by rfl, ?_⟩) hHeld ?_ ?_
                            rotate_left
                            · rintro w' ⟨s0, s1⟩
                              go_simp
                              with_reducible rfl
                            rotate_left
                            · simp only [Act.put, List.setIfInBounds_toArray, List.set_cons_zero, List.set_cons_succ, i64_w, i32_w]
                              rfl
                            refine take_ (i := 12) (N := some 84) (v := ?_) (a' := ?_) #[true, true, true, true, true, true, true, true, true, true, true, true, true, false, false] rfl rfl (take_ofW HT_.out HW_.out (by kernel_rfl)) (fun _ _ _ h => h) (Or.inl ⟨by rfl, ?_⟩) hHeld ?_ ?_
                            rotate_left
                            · rintro w' ⟨s0, s1⟩
                              go_simp
                              with_reducible rfl
                            rotate_left
                            · simp only [Act.put, List.setIfInBounds_toArray, List.set_cons_zero, List.set_cons_succ, i64_w, i32_w]
                              rfl
                            refine pure_ (i := 13) (N := some 85) (v := ?_) (a' := ?_) #[true, true, true, true, true, true, true, true, true, true, true, true, true, true, false] rfl rfl (any_of HT_.out (by kernel_rfl)) (fun _ _ _ h => h) (Or.inl ⟨by rfl, ?_⟩) ?_ ?_
                            rotate_left
                            · intro w'
                              go_simp
                              with_reducible rfl
                            rotate_left
                            · simp only [Act.put, List.setIfInBounds_toArray, List.set_cons_zero, List.set_cons_succ, i64_w, i32_w]
                              rfl
                            refine pure_ (i := 14) (N := some 86) (v := ?_) (a' := ?_) #[true, true, true, true, true, true, true, true, true, true, true, true, true, true, true] rfl rfl (any_of HT_.out (by kernel_rfl)) (fun _ _ _ h => h) (Or.inl ⟨by rfl, ?_⟩) ?_ ?_
                            rotate_left
                            · intro w'
                              go_simp
                              with_reducible rfl
                            rotate_left
                            · simp only [Act.put, List.setIfInBounds_toArray, List.set_cons_zero, List.set_cons_succ, i64_w, i32_w]
                              rfl
                            refine done_ (done_of HT_.out (by kernel_rfl)) ?_
                            try go_wp2
                            go_roundg kj45
                            case measure => have := HJ10.out; have := HK2.out; have := HJ45.out; omega
                            case rel => exact ⟨(wrap64 (x13_2 + 1)), (by first | rfl | (simp; done) | (simp [*]; done)), H', ⟨by have := HJ10.out; have := HK2.out; have := HJ45.out; omega⟩, ⟨by (with_reducible repeat (first | apply Kd.R_alloc | apply Kd.R_drewN | apply Kd.R_drew)); exact HO_5.out⟩, ⟨by (with_reducible repeat (first | apply Kd.R_alloc | apply Kd.R_drewN | apply Kd.R_drew)); exact HO_9.out⟩, ⟨by (with_reducible repeat (first | apply Kd.R_alloc | apply Kd.R_drewN | apply Kd.R_drew)); exact HO_11.out⟩, ⟨by (with_reducible repeat (first | refine blk_drewN ?_ _ | refine blk_drew ?_ | refine blk_alloc ?_ _)); exact BK290.out⟩, ⟨by repeat (first | (with_reducible first | exact HB.out | apply below_alloc | apply pw_below_drewN | apply below_drew1 | refine below_set ?_ GE290.out) | exact HB.out)⟩⟩
                          · rw [if_neg c56] at H
                            have c56b0 : ((rd t323 x13_2) == (rd t313 x13_2)) = false := beq_eq_false_iff_ne.mpr c56
                            have c56b1 : ((rd t323 x13_2) != (rd t313 x13_2)) = true := bne_iff_ne.mpr c56
                            exact absurd ((Option.some.inj H).trans HRT.out) (by decide)
                        · rw [if_neg c55] at H
                          exact absurd H (by simp)
                      · rw [if_neg c54] at H
                        exact absurd H (by simp)
                    · rw [if_neg c53] at H
                      exact absurd H (by simp)
                · replace c51 := Bool.eq_false_iff.mpr c51
                  subst c51
                  have H1 : (some true) = some r := by rw [if_neg (show ¬ (false = true) by decide)] at H; exact H
                  clear H
                  have H := H1
                  clear H1
                  obtain rfl := Option.some.inj H
                  go_wp2
                  go_ret
                  exact ⟨by first | rfl | (simp [errW_none, errW_some] <;> rfl) | (simp [*, errW_none, errW_some] <;> rfl), by repeat (first | (with_reducible first | exact HB.out | apply below_alloc | apply pw_below_drewN | apply below_drew1 | refine below_set ?_ GE290.out) | exact HB.out)⟩

/-- THE ONE PURE STATEMENT of stockyardlaw24_ChunkerEdit: yours. -/
def stockyardlaw24_ChunkerEdit.Pure : Prop := ∀ (l0 : List Int), l0.length ≤ maxLen → l0.length * 8 ≤ 140737488351232 → (∀ x ∈ l0, (Lit.int .i64 x).wf = true) → ∃ k, stockyardlaw24_ChunkerEdit.f k l0 = some true
theorem stockyardlaw24_ChunkerEdit.walk (P : stockyardlaw24_ChunkerEdit.Pure) (a0 : Option Addr) (len0 cap0 : Nat) (z0 : List Int) (w : World) (w0 : (a0 = none ∧ len0 = 0 ∧ cap0 = 0 ∧ z0 = []) ∨ ∃ x, a0 = some x ∧ len0 ≤ cap0 ∧ cap0 ≤ maxLen ∧ z0.length = cap0 ∧ (∀ i, i < z0.length → w.cell? (x.add i) = some (.int .i64 (z0.getD i 0))) ∧ ∀ n ∈ z0, (Lit.int .i64 n).wf = true) (y0 : len0 * 8 ≤ 140737488351232) :
    Calls Try.prog 6 #[.slice a0 len0 cap0] w fun e w' => e = .returned (.bool true) ∧ Below w.heap.size w w' := by
  obtain ⟨l0, rfl, hr0, hm0, hw0, hc0⟩ := ReadsInt.ofRowC w0
  obtain ⟨k, h⟩ := P l0 hm0 y0 hw0
  refine (stockyardlaw24_ChunkerEdit.calls k _ _ l0 true w (Kd.C_of_reads (d := (0 : Int)) (h1 := fun _ => rfl) hr0) hc0 h rfl).mono ?_
  rintro e w' ⟨rfl, hd⟩
  exact ⟨rfl, hd⟩

end Go.Proofs.Ytgfodmpdnhebjaa.P
