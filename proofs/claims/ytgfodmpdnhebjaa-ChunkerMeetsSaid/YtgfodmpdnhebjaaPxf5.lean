-- Printed by a program (pr.py over the kit's print) out of the translation.
import Derived.Test.YtgfodmpdnhebjaaPx0
import Derived.Test.YtgfodmpdnhebjaaPxf16
import Derived.Test.YtgfodmpdnhebjaaPxf18
import Derived.Test.YtgfodmpdnhebjaaPxf19
import Derived.Test.YtgfodmpdnhebjaaPxf35
namespace Go.Proofs.Ytgfodmpdnhebjaa.P
open Go.RowKit Go.Proofs.YtgfodmpdnhebjaaW.PrintWords Go.Proofs.YtgfodmpdnhebjaaW.PrintLast Go.Proofs.YtgfodmpdnhebjaaW.PrintMore
attribute [local go_sem] max2_int min2_int max_two min_two max_three min_three max_four min_four   -- for this text's walks alone
set_option linter.unusedVariables false
set_option linter.unnecessarySimpa false
set_option linter.unusedSimpArgs false

/-! ### stockyardlaw24_ChunkerMeets: function 5 -/
mutual
def stockyardlaw24_ChunkerMeets.j0 : Nat → List Int → List Int → List Int → List Int → List Int → Bool → Option (Bool)
  | 0, _, _, _, _, _, _ => none
  | k + 1, x5, x6, x7, x8, x10, x54 => if x54 = true then (some false) else (stockyardlaw24_ChunkerMeets.l0 k x5 x6 x7 x8 x10 false 0)
def stockyardlaw24_ChunkerMeets.l0 : Nat → List Int → List Int → List Int → List Int → List Int → Bool → Int → Option (Bool)
  | 0, _, _, _, _, _, _, _ => none
  | k + 1, x5, x6, x7, x8, x10, x12, x13 => if x13 ≤ (x7.length : Int) then (if (wrap64 (x13 + (x5.length : Int))) = 0 then (if (wrap64 (x13 + (x6.length : Int))) = 0 then (if x12 = true then (if (true != true) = true then (some false) else (stockyardlaw24_ChunkerMeets.l0 k x5 x6 x7 x8 x10 true (wrap64 (x13 + 1)))) else (stockyardlaw24_ChunkerMeets.l0 k x5 x6 x7 x8 x10 true (wrap64 (x13 + 1)))) else ((stockyardlaw24_has.f k x10 (wrap64 (x13 + (x6.length : Int)))).bind fun t281 => (if x12 = true then (if (true != t281) = true then (some false) else (stockyardlaw24_ChunkerMeets.l0 k x5 x6 x7 x8 x10 true (wrap64 (x13 + 1)))) else (stockyardlaw24_ChunkerMeets.l0 k x5 x6 x7 x8 x10 t281 (wrap64 (x13 + 1)))))) else ((stockyardlaw24_has.f k x8 (wrap64 (x13 + (x5.length : Int)))).bind fun t282 => (if (wrap64 (x13 + (x6.length : Int))) = 0 then (if x12 = true then (if (t282 != true) = true then (some false) else (stockyardlaw24_ChunkerMeets.l0 k x5 x6 x7 x8 x10 true (wrap64 (x13 + 1)))) else (if t282 = true then (stockyardlaw24_ChunkerMeets.l0 k x5 x6 x7 x8 x10 true (wrap64 (x13 + 1))) else (stockyardlaw24_ChunkerMeets.l0 k x5 x6 x7 x8 x10 false (wrap64 (x13 + 1))))) else ((stockyardlaw24_has.f k x10 (wrap64 (x13 + (x6.length : Int)))).bind fun t283 => (if x12 = true then (if (t282 != t283) = true then (some false) else (stockyardlaw24_ChunkerMeets.l0 k x5 x6 x7 x8 x10 true (wrap64 (x13 + 1)))) else (if t282 = true then (stockyardlaw24_ChunkerMeets.l0 k x5 x6 x7 x8 x10 t283 (wrap64 (x13 + 1))) else (stockyardlaw24_ChunkerMeets.l0 k x5 x6 x7 x8 x10 false (wrap64 (x13 + 1))))))))) else (some true)
end
def stockyardlaw24_ChunkerMeets.f (k : Nat) (l0 : List Int) : Option (Bool) := (stockyardlaw24_made.f l0 0).bind fun bt242 => ((stockyardlaw24_text.f k l0 bt242.2.2.2.2 40).bind fun bt248 => ((stockyardlaw24_text.f k l0 bt248.2 40).bind fun bt252 => ((stockyardlaw24_text.f k l0 bt252.2 90).bind fun bt256 => ((stockyardmake_Joined.f k (([bt248.1, bt256.1] : List (List Int)))).bind fun t263 => ((stockyardlaw24_ends.f bt242.1 bt242.2.1 bt242.2.2.1 bt242.2.2.2.1 t263).bind fun bt266 => ((stockyardmake_Joined.f k (([bt252.1, bt256.1] : List (List Int)))).bind fun t273 => ((stockyardlaw24_ends.f bt242.1 bt242.2.1 bt242.2.2.1 bt242.2.2.2.1 t273).bind fun bt276 => ((stockyardlaw24_known.f k).bind fun t280 => (if t280 = true then (if bt266.2 = true then (stockyardlaw24_ChunkerMeets.j0 k bt248.1 bt252.1 bt256.1 bt266.1 bt276.1 (!bt276.2)) else (stockyardlaw24_ChunkerMeets.j0 k bt248.1 bt252.1 bt256.1 bt266.1 bt276.1 true)) else (stockyardlaw24_ChunkerMeets.j0 k bt248.1 bt252.1 bt256.1 bt266.1 bt276.1 true))))))))))
theorem stockyardlaw24_ChunkerMeets.mono_l : ∀ k, (∀ y0 y1 y2 y3 y4 y5, LeO (stockyardlaw24_ChunkerMeets.j0 k y0 y1 y2 y3 y4 y5) (stockyardlaw24_ChunkerMeets.j0 (k + 1) y0 y1 y2 y3 y4 y5)) ∧ (∀ y0 y1 y2 y3 y4 y5 y6, LeO (stockyardlaw24_ChunkerMeets.l0 k y0 y1 y2 y3 y4 y5 y6) (stockyardlaw24_ChunkerMeets.l0 (k + 1) y0 y1 y2 y3 y4 y5 y6))
  | 0 => ⟨fun _ _ _ _ _ _ r h => by simp [stockyardlaw24_ChunkerMeets.j0] at h, fun _ _ _ _ _ _ _ r h => by simp [stockyardlaw24_ChunkerMeets.l0] at h⟩
  | k + 1 => by
    obtain ⟨ih0, ih1⟩ := stockyardlaw24_ChunkerMeets.mono_l k
    refine ⟨?_, ?_⟩
    · intro y0 y1 y2 y3 y4 y5
      unfold stockyardlaw24_ChunkerMeets.j0
      repeat' first
      | (with_reducible exact ih0 _ _ _ _ _ _)
      | (with_reducible exact ih1 _ _ _ _ _ _ _)
      | (with_reducible exact stockyardlaw24_has.mono _ _ _)
      | (with_reducible exact stockyardlaw24_known.mono _)
      | (with_reducible exact stockyardlaw24_text.mono _ _ _ _)
      | (with_reducible exact stockyardmake_Joined.mono _ _)
      | (with_reducible exact LeO.refl _)
      | (with_reducible exact LeO.none _)
      | (with_reducible refine LeO.ite ?_ ?_)
      | (with_reducible refine LeO.bind ?_ (fun _ => ?_))
      | exact ih0 _ _ _ _ _ _
      | exact ih1 _ _ _ _ _ _ _
      | exact stockyardlaw24_has.mono _ _ _
      | exact stockyardlaw24_known.mono _
      | exact stockyardlaw24_text.mono _ _ _ _
      | exact stockyardmake_Joined.mono _ _
      | exact LeO.none _
      | refine LeO.ite ?_ ?_
      | refine LeO.bind ?_ (fun _ => ?_)
    · intro y0 y1 y2 y3 y4 y5 y6
      unfold stockyardlaw24_ChunkerMeets.l0
      repeat' first
      | (with_reducible exact ih0 _ _ _ _ _ _)
      | (with_reducible exact ih1 _ _ _ _ _ _ _)
      | (with_reducible exact stockyardlaw24_has.mono _ _ _)
      | (with_reducible exact stockyardlaw24_known.mono _)
      | (with_reducible exact stockyardlaw24_text.mono _ _ _ _)
      | (with_reducible exact stockyardmake_Joined.mono _ _)
      | (with_reducible exact LeO.refl _)
      | (with_reducible exact LeO.none _)
      | (with_reducible refine LeO.ite ?_ ?_)
      | (with_reducible refine LeO.bind ?_ (fun _ => ?_))
      | exact ih0 _ _ _ _ _ _
      | exact ih1 _ _ _ _ _ _ _
      | exact stockyardlaw24_has.mono _ _ _
      | exact stockyardlaw24_known.mono _
      | exact stockyardlaw24_text.mono _ _ _ _
      | exact stockyardmake_Joined.mono _ _
      | exact LeO.none _
      | refine LeO.ite ?_ ?_
      | refine LeO.bind ?_ (fun _ => ?_)
theorem stockyardlaw24_ChunkerMeets.mono : ∀ a0 k, LeO (stockyardlaw24_ChunkerMeets.f k a0) (stockyardlaw24_ChunkerMeets.f (k + 1) a0) := by
  intro a0 k
  obtain ⟨ih0, ih1⟩ := stockyardlaw24_ChunkerMeets.mono_l k
  unfold stockyardlaw24_ChunkerMeets.f
  repeat' first
      | (with_reducible exact ih0 _ _ _ _ _ _)
      | (with_reducible exact ih1 _ _ _ _ _ _ _)
      | (with_reducible exact stockyardlaw24_has.mono _ _ _)
      | (with_reducible exact stockyardlaw24_known.mono _)
      | (with_reducible exact stockyardlaw24_text.mono _ _ _ _)
      | (with_reducible exact stockyardmake_Joined.mono _ _)
      | (with_reducible exact LeO.refl _)
      | (with_reducible exact LeO.none _)
      | (with_reducible refine LeO.ite ?_ ?_)
      | (with_reducible refine LeO.bind ?_ (fun _ => ?_))
      | exact ih0 _ _ _ _ _ _
      | exact ih1 _ _ _ _ _ _ _
      | exact stockyardlaw24_has.mono _ _ _
      | exact stockyardlaw24_known.mono _
      | exact stockyardlaw24_text.mono _ _ _ _
      | exact stockyardmake_Joined.mono _ _
      | exact LeO.none _
      | refine LeO.ite ?_ ?_
      | refine LeO.bind ?_ (fun _ => ?_)
def stockyardlaw24_ChunkerMeets.T4 : Bool × List (List Nat × List Nat) := (true, [([], []), ([], []), ([], []), ([1, 2], [1, 2]), ([3], [3]), ([0, 4, 4], [0, 4]), ([5], [5]), ([6], [6]), ([6], [6]), ([7, 5, 0, 1, 2, 3, 4, 5, 6, 7], [7]), ([8, 9, 0, 1, 2, 3, 4, 5, 6, 7, 8, 9], [8])])
def stockyardlaw24_ChunkerMeets.B4 : List Nat := [0, 0, 0, 6, 14, 31, 63, 127, 127, 255, 1023]
theorem stockyardlaw24_ChunkerMeets.tab4 : rtab .any (opsOf Try.f5 4) = stockyardlaw24_ChunkerMeets.T4 := by kernel_rfl
theorem stockyardlaw24_ChunkerMeets.bits4 : waitsOk stockyardlaw24_ChunkerMeets.T4.2 stockyardlaw24_ChunkerMeets.B4 = true := by kernel_rfl
def stockyardlaw24_ChunkerMeets.T5 : Bool × List (List Nat × List Nat) := (true, [([], []), ([], []), ([], []), ([1, 2], [1, 2]), ([3], [3]), ([0, 4, 4], [0, 4]), ([5], [5]), ([6], [6]), ([6], [6]), ([7, 5, 0, 1, 2, 3, 4, 5, 6, 7], [7]), ([8, 9, 0, 1, 2, 3, 4, 5, 6, 7, 8, 9], [8])])
def stockyardlaw24_ChunkerMeets.B5 : List Nat := [0, 0, 0, 6, 14, 31, 63, 127, 127, 255, 1023]
theorem stockyardlaw24_ChunkerMeets.tab5 : rtab .any (opsOf Try.f5 5) = stockyardlaw24_ChunkerMeets.T5 := by kernel_rfl
theorem stockyardlaw24_ChunkerMeets.bits5 : waitsOk stockyardlaw24_ChunkerMeets.T5.2 stockyardlaw24_ChunkerMeets.B5 = true := by kernel_rfl
set_option maxHeartbeats 8000000 in
set_option maxRecDepth 100000 in
theorem stockyardlaw24_ChunkerMeets.calls (k : Nat) (A0 : Option Addr) (c0 : Nat) (l0 : List Int) (r : Bool) (w : World) (hr0 : Kd.C (Kd.int .i64) w A0 l0.length l0) (hc0 : l0.length ≤ c0) (h : stockyardlaw24_ChunkerMeets.f k l0 = some r) (hrt : r = true) :
    Calls Try.prog 5 #[.slice A0 l0.length c0] w fun e w' => e = .returned (.bool r) ∧ Below w.heap.size w w' := by
  have HRT := Aside0.mk hrt
  clear hrt
  have hu25 := Try.underlying25
  have hu28 := Try.underlying28
  have HR0 := Aside0.mk hr0
  have HC0 := Aside0.mk hc0
  clear hr0 hc0
  have HB := Aside0.mk (Below.refl w.heap.size w)
  have H : ((stockyardlaw24_made.f l0 0).bind fun bt242 => ((stockyardlaw24_text.f k l0 bt242.2.2.2.2 40).bind fun bt248 => ((stockyardlaw24_text.f k l0 bt248.2 40).bind fun bt252 => ((stockyardlaw24_text.f k l0 bt252.2 90).bind fun bt256 => ((stockyardmake_Joined.f k (([bt248.1, bt256.1] : List (List Int)))).bind fun t263 => ((stockyardlaw24_ends.f bt242.1 bt242.2.1 bt242.2.2.1 bt242.2.2.2.1 t263).bind fun bt266 => ((stockyardmake_Joined.f k (([bt252.1, bt256.1] : List (List Int)))).bind fun t273 => ((stockyardlaw24_ends.f bt242.1 bt242.2.1 bt242.2.2.1 bt242.2.2.2.1 t273).bind fun bt276 => ((stockyardlaw24_known.f k).bind fun t280 => (if t280 = true then (if bt266.2 = true then (stockyardlaw24_ChunkerMeets.j0 k bt248.1 bt252.1 bt256.1 bt266.1 bt276.1 (!bt276.2)) else (stockyardlaw24_ChunkerMeets.j0 k bt248.1 bt252.1 bt256.1 bt266.1 bt276.1 true)) else (stockyardlaw24_ChunkerMeets.j0 k bt248.1 bt252.1 bt256.1 bt266.1 bt276.1 true))))))))))) = some r := h
  clear h
  replace H := Option.bind_eq_some_iff.mp H
  obtain ⟨⟨t242, t243, t244, t245, t246⟩, A20, H⟩ := H
  replace H : ((stockyardlaw24_text.f k l0 t246 40).bind fun bt248 => ((stockyardlaw24_text.f k l0 bt248.2 40).bind fun bt252 => ((stockyardlaw24_text.f k l0 bt252.2 90).bind fun bt256 => ((stockyardmake_Joined.f k (([bt248.1, bt256.1] : List (List Int)))).bind fun t263 => ((stockyardlaw24_ends.f t242 t243 t244 t245 t263).bind fun bt266 => ((stockyardmake_Joined.f k (([bt252.1, bt256.1] : List (List Int)))).bind fun t273 => ((stockyardlaw24_ends.f t242 t243 t244 t245 t273).bind fun bt276 => ((stockyardlaw24_known.f k).bind fun t280 => (if t280 = true then (if bt266.2 = true then (stockyardlaw24_ChunkerMeets.j0 k bt248.1 bt252.1 bt256.1 bt266.1 bt276.1 (!bt276.2)) else (stockyardlaw24_ChunkerMeets.j0 k bt248.1 bt252.1 bt256.1 bt266.1 bt276.1 true)) else (stockyardlaw24_ChunkerMeets.j0 k bt248.1 bt252.1 bt256.1 bt266.1 bt276.1 true)))))))))) = some r := H
  have A2 := Aside0.mk A20
  clear A20
  replace H := Option.bind_eq_some_iff.mp H
  obtain ⟨⟨t248, t251⟩, A30, H⟩ := H
  replace H : ((stockyardlaw24_text.f k l0 t251 40).bind fun bt252 => ((stockyardlaw24_text.f k l0 bt252.2 90).bind fun bt256 => ((stockyardmake_Joined.f k (([t248, bt256.1] : List (List Int)))).bind fun t263 => ((stockyardlaw24_ends.f t242 t243 t244 t245 t263).bind fun bt266 => ((stockyardmake_Joined.f k (([bt252.1, bt256.1] : List (List Int)))).bind fun t273 => ((stockyardlaw24_ends.f t242 t243 t244 t245 t273).bind fun bt276 => ((stockyardlaw24_known.f k).bind fun t280 => (if t280 = true then (if bt266.2 = true then (stockyardlaw24_ChunkerMeets.j0 k t248 bt252.1 bt256.1 bt266.1 bt276.1 (!bt276.2)) else (stockyardlaw24_ChunkerMeets.j0 k t248 bt252.1 bt256.1 bt266.1 bt276.1 true)) else (stockyardlaw24_ChunkerMeets.j0 k t248 bt252.1 bt256.1 bt266.1 bt276.1 true))))))))) = some r := H
  have A3 := Aside0.mk A30
  clear A30
  replace H := Option.bind_eq_some_iff.mp H
  obtain ⟨⟨t252, t255⟩, A40, H⟩ := H
  replace H : ((stockyardlaw24_text.f k l0 t255 90).bind fun bt256 => ((stockyardmake_Joined.f k (([t248, bt256.1] : List (List Int)))).bind fun t263 => ((stockyardlaw24_ends.f t242 t243 t244 t245 t263).bind fun bt266 => ((stockyardmake_Joined.f k (([t252, bt256.1] : List (List Int)))).bind fun t273 => ((stockyardlaw24_ends.f t242 t243 t244 t245 t273).bind fun bt276 => ((stockyardlaw24_known.f k).bind fun t280 => (if t280 = true then (if bt266.2 = true then (stockyardlaw24_ChunkerMeets.j0 k t248 t252 bt256.1 bt266.1 bt276.1 (!bt276.2)) else (stockyardlaw24_ChunkerMeets.j0 k t248 t252 bt256.1 bt266.1 bt276.1 true)) else (stockyardlaw24_ChunkerMeets.j0 k t248 t252 bt256.1 bt266.1 bt276.1 true)))))))) = some r := H
  have A4 := Aside0.mk A40
  clear A40
  replace H := Option.bind_eq_some_iff.mp H
  obtain ⟨⟨t256, t259⟩, A50, H⟩ := H
  replace H : ((stockyardmake_Joined.f k (([t248, t256] : List (List Int)))).bind fun t263 => ((stockyardlaw24_ends.f t242 t243 t244 t245 t263).bind fun bt266 => ((stockyardmake_Joined.f k (([t252, t256] : List (List Int)))).bind fun t273 => ((stockyardlaw24_ends.f t242 t243 t244 t245 t273).bind fun bt276 => ((stockyardlaw24_known.f k).bind fun t280 => (if t280 = true then (if bt266.2 = true then (stockyardlaw24_ChunkerMeets.j0 k t248 t252 t256 bt266.1 bt276.1 (!bt276.2)) else (stockyardlaw24_ChunkerMeets.j0 k t248 t252 t256 bt266.1 bt276.1 true)) else (stockyardlaw24_ChunkerMeets.j0 k t248 t252 t256 bt266.1 bt276.1 true))))))) = some r := H
  have A5 := Aside0.mk A50
  clear A50
  obtain ⟨y260, hy260⟩ : ∃ y_ : List (List Int), y_ = (([t248, t256] : List (List Int))) := ⟨_, rfl⟩
  replace H : ((stockyardmake_Joined.f k y260).bind fun t263 => ((stockyardlaw24_ends.f t242 t243 t244 t245 t263).bind fun bt266 => ((stockyardmake_Joined.f k (([t252, t256] : List (List Int)))).bind fun t273 => ((stockyardlaw24_ends.f t242 t243 t244 t245 t273).bind fun bt276 => ((stockyardlaw24_known.f k).bind fun t280 => (if t280 = true then (if bt266.2 = true then (stockyardlaw24_ChunkerMeets.j0 k t248 t252 t256 bt266.1 bt276.1 (!bt276.2)) else (stockyardlaw24_ChunkerMeets.j0 k t248 t252 t256 bt266.1 bt276.1 true)) else (stockyardlaw24_ChunkerMeets.j0 k t248 t252 t256 bt266.1 bt276.1 true))))))) = some r := by first | (rw [hy260]; with_reducible exact H) | (have H2_ := (Option.bind_some _ _).symm.trans H; rw [hy260]; with_reducible exact H2_) | (have H2_ := (Option.bind_some _ _).symm.trans H; with_reducible exact H2_) | with_reducible exact H | (rw [hy260]; exact H) | exact H
  have Ny260 := Aside0.mk hy260
  clear hy260
  replace H := Option.bind_eq_some_iff.mp H
  obtain ⟨t263, A60, H⟩ := H
  replace H : ((stockyardlaw24_ends.f t242 t243 t244 t245 t263).bind fun bt266 => ((stockyardmake_Joined.f k (([t252, t256] : List (List Int)))).bind fun t273 => ((stockyardlaw24_ends.f t242 t243 t244 t245 t273).bind fun bt276 => ((stockyardlaw24_known.f k).bind fun t280 => (if t280 = true then (if bt266.2 = true then (stockyardlaw24_ChunkerMeets.j0 k t248 t252 t256 bt266.1 bt276.1 (!bt276.2)) else (stockyardlaw24_ChunkerMeets.j0 k t248 t252 t256 bt266.1 bt276.1 true)) else (stockyardlaw24_ChunkerMeets.j0 k t248 t252 t256 bt266.1 bt276.1 true)))))) = some r := H
  have A6 := Aside0.mk A60
  clear A60
  replace H := Option.bind_eq_some_iff.mp H
  obtain ⟨⟨t266, t269⟩, A70, H⟩ := H
  replace H : ((stockyardmake_Joined.f k (([t252, t256] : List (List Int)))).bind fun t273 => ((stockyardlaw24_ends.f t242 t243 t244 t245 t273).bind fun bt276 => ((stockyardlaw24_known.f k).bind fun t280 => (if t280 = true then (if t269 = true then (stockyardlaw24_ChunkerMeets.j0 k t248 t252 t256 t266 bt276.1 (!bt276.2)) else (stockyardlaw24_ChunkerMeets.j0 k t248 t252 t256 t266 bt276.1 true)) else (stockyardlaw24_ChunkerMeets.j0 k t248 t252 t256 t266 bt276.1 true))))) = some r := H
  have A7 := Aside0.mk A70
  clear A70
  obtain ⟨y270, hy270⟩ : ∃ y_ : List (List Int), y_ = (([t252, t256] : List (List Int))) := ⟨_, rfl⟩
  replace H : ((stockyardmake_Joined.f k y270).bind fun t273 => ((stockyardlaw24_ends.f t242 t243 t244 t245 t273).bind fun bt276 => ((stockyardlaw24_known.f k).bind fun t280 => (if t280 = true then (if t269 = true then (stockyardlaw24_ChunkerMeets.j0 k t248 t252 t256 t266 bt276.1 (!bt276.2)) else (stockyardlaw24_ChunkerMeets.j0 k t248 t252 t256 t266 bt276.1 true)) else (stockyardlaw24_ChunkerMeets.j0 k t248 t252 t256 t266 bt276.1 true))))) = some r := by first | (rw [hy270]; with_reducible exact H) | (have H2_ := (Option.bind_some _ _).symm.trans H; rw [hy270]; with_reducible exact H2_) | (have H2_ := (Option.bind_some _ _).symm.trans H; with_reducible exact H2_) | with_reducible exact H | (rw [hy270]; exact H) | exact H
  have Ny270 := Aside0.mk hy270
  clear hy270
  replace H := Option.bind_eq_some_iff.mp H
  obtain ⟨t273, A80, H⟩ := H
  replace H : ((stockyardlaw24_ends.f t242 t243 t244 t245 t273).bind fun bt276 => ((stockyardlaw24_known.f k).bind fun t280 => (if t280 = true then (if t269 = true then (stockyardlaw24_ChunkerMeets.j0 k t248 t252 t256 t266 bt276.1 (!bt276.2)) else (stockyardlaw24_ChunkerMeets.j0 k t248 t252 t256 t266 bt276.1 true)) else (stockyardlaw24_ChunkerMeets.j0 k t248 t252 t256 t266 bt276.1 true)))) = some r := H
  have A8 := Aside0.mk A80
  clear A80
  replace H := Option.bind_eq_some_iff.mp H
  obtain ⟨⟨t276, t279⟩, A90, H⟩ := H
  replace H : ((stockyardlaw24_known.f k).bind fun t280 => (if t280 = true then (if t269 = true then (stockyardlaw24_ChunkerMeets.j0 k t248 t252 t256 t266 t276 (!t279)) else (stockyardlaw24_ChunkerMeets.j0 k t248 t252 t256 t266 t276 true)) else (stockyardlaw24_ChunkerMeets.j0 k t248 t252 t256 t266 t276 true))) = some r := H
  have A9 := Aside0.mk A90
  clear A90
  have HC10 := Aside0.mk H
  clear H
  go_enter Try.func5, Try.ntmps5
  try go_wp2_with (first | ((with_reducible refine gate_dst (N := 18) rfl ?_); (try (refine gate_guard (by rfl) ?_; dsimp only)); refine box_event ?hg (N := 18) ?hd (cs := #[.slice A0 l0.length c0, .int .i64 0]) (t := 25) ?hr ?_; (case hd => rfl); (case hg => rfl); (case hr => first | (go_simp; done) | (go_simp; rfl)); intro gb241 hg w11 hbox hb; have n0_ := Aside0.mk (below_step (by repeat (first | (with_reducible first | exact HB.out | apply below_alloc | apply pw_below_drewN | apply below_drew1) | exact HB.out)) hb); have n1_ := Aside0.mk ((by rw [hg]; exact (below_size (by repeat (first | (with_reducible first | exact HB.out | apply below_alloc | apply pw_below_drewN | apply below_drew1) | exact HB.out))) : w.heap.size ≤ gb241)); have n2_ := Aside0.mk ((by rw [hg]; exact (below_size (by repeat (first | (with_reducible first | exact HB.out | apply below_alloc | apply pw_below_drewN | apply below_drew1) | exact HB.out))) : w.heap.size ≤ gb241)); have n3_ := Aside0.mk ((show IsS25 w w11 gb241 l0 0 from ⟨_, _, hbox, (by rw [hg]; exact (below_size (by repeat (first | (with_reducible first | exact HB.out | apply below_alloc | apply pw_below_drewN | apply below_drew1) | exact HB.out))) : w.heap.size ≤ gb241), HR0.out⟩)); clear HB; have HB := n0_; have GW241 := n1_; have GE241 := n2_; have HI241 := n3_; clear n0_ n1_ n2_ n3_; clear hb hbox hg) | ((with_reducible refine gate_callee (f := 14) rfl ?_); refine goesL_ (some 20) rfl rfl Try.func14 (by kernel_rfl) rfl #[.pointer (some ⟨gb241, 0, none⟩)] rfl (by (try simp only [List.map_toArray, List.map_cons, List.map_nil]); first | done | rfl | (simp only [List.length_drop, List.length_take]; rfl)) ?_; (with_reducible refine (stockyardlaw24_made.calls gb241 l0 0 t242 t243 t244 t245 t246 w _ ?side1 ?side2 A2.out).mono ?_); (case side1 => repeat (first | (with_reducible first | exact HI241.out | apply IsS25.alloc | apply IsS25.drewN | apply IsS25.drew | apply IsS25.set_1) | exact HI241.out)); (case side2 => repeat (first | (with_reducible first | exact HB.out | apply below_alloc | apply pw_below_drewN | apply below_drew1 | refine below_set ?_ (IsS25.ge HI241.out)) | exact HB.out)); rintro e w12 ⟨rfl, hi, hb, hk⟩; refine ⟨_, rfl, ?_⟩; have n0_ := Aside0.mk (hb); have n1_ := Aside0.mk (hi); clear HB; clear HI241; have HB := n0_; have HI241 := n1_; clear n0_ n1_; (try clear hb); (try clear hb2); (try clear hk); (try clear hi)) | ((with_reducible refine gate_dst (N := 4) rfl ?_); (try (refine gate_guard (by rfl) ?_; dsimp only)); refine box_event ?hg (N := 4) ?hd (cs := #[.int .i64 0, .int .i64 0, .int .i64 0, .int .u64 0]) (t := 28) ?hr ?_; (case hd => rfl); (case hg => rfl); (case hr => first | (go_simp; done) | (go_simp; rfl)); intro gb247 hg w13 hbox hb; have n0_ := Aside0.mk (IsS25.below (by repeat (first | (with_reducible first | exact HI241.out | apply IsS25.alloc | apply IsS25.drewN | apply IsS25.drew | apply IsS25.set_1) | exact HI241.out)) hb); have n1_ := Aside0.mk (below_step (by repeat (first | (with_reducible first | exact HB.out | apply below_alloc | apply pw_below_drewN | apply below_drew1 | refine below_set ?_ (IsS25.ge HI241.out)) | exact HB.out)) hb); have n2_ := Aside0.mk (hbox); have n3_ := Aside0.mk ((by rw [hg]; exact (below_size (by repeat (first | (with_reducible first | exact HB.out | apply below_alloc | apply pw_below_drewN | apply below_drew1 | refine below_set ?_ (IsS25.ge HI241.out)) | exact HB.out))) : w.heap.size ≤ gb247)); have n4_ := Aside0.mk ((by rw [hg]; exact (below_size (by repeat (first | (with_reducible first | exact HB.out | apply below_alloc | apply pw_below_drewN | apply below_drew1 | refine below_set ?_ (IsS25.ge HI241.out)) | exact HB.out))) : w.heap.size ≤ gb247)); have n5_ := Aside0.mk ((by rw [hg]; exact Nat.ne_of_lt (IsS25.lt (show IsS25 w _ gb241 l0 t246 from by repeat (first | (with_reducible first | exact HI241.out | apply IsS25.alloc | apply IsS25.drewN | apply IsS25.drew | apply IsS25.set_1) | exact HI241.out))) : gb241 ≠ gb247)); have n6_ := Aside0.mk ((by rw [hg]; exact Nat.ne_of_gt (IsS25.lt (show IsS25 w _ gb241 l0 t246 from by repeat (first | (with_reducible first | exact HI241.out | apply IsS25.alloc | apply IsS25.drewN | apply IsS25.drew | apply IsS25.set_1) | exact HI241.out))) : gb247 ≠ gb241)); clear HI241; clear HB; have HI241 := n0_; have HB := n1_; have BK247 := n2_; have GW247 := n3_; have GE247 := n4_; have NB241_247 := n5_; have NB247_241 := n6_; clear n0_ n1_ n2_ n3_ n4_ n5_ n6_; clear hb hbox hg; have hnb14 := NB247_241.out; have hnc14 := NB241_247.out; have hcz15_0 : w13.cell? ⟨gb247, 0, none⟩ = some (.int .i64 0) := (blk_cell BK247.out 0).trans rfl; have hcz15_1 : w13.cell? ⟨gb247, 1, none⟩ = some (.int .i64 0) := (blk_cell BK247.out 1).trans rfl; have hcz15_2 : w13.cell? ⟨gb247, 2, none⟩ = some (.int .i64 0) := (blk_cell BK247.out 2).trans rfl; have hcz15_3 : w13.cell? ⟨gb247, 3, none⟩ = some (.int .u64 0) := (blk_cell BK247.out 3).trans rfl; have hfz15_0 := blk_frozen BK247.out 0; have hfz15_1 := blk_frozen BK247.out 1; have hfz15_2 := blk_frozen BK247.out 2; have hfz15_3 := blk_frozen BK247.out 3) | ((with_reducible refine gate_callee (f := 15) rfl ?_); refine goesL_ (some 22) rfl rfl Try.func15 (by kernel_rfl) rfl #[.pointer (some ⟨gb241, 0, none⟩), .int .i64 40] rfl (by (try simp only [List.map_toArray, List.map_cons, List.map_nil]); first | done | rfl | (simp only [List.length_drop, List.length_take]; rfl)) ?_; (with_reducible refine (stockyardlaw24_text.calls k gb241 l0 t246 40 t248 t251 w _ ?side1 ?side2 A3.out).mono ?_); (case side1 => repeat (first | (with_reducible first | exact HI241.out | apply IsS25.alloc | apply IsS25.drewN | apply IsS25.drew | apply IsS25.set_1 | refine IsS25.far ?_ NB241_247.out _) | exact HI241.out)); (case side2 => repeat (first | (with_reducible first | exact HB.out | apply below_alloc | apply pw_below_drewN | apply below_drew1 | refine below_set ?_ (IsS25.ge HI241.out) | refine below_set ?_ GE247.out) | exact HB.out)); rintro e w16 ⟨v249, rfl, ho0, hi, hb, hk⟩; refine ⟨_, rfl, ?_⟩; have n0_ := Aside0.mk (KeepBut.blk hk (g' := gb247) (o := .cells #[.int .i64 t242, .int .i64 t243, .int .i64 t244, .int .u64 t245] 28 (0, 0)) (by (with_reducible repeat (first | refine blk_drewN ?_ _ | refine blk_drew ?_ | refine blk_alloc ?_ _)); refine blk_put (cs := #[.int .i64 t242, .int .i64 t243, .int .i64 t244, .int .u64 0]) ?_ 3 _ rfl; (with_reducible repeat (first | refine blk_drewN ?_ _ | refine blk_drew ?_ | refine blk_alloc ?_ _)); refine blk_put (cs := #[.int .i64 t242, .int .i64 t243, .int .i64 0, .int .u64 0]) ?_ 2 _ rfl; (with_reducible repeat (first | refine blk_drewN ?_ _ | refine blk_drew ?_ | refine blk_alloc ?_ _)); refine blk_put (cs := #[.int .i64 t242, .int .i64 0, .int .i64 0, .int .u64 0]) ?_ 1 _ rfl; (with_reducible repeat (first | refine blk_drewN ?_ _ | refine blk_drew ?_ | refine blk_alloc ?_ _)); refine blk_put (cs := #[.int .i64 0, .int .i64 0, .int .i64 0, .int .u64 0]) ?_ 0 _ rfl; (with_reducible repeat (first | refine blk_drewN ?_ _ | refine blk_drew ?_ | refine blk_alloc ?_ _)); exact BK247.out) NB247_241.out (by simp)); have n1_ := Aside0.mk (Kd.R_lower ho0 (below_size (by repeat (first | (with_reducible first | exact HB.out | apply below_alloc | apply pw_below_drewN | apply below_drew1 | refine below_set ?_ (IsS25.ge HI241.out) | refine below_set ?_ GE247.out) | exact HB.out)))); have n2_ := Aside0.mk (hb); have n3_ := Aside0.mk (hi); clear BK247; clear HB; clear HI241; have BK247 := n0_; have HO250 := n1_; have HB := n2_; have HI241 := n3_; clear n0_ n1_ n2_ n3_; (try clear hb); (try clear hb2); (try clear hk); (try clear hi); (try clear ho0)) | ((with_reducible refine gate_callee (f := 15) rfl ?_); refine goesL_ (some 24) rfl rfl Try.func15 (by kernel_rfl) rfl #[.pointer (some ⟨gb241, 0, none⟩), .int .i64 40] rfl (by (try simp only [List.map_toArray, List.map_cons, List.map_nil]); first | done | rfl | (simp only [List.length_drop, List.length_take]; rfl)) ?_; (with_reducible refine (stockyardlaw24_text.calls k gb241 l0 t251 40 t252 t255 w _ ?side1 ?side2 A4.out).mono ?_); (case side1 => repeat (first | (with_reducible first | exact HI241.out | apply IsS25.alloc | apply IsS25.drewN | apply IsS25.drew | apply IsS25.set_1 | refine IsS25.far ?_ NB241_247.out _) | exact HI241.out)); (case side2 => repeat (first | (with_reducible first | exact HB.out | apply below_alloc | apply pw_below_drewN | apply below_drew1 | refine below_set ?_ (IsS25.ge HI241.out) | refine below_set ?_ GE247.out) | exact HB.out)); rintro e w17 ⟨v253, rfl, ho0, hi, hb, hk⟩; refine ⟨_, rfl, ?_⟩; have n0_ := Aside0.mk (KeepBut.blk hk (g' := gb247) (o := .cells #[.int .i64 t242, .int .i64 t243, .int .i64 t244, .int .u64 t245] 28 (0, 0)) (by (with_reducible repeat (first | refine blk_drewN ?_ _ | refine blk_drew ?_ | refine blk_alloc ?_ _)); exact BK247.out) NB247_241.out (by simp)); have n1_ := Aside0.mk (Kd.R_mono (Kd.R_told (Kd.R_oldK (IsS25.apart (show IsS25 w _ gb241 l0 t251 from by repeat (first | (with_reducible first | exact HI241.out | apply IsS25.alloc | apply IsS25.drewN | apply IsS25.drew | apply IsS25.set_1 | refine IsS25.far ?_ NB241_247.out _) | exact HI241.out)) (by (with_reducible repeat (first | apply Kd.R_alloc | apply Kd.R_drewN | apply Kd.R_drew)); exact HO250.out) (by decide)) hk) (Kd.R_base ho0)) (fun _ h_ => h_.1)); have n2_ := Aside0.mk (Kd.R_lower (Kd.R_new' ho0 (Kd.R_lt (by (with_reducible repeat (first | apply Kd.R_alloc | apply Kd.R_drewN | apply Kd.R_drew)); exact HO250.out))) (below_size (by repeat (first | (with_reducible first | exact HB.out | apply below_alloc | apply pw_below_drewN | apply below_drew1 | refine below_set ?_ (IsS25.ge HI241.out) | refine below_set ?_ GE247.out) | exact HB.out)))); have n3_ := Aside0.mk (hb); have n4_ := Aside0.mk (hi); clear BK247; clear HO250; clear HB; clear HI241; have BK247 := n0_; have HO250 := n1_; have HO254 := n2_; have HB := n3_; have HI241 := n4_; clear n0_ n1_ n2_ n3_ n4_; (try clear hb); (try clear hb2); (try clear hk); (try clear hi); (try clear ho0)) | ((with_reducible refine gate_callee (f := 15) rfl ?_); refine goesL_ (some 26) rfl rfl Try.func15 (by kernel_rfl) rfl #[.pointer (some ⟨gb241, 0, none⟩), .int .i64 90] rfl (by (try simp only [List.map_toArray, List.map_cons, List.map_nil]); first | done | rfl | (simp only [List.length_drop, List.length_take]; rfl)) ?_; (with_reducible refine (stockyardlaw24_text.calls k gb241 l0 t255 90 t256 t259 w _ ?side1 ?side2 A5.out).mono ?_); (case side1 => repeat (first | (with_reducible first | exact HI241.out | apply IsS25.alloc | apply IsS25.drewN | apply IsS25.drew | apply IsS25.set_1 | refine IsS25.far ?_ NB241_247.out _) | exact HI241.out)); (case side2 => repeat (first | (with_reducible first | exact HB.out | apply below_alloc | apply pw_below_drewN | apply below_drew1 | refine below_set ?_ (IsS25.ge HI241.out) | refine below_set ?_ GE247.out) | exact HB.out)); rintro e w18 ⟨v257, rfl, ho0, hi, hb, hk⟩; refine ⟨_, rfl, ?_⟩; have n0_ := Aside0.mk (KeepBut.blk hk (g' := gb247) (o := .cells #[.int .i64 t242, .int .i64 t243, .int .i64 t244, .int .u64 t245] 28 (0, 0)) (by (with_reducible repeat (first | refine blk_drewN ?_ _ | refine blk_drew ?_ | refine blk_alloc ?_ _)); exact BK247.out) NB247_241.out (by simp)); have n1_ := Aside0.mk (Kd.R_mono (Kd.R_told (Kd.R_oldK (IsS25.apart (show IsS25 w _ gb241 l0 t255 from by repeat (first | (with_reducible first | exact HI241.out | apply IsS25.alloc | apply IsS25.drewN | apply IsS25.drew | apply IsS25.set_1 | refine IsS25.far ?_ NB241_247.out _) | exact HI241.out)) (by (with_reducible repeat (first | apply Kd.R_alloc | apply Kd.R_drewN | apply Kd.R_drew)); exact HO250.out) (by decide)) hk) (Kd.R_base ho0)) (fun _ h_ => h_.1)); have n2_ := Aside0.mk (Kd.R_mono (Kd.R_told (Kd.R_oldK (IsS25.apart (show IsS25 w _ gb241 l0 t255 from by repeat (first | (with_reducible first | exact HI241.out | apply IsS25.alloc | apply IsS25.drewN | apply IsS25.drew | apply IsS25.set_1 | refine IsS25.far ?_ NB241_247.out _) | exact HI241.out)) (by (with_reducible repeat (first | apply Kd.R_alloc | apply Kd.R_drewN | apply Kd.R_drew)); exact HO254.out) (by decide)) hk) (Kd.R_base ho0)) (fun _ h_ => h_.1)); have n3_ := Aside0.mk (Kd.R_lower (Kd.R_new' (Kd.R_new' ho0 (Kd.R_lt (by (with_reducible repeat (first | apply Kd.R_alloc | apply Kd.R_drewN | apply Kd.R_drew)); exact HO250.out))) (Kd.R_lt (by (with_reducible repeat (first | apply Kd.R_alloc | apply Kd.R_drewN | apply Kd.R_drew)); exact HO254.out))) (below_size (by repeat (first | (with_reducible first | exact HB.out | apply below_alloc | apply pw_below_drewN | apply below_drew1 | refine below_set ?_ (IsS25.ge HI241.out) | refine below_set ?_ GE247.out) | exact HB.out)))); have n4_ := Aside0.mk (hb); have n5_ := Aside0.mk (hi); clear BK247; clear HO250; clear HO254; clear HB; clear HI241; have BK247 := n0_; have HO250 := n1_; have HO254 := n2_; have HO258 := n3_; have HB := n4_; have HI241 := n5_; clear n0_ n1_ n2_ n3_ n4_ n5_; (try clear hb); (try clear hb2); (try clear hk); (try clear hi); (try clear ho0)))
  have n0_ := Aside0.mk (Kd.R_drew HO250.out)
  have n1_ := Aside0.mk (Kd.R_drew HO254.out)
  have n2_ := Aside0.mk (Kd.R_drew HO258.out)
  have n3_ := Aside0.mk (blk_drew BK247.out)
  have n4_ := Aside0.mk (IsS25.drew HI241.out)
  have n5_ := Aside0.mk (below_drew1 HB.out)
  clear HO250
  clear HO254
  clear HO258
  clear BK247
  clear HI241
  clear HB
  have HO250 := n0_
  have HO254 := n1_
  have HO258 := n2_
  have BK247 := n3_
  have HI241 := n4_
  have HB := n5_
  clear n0_ n1_ n2_ n3_ n4_ n5_
  obtain ⟨Ao20, co20, eo20⟩ := Kd.R_slice HO250.out
  (first | subst eo20 | (injection eo20 with f1_ f2_ f3_; have f4_ := f1_.symm; have f5_ := f3_.symm; clear f1_ f2_ f3_; subst f4_; subst f5_))
  obtain ⟨Ao21, co21, eo21⟩ := Kd.R_slice HO258.out
  (first | subst eo21 | (injection eo21 with f1_ f2_ f3_; have f4_ := f1_.symm; have f5_ := f3_.symm; clear f1_ f2_ f3_; subst f4_; subst f5_))
  refine start_ (n := 11) (S := fun w' => w'.cell? ⟨gb247, 0, none⟩ = some (.int .i64 t242) ∧ w'.cell? ⟨gb247, 1, none⟩ = some (.int .i64 t243) ∧ w'.cell? ⟨gb247, 2, none⟩ = some (.int .i64 t244) ∧ w'.cell? ⟨gb247, 3, none⟩ = some (.int .u64 t245)) (ds := []) #[false, false, false, false, false, false, false, false, false, false, false] (by kernel_rfl) rfl rfl ⟨(blk_cell BK247.out 0).trans rfl, (blk_cell BK247.out 1).trans rfl, (blk_cell BK247.out 2).trans rfl, (blk_cell BK247.out 3).trans rfl⟩ (fun hHeld => ?_); refine with_tabW stockyardlaw24_ChunkerMeets.tab4 stockyardlaw24_ChunkerMeets.bits4 (fun HT_ HW_ => ?_)
  generalize w18.drew = w19 at HO250 HO254 HO258 BK247 HI241 HB hHeld ⊢
  refine pure_ (i := 1) (N := some 29) (v := ?_) (a' := ?_) #[false, true, false, false, false, false, false, false, false, false, false] rfl rfl (any_of HT_.out (by kernel_rfl)) (fun _ _ _ h => h) (Or.inl ⟨by rfl, ?_⟩) ?_ ?_
  rotate_left
  · intro w'
    go_simp
    with_reducible rfl
  rotate_left
  · simp only [Act.put, List.setIfInBounds_toArray, List.set_cons_zero, List.set_cons_succ, i64_w, i32_w]
    rfl
  refine pure_ (i := 2) (N := some 30) (v := ?_) (a' := ?_) #[false, true, true, false, false, false, false, false, false, false, false] rfl rfl (any_of HT_.out (by kernel_rfl)) (fun _ _ _ h => h) (Or.inl ⟨by rfl, ?_⟩) ?_ ?_
  rotate_left
  · intro w'
    go_simp
    with_reducible rfl
  rotate_left
  · simp only [Act.put, List.setIfInBounds_toArray, List.set_cons_zero, List.set_cons_succ, i64_w, i32_w]
    rfl
  refine take_ (i := 0) (N := some 28) (v := ?_) (a' := ?_) #[true, true, true, false, false, false, false, false, false, false, false] rfl rfl (take_ofW HT_.out HW_.out (by kernel_rfl)) (fun _ _ _ h => h) (Or.inl ⟨by rfl, ?_⟩) hHeld ?_ ?_
  rotate_left
  · rintro w' ⟨s0, s1, s2, s3⟩
    go_simp
    with_reducible rfl
  rotate_left
  · simp only [Act.put, List.setIfInBounds_toArray, List.set_cons_zero, List.set_cons_succ, i64_w, i32_w]
    rfl
  refine one_ (i := 3) (N := some 31) #[true, true, true, true, false, false, false, false, false, false, false] rfl rfl (one_of HT_.out (by kernel_rfl)) (by decide) (fun K hK => ?_)
  refine Kd.N_lit_step (Kd.slice 5 (Kd.int .u8)) _ 30 ?hg (N' := 31) ?hd (xs := ([t248, t256] : List (List Int))) (inner := [.slice Ao20 t248.length co20, .slice Ao21 t256.length co21]) (ok := (fun k_ => some k_ ≠ (v253 : Value).ownBlock ∧ k_ ≠ gb247 ∧ k_ ≠ gb241)) (okp := (fun k_ => some k_ ≠ (v253 : Value).ownBlock ∧ k_ ≠ gb247 ∧ k_ ≠ gb241)) ?hr ?hp (fun _ hk => hk) ((show ∀ k_, w19.heap.size ≤ k_ → (fun k_ => some k_ ≠ (v253 : Value).ownBlock ∧ k_ ≠ gb247 ∧ k_ ≠ gb241) k_ from fun k_ hk => ⟨Kd.fresh' (Kd.R_lt (by (with_reducible repeat (first | apply Kd.R_alloc | apply Kd.R_drewN | apply Kd.R_drew)); exact HO254.out)) k_ hk, Kd.freshB (g := gb247) (o := .cells #[.int .i64 t242, .int .i64 t243, .int .i64 t244, .int .u64 t245] 28 (0, 0)) (by (with_reducible repeat (first | refine blk_drewN ?_ _ | refine blk_drew ?_ | refine blk_alloc ?_ _)); exact BK247.out) k_ hk, IsS25.fresh (by repeat (first | (with_reducible first | exact HI241.out | apply IsS25.alloc | apply IsS25.drewN | apply IsS25.drew | apply IsS25.set_1 | refine IsS25.far ?_ NB241_247.out _) | exact HI241.out)) k_ hk⟩) _ (Nat.le_refl _)) (Below.refl _ _) (Nat.le_refl _) (by simp) ?_; (case hd => rfl); (case hg => rfl); (case hr => first | (go_simp; done) | (go_simp; rfl)); (case hp => exact (Reps.one (show Kd.FK (Kd.slice 5 (Kd.int .u8)) _ _ t248 [.slice Ao20 t248.length co20] from (Kd.FK_slice_mk (Kd.R_reads' (Kd.R_mono (ok' := (fun k_ => some k_ ≠ (v253 : Value).ownBlock ∧ k_ ≠ gb247 ∧ k_ ≠ gb241)) (IsS25.apart HI241.out (Kd.R_types (HO250.out) BK247.out (by decide)) (by decide)) (fun k_ hk => ⟨hk.1.1.1.2, ⟨hk.1.2, hk.2⟩⟩))).2.1 (Kd.R_F (Kd.R_mono (ok' := (fun k_ => some k_ ≠ (v253 : Value).ownBlock ∧ k_ ≠ gb247 ∧ k_ ≠ gb241)) (IsS25.apart HI241.out (Kd.R_types (HO250.out) BK247.out (by decide)) (by decide)) (fun k_ hk => ⟨hk.1.1.1.2, ⟨hk.1.2, hk.2⟩⟩))))) (Reps.one (show Kd.FK (Kd.slice 5 (Kd.int .u8)) _ _ t256 [.slice Ao21 t256.length co21] from (Kd.FK_slice_mk (Kd.R_reads' (Kd.R_mono (ok' := (fun k_ => some k_ ≠ (v253 : Value).ownBlock ∧ k_ ≠ gb247 ∧ k_ ≠ gb241)) (IsS25.apart HI241.out (Kd.R_types (HO258.out) BK247.out (by decide)) (by decide)) (fun k_ hk => ⟨hk.1.1.2, ⟨hk.1.2, hk.2⟩⟩))).2.1 (Kd.R_F (Kd.R_mono (ok' := (fun k_ => some k_ ≠ (v253 : Value).ownBlock ∧ k_ ≠ gb247 ∧ k_ ≠ gb241)) (IsS25.apart HI241.out (Kd.R_types (HO258.out) BK247.out (by decide)) (by decide)) (fun k_ hk => ⟨hk.1.1.2, ⟨hk.1.2, hk.2⟩⟩))))) (Reps.none _ _))))
  intro v261 w22 ho23 hb hg_ hnew_
  clear hg_ hnew_
  (first | rw [← Ny260.out] at ho23 | (simp only [Int.reduceToNat] at ho23; rw [← Ny260.out] at ho23))
  have n0_ := Aside0.mk (Kd.R_below (by (with_reducible repeat (first | apply Kd.R_alloc | apply Kd.R_drewN | apply Kd.R_drew)); exact HO250.out) hb)
  have n1_ := Aside0.mk (Kd.R_below (by (with_reducible repeat (first | apply Kd.R_alloc | apply Kd.R_drewN | apply Kd.R_drew)); exact HO254.out) hb)
  have n2_ := Aside0.mk (Kd.R_below (by (with_reducible repeat (first | apply Kd.R_alloc | apply Kd.R_drewN | apply Kd.R_drew)); exact HO258.out) hb)
  have n3_ := Aside0.mk (Kd.N_lower ho23 (below_size (by repeat (first | (with_reducible first | exact HB.out | apply below_alloc | apply pw_below_drewN | apply below_drew1 | refine below_set ?_ (IsS25.ge HI241.out) | refine below_set ?_ GE247.out) | exact HB.out))))
  have n4_ := Aside0.mk (IsS25.below (by repeat (first | (with_reducible first | exact HI241.out | apply IsS25.alloc | apply IsS25.drewN | apply IsS25.drew | apply IsS25.set_1 | refine IsS25.far ?_ NB241_247.out _) | exact HI241.out)) hb)
  have n5_ := Aside0.mk (blk_below (g := gb247) (o := .cells #[.int .i64 t242, .int .i64 t243, .int .i64 t244, .int .u64 t245] 28 (0, 0)) (by (with_reducible repeat (first | refine blk_drewN ?_ _ | refine blk_drew ?_ | refine blk_alloc ?_ _)); exact BK247.out) hb)
  have n6_ := Aside0.mk (below_step (by repeat (first | (with_reducible first | exact HB.out | apply below_alloc | apply pw_below_drewN | apply below_drew1 | refine below_set ?_ (IsS25.ge HI241.out) | refine below_set ?_ GE247.out) | exact HB.out)) hb)
  clear HO250
  clear HO254
  clear HO258
  clear HI241
  clear BK247
  clear HB
  have HO250 := n0_
  have HO254 := n1_
  have HO258 := n2_
  have HO262 := n3_
  have HI241 := n4_
  have BK247 := n5_
  have HB := n6_
  clear n0_ n1_ n2_ n3_ n4_ n5_ n6_
  clear hb ho23
  obtain ⟨Ao24, co24, eo24⟩ := Kd.N_slice HO262.out
  (first | subst eo24 | (injection eo24 with f1_ f2_ f3_; have f4_ := f1_.symm; have f5_ := f3_.symm; clear f1_ f2_ f3_; subst f4_; subst f5_))
  refine hK.out _ _ ⟨(blk_cell BK247.out 0).trans rfl, (blk_cell BK247.out 1).trans rfl, (blk_cell BK247.out 2).trans rfl, (blk_cell BK247.out 3).trans rfl⟩ (fun hHeld => ?_)
  clear hK K
  refine norm_ (a' := ?_) ?_ ?_
  rotate_left
  · show Act.put _ (some 31) _ = _
    simp only [Act.put, List.setIfInBounds_toArray, List.set_cons_zero, List.set_cons_succ, i64_w, i32_w]
    rfl
  refine one_ (i := 4) (N := some 32) #[true, true, true, true, true, false, false, false, false, false, false] rfl rfl (one_of HT_.out (by kernel_rfl)) (by decide) (fun K hK => ?_)
  refine goes_ Try.func19 (by kernel_rfl) rfl #[.slice Ao24 y260.length co24] (by rfl) rfl rfl (by (try simp only [List.map_toArray, List.map_cons, List.map_nil]); first | done | rfl | (simp only [List.length_drop, List.length_take]; rfl)) ?_
  with_reducible refine (stockyardmake_Joined.calls k _ _ y260 t263 _ ?side1 ?side2 A6.out).mono ?_
  (case side1 => repeat (first | exact (Kd.N_reads' HO262.out).2.2 | (with_reducible refine Kd.C_alloc ?_ _) | (with_reducible refine Kd.C_drewN ?_ _) | (with_reducible refine Kd.C_drew ?_)))
  (case side2 => exact (Kd.N_reads' HO262.out).2.1)
  rintro e w25 ⟨v264, rfl, ho0, hb⟩
  refine ⟨_, rfl, ?_⟩
  have n0_ := Aside0.mk (Kd.R_elder' (by (with_reducible repeat (first | apply Kd.R_alloc | apply Kd.R_drewN | apply Kd.R_drew)); exact HO250.out) (Kd.R_base ho0) hb)
  have n1_ := Aside0.mk (Kd.R_elder' (by (with_reducible repeat (first | apply Kd.R_alloc | apply Kd.R_drewN | apply Kd.R_drew)); exact HO254.out) (Kd.R_base ho0) hb)
  have n2_ := Aside0.mk (Kd.R_elder' (by (with_reducible repeat (first | apply Kd.R_alloc | apply Kd.R_drewN | apply Kd.R_drew)); exact HO258.out) (Kd.R_base ho0) hb)
  have n3_ := Aside0.mk (Kd.N_elder' (by (with_reducible repeat (first | apply Kd.N_alloc | apply Kd.N_drewN | apply Kd.N_drew)); exact HO262.out) (Kd.R_base ho0) hb)
  have n4_ := Aside0.mk (Kd.R_lower (Kd.R_new' (Kd.R_new' (Kd.R_new' ho0 (Kd.R_lt (by (with_reducible repeat (first | apply Kd.R_alloc | apply Kd.R_drewN | apply Kd.R_drew)); exact HO250.out))) (Kd.R_lt (by (with_reducible repeat (first | apply Kd.R_alloc | apply Kd.R_drewN | apply Kd.R_drew)); exact HO254.out))) (Kd.R_lt (by (with_reducible repeat (first | apply Kd.R_alloc | apply Kd.R_drewN | apply Kd.R_drew)); exact HO258.out))) (below_size (by repeat (first | (with_reducible first | exact HB.out | apply below_alloc | apply pw_below_drewN | apply below_drew1 | refine below_set ?_ (IsS25.ge HI241.out) | refine below_set ?_ GE247.out) | exact HB.out))))
  have n5_ := Aside0.mk (IsS25.below (by repeat (first | (with_reducible first | exact HI241.out | apply IsS25.alloc | apply IsS25.drewN | apply IsS25.drew | apply IsS25.set_1 | refine IsS25.far ?_ NB241_247.out _) | exact HI241.out)) hb)
  have n6_ := Aside0.mk (blk_below (g := gb247) (o := .cells #[.int .i64 t242, .int .i64 t243, .int .i64 t244, .int .u64 t245] 28 (0, 0)) (by (with_reducible repeat (first | refine blk_drewN ?_ _ | refine blk_drew ?_ | refine blk_alloc ?_ _)); exact BK247.out) hb)
  have n7_ := Aside0.mk (below_step (by repeat (first | (with_reducible first | exact HB.out | apply below_alloc | apply pw_below_drewN | apply below_drew1 | refine below_set ?_ (IsS25.ge HI241.out) | refine below_set ?_ GE247.out) | exact HB.out)) hb)
  clear HO250
  clear HO254
  clear HO258
  clear HO262
  clear HI241
  clear BK247
  clear HB
  have HO250 := n0_
  have HO254 := n1_
  have HO258 := n2_
  have HO262 := n3_
  have HO265 := n4_
  have HI241 := n5_
  have BK247 := n6_
  have HB := n7_
  clear n0_ n1_ n2_ n3_ n4_ n5_ n6_ n7_
  (try clear hb)
  (try clear hb2)
  (try clear hk)
  (try clear hi)
  (try clear ho0)
  obtain ⟨Ao26, co26, eo26⟩ := Kd.R_slice HO265.out
  (first | subst eo26 | (injection eo26 with f1_ f2_ f3_; have f4_ := f1_.symm; have f5_ := f3_.symm; clear f1_ f2_ f3_; subst f4_; subst f5_))
  refine hK.out _ _ ⟨(blk_cell BK247.out 0).trans rfl, (blk_cell BK247.out 1).trans rfl, (blk_cell BK247.out 2).trans rfl, (blk_cell BK247.out 3).trans rfl⟩ (fun hHeld => ?_)
  clear hK K
  refine norm_ (a' := ?_) ?_ ?_
  rotate_left
  · show Act.put _ (some 32) _ = _
    simp only [Act.put, List.setIfInBounds_toArray, List.set_cons_zero, List.set_cons_succ, i64_w, i32_w]
    rfl
  refine one_ (i := 5) (N := some 33) #[true, true, true, true, true, true, false, false, false, false, false] rfl rfl (one_of HT_.out (by kernel_rfl)) (by decide) (fun K hK => ?_)
  refine goes_ Try.func16 (by kernel_rfl) rfl #[.agg #[.int .i64 t242, .int .i64 t243, .int .i64 t244, .int .u64 t245], .slice Ao26 t263.length co26] (by rfl) rfl rfl (by (try simp only [List.map_toArray, List.map_cons, List.map_nil]); first | done | rfl | (simp only [List.length_drop, List.length_take]; rfl)) ?_
  with_reducible refine (stockyardlaw24_ends.calls t242 t243 t244 t245 _ _ t263 t266 t269 _ ?side1 ?side2 A7.out).mono ?_
  (case side1 => repeat (first | exact (Kd.R_reads' HO265.out).2.2 | (with_reducible refine Kd.C_alloc ?_ _) | (with_reducible refine Kd.C_drewN ?_ _) | (with_reducible refine Kd.C_drew ?_)))
  (case side2 => exact (Kd.R_reads' HO265.out).2.1)
  rintro e w27 ⟨v267, rfl, ho0, hb⟩
  refine ⟨_, rfl, ?_⟩
  have n0_ := Aside0.mk (Kd.R_below (by (with_reducible repeat (first | apply Kd.R_alloc | apply Kd.R_drewN | apply Kd.R_drew)); exact HO250.out) hb)
  have n1_ := Aside0.mk (Kd.R_below (by (with_reducible repeat (first | apply Kd.R_alloc | apply Kd.R_drewN | apply Kd.R_drew)); exact HO254.out) hb)
  have n2_ := Aside0.mk (Kd.R_below (by (with_reducible repeat (first | apply Kd.R_alloc | apply Kd.R_drewN | apply Kd.R_drew)); exact HO258.out) hb)
  have n3_ := Aside0.mk (Kd.N_elder' (by (with_reducible repeat (first | apply Kd.N_alloc | apply Kd.N_drewN | apply Kd.N_drew)); exact HO262.out) (Kd.R_base ho0) hb)
  have n4_ := Aside0.mk (Kd.R_below (by (with_reducible repeat (first | apply Kd.R_alloc | apply Kd.R_drewN | apply Kd.R_drew)); exact HO265.out) hb)
  have n5_ := Aside0.mk (Kd.R_lower ho0 (below_size (by repeat (first | (with_reducible first | exact HB.out | apply below_alloc | apply pw_below_drewN | apply below_drew1 | refine below_set ?_ (IsS25.ge HI241.out) | refine below_set ?_ GE247.out) | exact HB.out))))
  have n6_ := Aside0.mk (IsS25.below (by repeat (first | (with_reducible first | exact HI241.out | apply IsS25.alloc | apply IsS25.drewN | apply IsS25.drew | apply IsS25.set_1 | refine IsS25.far ?_ NB241_247.out _) | exact HI241.out)) hb)
  have n7_ := Aside0.mk (blk_below (g := gb247) (o := .cells #[.int .i64 t242, .int .i64 t243, .int .i64 t244, .int .u64 t245] 28 (0, 0)) (by (with_reducible repeat (first | refine blk_drewN ?_ _ | refine blk_drew ?_ | refine blk_alloc ?_ _)); exact BK247.out) hb)
  have n8_ := Aside0.mk (below_step (by repeat (first | (with_reducible first | exact HB.out | apply below_alloc | apply pw_below_drewN | apply below_drew1 | refine below_set ?_ (IsS25.ge HI241.out) | refine below_set ?_ GE247.out) | exact HB.out)) hb)
  clear HO250
  clear HO254
  clear HO258
  clear HO262
  clear HO265
  clear HI241
  clear BK247
  clear HB
  have HO250 := n0_
  have HO254 := n1_
  have HO258 := n2_
  have HO262 := n3_
  have HO265 := n4_
  have HO268 := n5_
  have HI241 := n6_
  have BK247 := n7_
  have HB := n8_
  clear n0_ n1_ n2_ n3_ n4_ n5_ n6_ n7_ n8_
  (try clear hb)
  (try clear hb2)
  (try clear hk)
  (try clear hi)
  (try clear ho0)
  refine hK.out _ _ ⟨(blk_cell BK247.out 0).trans rfl, (blk_cell BK247.out 1).trans rfl, (blk_cell BK247.out 2).trans rfl, (blk_cell BK247.out 3).trans rfl⟩ (fun hHeld => ?_)
  clear hK K
  refine norm_ (a' := ?_) ?_ ?_
  rotate_left
  · show Act.put _ (some 33) _ = _
    simp only [Act.put, List.setIfInBounds_toArray, List.set_cons_zero, List.set_cons_succ, i64_w, i32_w]
    rfl
  refine pure_ (i := 6) (N := some 27) (v := ?_) (a' := ?_) #[true, true, true, true, true, true, true, false, false, false, false] rfl rfl (any_of HT_.out (by kernel_rfl)) (fun _ _ _ h => h) (Or.inl ⟨by rfl, ?_⟩) ?_ ?_
  rotate_left
  · intro w'
    go_simp
    with_reducible rfl
  rotate_left
  · simp only [Act.put, List.setIfInBounds_toArray, List.set_cons_zero, List.set_cons_succ, i64_w, i32_w]
    rfl
  refine pure_ (i := 7) (N := some 34) (v := ?_) (a' := ?_) #[true, true, true, true, true, true, true, true, false, false, false] rfl rfl (any_of HT_.out (by kernel_rfl)) (fun _ _ _ h => h) (Or.inl ⟨by rfl, ?_⟩) ?_ ?_
  rotate_left
  · intro w'
    go_simp
    with_reducible rfl
  rotate_left
  · simp only [Act.put, List.setIfInBounds_toArray, List.set_cons_zero, List.set_cons_succ, i64_w, i32_w]
    rfl
  refine pure_ (i := 8) (N := some 35) (v := ?_) (a' := ?_) #[true, true, true, true, true, true, true, true, true, false, false] rfl rfl (any_of HT_.out (by kernel_rfl)) (fun _ _ _ h => h) (Or.inl ⟨by rfl, ?_⟩) ?_ ?_
  rotate_left
  · intro w'
    go_simp
    with_reducible rfl
  rotate_left
  · simp only [Act.put, List.setIfInBounds_toArray, List.set_cons_zero, List.set_cons_succ, i64_w, i32_w]
    rfl
  refine pure_ (i := 9) (N := some 8) (v := ?_) (a' := ?_) #[true, true, true, true, true, true, true, true, true, true, false] rfl rfl (any_of HT_.out (by kernel_rfl)) (fun _ _ _ h => h) (Or.inl ⟨by rfl, ?_⟩) ?_ ?_
  rotate_left
  · intro w'
    go_simp
    with_reducible rfl
  rotate_left
  · simp only [Act.put, List.setIfInBounds_toArray, List.set_cons_zero, List.set_cons_succ, i64_w, i32_w]
    rfl
  refine pure_ (i := 10) (N := some 9) (v := ?_) (a' := ?_) #[true, true, true, true, true, true, true, true, true, true, true] rfl rfl (any_of HT_.out (by kernel_rfl)) (fun _ _ _ h => h) (Or.inl ⟨by rfl, ?_⟩) ?_ ?_
  rotate_left
  · intro w'
    go_simp
    with_reducible rfl
  rotate_left
  · simp only [Act.put, List.setIfInBounds_toArray, List.set_cons_zero, List.set_cons_succ, i64_w, i32_w]
    rfl
  refine done_ (done_of HT_.out (by kernel_rfl)) ?_
  try go_wp2
  have n0_ := Aside0.mk (Kd.R_drew HO250.out)
  have n1_ := Aside0.mk (Kd.R_drew HO254.out)
  have n2_ := Aside0.mk (Kd.R_drew HO258.out)
  have n3_ := Aside0.mk (Kd.N_drew HO262.out)
  have n4_ := Aside0.mk (Kd.R_drew HO265.out)
  have n5_ := Aside0.mk (Kd.R_drew HO268.out)
  have n6_ := Aside0.mk (blk_drew BK247.out)
  have n7_ := Aside0.mk (IsS25.drew HI241.out)
  have n8_ := Aside0.mk (below_drew1 HB.out)
  clear HO250
  clear HO254
  clear HO258
  clear HO262
  clear HO265
  clear HO268
  clear BK247
  clear HI241
  clear HB
  have HO250 := n0_
  have HO254 := n1_
  have HO258 := n2_
  have HO262 := n3_
  have HO265 := n4_
  have HO268 := n5_
  have BK247 := n6_
  have HI241 := n7_
  have HB := n8_
  clear n0_ n1_ n2_ n3_ n4_ n5_ n6_ n7_ n8_
  obtain ⟨Ao29, co29, eo29⟩ := Kd.R_slice HO254.out
  (first | subst eo29 | (injection eo29 with f1_ f2_ f3_; have f4_ := f1_.symm; have f5_ := f3_.symm; clear f1_ f2_ f3_; subst f4_; subst f5_))
  refine start_ (n := 11) (S := fun w' => w'.cell? ⟨gb247, 0, none⟩ = some (.int .i64 t242) ∧ w'.cell? ⟨gb247, 1, none⟩ = some (.int .i64 t243) ∧ w'.cell? ⟨gb247, 2, none⟩ = some (.int .i64 t244) ∧ w'.cell? ⟨gb247, 3, none⟩ = some (.int .u64 t245)) (ds := []) #[false, false, false, false, false, false, false, false, false, false, false] (by kernel_rfl) rfl rfl ⟨(blk_cell BK247.out 0).trans rfl, (blk_cell BK247.out 1).trans rfl, (blk_cell BK247.out 2).trans rfl, (blk_cell BK247.out 3).trans rfl⟩ (fun hHeld => ?_); refine with_tabW stockyardlaw24_ChunkerMeets.tab5 stockyardlaw24_ChunkerMeets.bits5 (fun HT_ HW_ => ?_)
  generalize w27.drew = w28 at HO250 HO254 HO258 HO262 HO265 HO268 BK247 HI241 HB hHeld ⊢
  refine pure_ (i := 1) (N := some 38) (v := ?_) (a' := ?_) #[false, true, false, false, false, false, false, false, false, false, false] rfl rfl (any_of HT_.out (by kernel_rfl)) (fun _ _ _ h => h) (Or.inl ⟨by rfl, ?_⟩) ?_ ?_
  rotate_left
  · intro w'
    go_simp
    with_reducible rfl
  rotate_left
  · simp only [Act.put, List.setIfInBounds_toArray, List.set_cons_zero, List.set_cons_succ, i64_w, i32_w]
    rfl
  refine pure_ (i := 2) (N := some 39) (v := ?_) (a' := ?_) #[false, true, true, false, false, false, false, false, false, false, false] rfl rfl (any_of HT_.out (by kernel_rfl)) (fun _ _ _ h => h) (Or.inl ⟨by rfl, ?_⟩) ?_ ?_
  rotate_left
  · intro w'
    go_simp
    with_reducible rfl
  rotate_left
  · simp only [Act.put, List.setIfInBounds_toArray, List.set_cons_zero, List.set_cons_succ, i64_w, i32_w]
    rfl
  refine take_ (i := 0) (N := some 37) (v := ?_) (a' := ?_) #[true, true, true, false, false, false, false, false, false, false, false] rfl rfl (take_ofW HT_.out HW_.out (by kernel_rfl)) (fun _ _ _ h => h) (Or.inl ⟨by rfl, ?_⟩) hHeld ?_ ?_
  rotate_left
  · rintro w' ⟨s0, s1, s2, s3⟩
    go_simp
    with_reducible rfl
  rotate_left
  · simp only [Act.put, List.setIfInBounds_toArray, List.set_cons_zero, List.set_cons_succ, i64_w, i32_w]
    rfl
  refine one_ (i := 3) (N := some 40) #[true, true, true, true, false, false, false, false, false, false, false] rfl rfl (one_of HT_.out (by kernel_rfl)) (by decide) (fun K hK => ?_)
  refine Kd.N_lit_step (Kd.slice 5 (Kd.int .u8)) _ 30 ?hg (N' := 40) ?hd (xs := ([t252, t256] : List (List Int))) (inner := [.slice Ao29 t252.length co29, .slice Ao21 t256.length co21]) (ok := (fun k_ => some k_ ≠ (.slice Ao20 t248.length co20 : Value).ownBlock ∧ some k_ ≠ (.slice Ao24 y260.length co24 : Value).ownBlock ∧ some k_ ≠ (.slice Ao26 t263.length co26 : Value).ownBlock ∧ some k_ ≠ (v267 : Value).ownBlock ∧ k_ ≠ gb247 ∧ k_ ≠ gb241)) (okp := (fun k_ => some k_ ≠ (.slice Ao20 t248.length co20 : Value).ownBlock ∧ some k_ ≠ (.slice Ao24 y260.length co24 : Value).ownBlock ∧ some k_ ≠ (.slice Ao26 t263.length co26 : Value).ownBlock ∧ some k_ ≠ (v267 : Value).ownBlock ∧ k_ ≠ gb247 ∧ k_ ≠ gb241)) ?hr ?hp (fun _ hk => hk) ((show ∀ k_, w28.heap.size ≤ k_ → (fun k_ => some k_ ≠ (.slice Ao20 t248.length co20 : Value).ownBlock ∧ some k_ ≠ (.slice Ao24 y260.length co24 : Value).ownBlock ∧ some k_ ≠ (.slice Ao26 t263.length co26 : Value).ownBlock ∧ some k_ ≠ (v267 : Value).ownBlock ∧ k_ ≠ gb247 ∧ k_ ≠ gb241) k_ from fun k_ hk => ⟨Kd.fresh' (Kd.R_lt (by (with_reducible repeat (first | apply Kd.R_alloc | apply Kd.R_drewN | apply Kd.R_drew)); exact HO250.out)) k_ hk, Kd.fresh' (Kd.N_lt (by (with_reducible repeat (first | apply Kd.N_alloc | apply Kd.N_drewN | apply Kd.N_drew)); exact HO262.out)) k_ hk, Kd.fresh' (Kd.R_lt (by (with_reducible repeat (first | apply Kd.R_alloc | apply Kd.R_drewN | apply Kd.R_drew)); exact HO265.out)) k_ hk, Kd.fresh' (Kd.R_lt (by (with_reducible repeat (first | apply Kd.R_alloc | apply Kd.R_drewN | apply Kd.R_drew)); exact HO268.out)) k_ hk, Kd.freshB (g := gb247) (o := .cells #[.int .i64 t242, .int .i64 t243, .int .i64 t244, .int .u64 t245] 28 (0, 0)) (by (with_reducible repeat (first | refine blk_drewN ?_ _ | refine blk_drew ?_ | refine blk_alloc ?_ _)); exact BK247.out) k_ hk, IsS25.fresh (by repeat (first | (with_reducible first | exact HI241.out | apply IsS25.alloc | apply IsS25.drewN | apply IsS25.drew | apply IsS25.set_1 | refine IsS25.far ?_ NB241_247.out _) | exact HI241.out)) k_ hk⟩) _ (Nat.le_refl _)) (Below.refl _ _) (Nat.le_refl _) (by simp) ?_; (case hd => rfl); (case hg => rfl); (case hr => first | (go_simp; done) | (go_simp; rfl)); (case hp => exact (Reps.one (show Kd.FK (Kd.slice 5 (Kd.int .u8)) _ _ t252 [.slice Ao29 t252.length co29] from (Kd.FK_slice_mk (Kd.R_reads' (Kd.R_mono (ok' := (fun k_ => some k_ ≠ (.slice Ao20 t248.length co20 : Value).ownBlock ∧ some k_ ≠ (.slice Ao24 y260.length co24 : Value).ownBlock ∧ some k_ ≠ (.slice Ao26 t263.length co26 : Value).ownBlock ∧ some k_ ≠ (v267 : Value).ownBlock ∧ k_ ≠ gb247 ∧ k_ ≠ gb241)) (IsS25.apart HI241.out (Kd.R_types (Kd.R_apart' (Kd.R_apart' (HO254.out) (Kd.N_typed HO262.out) (by decide)) (Kd.R_typed HO268.out) (by decide)) BK247.out (by decide)) (by decide)) (fun k_ hk => ⟨hk.1.1.1.1.1.1.2, ⟨hk.1.1.1.2, ⟨hk.1.1.1.1.2, ⟨hk.1.1.2, ⟨hk.1.2, hk.2⟩⟩⟩⟩⟩))).2.1 (Kd.R_F (Kd.R_mono (ok' := (fun k_ => some k_ ≠ (.slice Ao20 t248.length co20 : Value).ownBlock ∧ some k_ ≠ (.slice Ao24 y260.length co24 : Value).ownBlock ∧ some k_ ≠ (.slice Ao26 t263.length co26 : Value).ownBlock ∧ some k_ ≠ (v267 : Value).ownBlock ∧ k_ ≠ gb247 ∧ k_ ≠ gb241)) (IsS25.apart HI241.out (Kd.R_types (Kd.R_apart' (Kd.R_apart' (HO254.out) (Kd.N_typed HO262.out) (by decide)) (Kd.R_typed HO268.out) (by decide)) BK247.out (by decide)) (by decide)) (fun k_ hk => ⟨hk.1.1.1.1.1.1.2, ⟨hk.1.1.1.2, ⟨hk.1.1.1.1.2, ⟨hk.1.1.2, ⟨hk.1.2, hk.2⟩⟩⟩⟩⟩))))) (Reps.one (show Kd.FK (Kd.slice 5 (Kd.int .u8)) _ _ t256 [.slice Ao21 t256.length co21] from (Kd.FK_slice_mk (Kd.R_reads' (Kd.R_mono (ok' := (fun k_ => some k_ ≠ (.slice Ao20 t248.length co20 : Value).ownBlock ∧ some k_ ≠ (.slice Ao24 y260.length co24 : Value).ownBlock ∧ some k_ ≠ (.slice Ao26 t263.length co26 : Value).ownBlock ∧ some k_ ≠ (v267 : Value).ownBlock ∧ k_ ≠ gb247 ∧ k_ ≠ gb241)) (IsS25.apart HI241.out (Kd.R_types (Kd.R_apart' (Kd.R_apart' (HO258.out) (Kd.N_typed HO262.out) (by decide)) (Kd.R_typed HO268.out) (by decide)) BK247.out (by decide)) (by decide)) (fun k_ hk => ⟨hk.1.1.1.1.1.1.2, ⟨hk.1.1.1.2, ⟨hk.1.1.1.1.2, ⟨hk.1.1.2, ⟨hk.1.2, hk.2⟩⟩⟩⟩⟩))).2.1 (Kd.R_F (Kd.R_mono (ok' := (fun k_ => some k_ ≠ (.slice Ao20 t248.length co20 : Value).ownBlock ∧ some k_ ≠ (.slice Ao24 y260.length co24 : Value).ownBlock ∧ some k_ ≠ (.slice Ao26 t263.length co26 : Value).ownBlock ∧ some k_ ≠ (v267 : Value).ownBlock ∧ k_ ≠ gb247 ∧ k_ ≠ gb241)) (IsS25.apart HI241.out (Kd.R_types (Kd.R_apart' (Kd.R_apart' (HO258.out) (Kd.N_typed HO262.out) (by decide)) (Kd.R_typed HO268.out) (by decide)) BK247.out (by decide)) (by decide)) (fun k_ hk => ⟨hk.1.1.1.1.1.1.2, ⟨hk.1.1.1.2, ⟨hk.1.1.1.1.2, ⟨hk.1.1.2, ⟨hk.1.2, hk.2⟩⟩⟩⟩⟩))))) (Reps.none _ _))))
  intro v271 w30 ho31 hb hg_ hnew_
  clear hg_ hnew_
  (first | rw [← Ny270.out] at ho31 | (simp only [Int.reduceToNat] at ho31; rw [← Ny270.out] at ho31))
  have n0_ := Aside0.mk (Kd.R_below (by (with_reducible repeat (first | apply Kd.R_alloc | apply Kd.R_drewN | apply Kd.R_drew)); exact HO250.out) hb)
  have n1_ := Aside0.mk (Kd.R_below (by (with_reducible repeat (first | apply Kd.R_alloc | apply Kd.R_drewN | apply Kd.R_drew)); exact HO254.out) hb)
  have n2_ := Aside0.mk (Kd.R_below (by (with_reducible repeat (first | apply Kd.R_alloc | apply Kd.R_drewN | apply Kd.R_drew)); exact HO258.out) hb)
  have n3_ := Aside0.mk (Kd.N_elder' (by (with_reducible repeat (first | apply Kd.N_alloc | apply Kd.N_drewN | apply Kd.N_drew)); exact HO262.out) (Kd.N_base ho31) hb)
  have n4_ := Aside0.mk (Kd.R_below (by (with_reducible repeat (first | apply Kd.R_alloc | apply Kd.R_drewN | apply Kd.R_drew)); exact HO265.out) hb)
  have n5_ := Aside0.mk (Kd.R_below (by (with_reducible repeat (first | apply Kd.R_alloc | apply Kd.R_drewN | apply Kd.R_drew)); exact HO268.out) hb)
  have n6_ := Aside0.mk (Kd.N_lower ho31 (below_size (by repeat (first | (with_reducible first | exact HB.out | apply below_alloc | apply pw_below_drewN | apply below_drew1 | refine below_set ?_ (IsS25.ge HI241.out) | refine below_set ?_ GE247.out) | exact HB.out))))
  have n7_ := Aside0.mk (IsS25.below (by repeat (first | (with_reducible first | exact HI241.out | apply IsS25.alloc | apply IsS25.drewN | apply IsS25.drew | apply IsS25.set_1 | refine IsS25.far ?_ NB241_247.out _) | exact HI241.out)) hb)
  have n8_ := Aside0.mk (blk_below (g := gb247) (o := .cells #[.int .i64 t242, .int .i64 t243, .int .i64 t244, .int .u64 t245] 28 (0, 0)) (by (with_reducible repeat (first | refine blk_drewN ?_ _ | refine blk_drew ?_ | refine blk_alloc ?_ _)); exact BK247.out) hb)
  have n9_ := Aside0.mk (below_step (by repeat (first | (with_reducible first | exact HB.out | apply below_alloc | apply pw_below_drewN | apply below_drew1 | refine below_set ?_ (IsS25.ge HI241.out) | refine below_set ?_ GE247.out) | exact HB.out)) hb)
  clear HO250
  clear HO254
  clear HO258
  clear HO262
  clear HO265
  clear HO268
  clear HI241
  clear BK247
  clear HB
  have HO250 := n0_
  have HO254 := n1_
  have HO258 := n2_
  have HO262 := n3_
  have HO265 := n4_
  have HO268 := n5_
  have HO272 := n6_
  have HI241 := n7_
  have BK247 := n8_
  have HB := n9_
  clear n0_ n1_ n2_ n3_ n4_ n5_ n6_ n7_ n8_ n9_
  clear hb ho31
  obtain ⟨Ao32, co32, eo32⟩ := Kd.N_slice HO272.out
  (first | subst eo32 | (injection eo32 with f1_ f2_ f3_; have f4_ := f1_.symm; have f5_ := f3_.symm; clear f1_ f2_ f3_; subst f4_; subst f5_))
  refine hK.out _ _ ⟨(blk_cell BK247.out 0).trans rfl, (blk_cell BK247.out 1).trans rfl, (blk_cell BK247.out 2).trans rfl, (blk_cell BK247.out 3).trans rfl⟩ (fun hHeld => ?_)
  clear hK K
  refine norm_ (a' := ?_) ?_ ?_
  rotate_left
  · show Act.put _ (some 40) _ = _
    simp only [Act.put, List.setIfInBounds_toArray, List.set_cons_zero, List.set_cons_succ, i64_w, i32_w]
    rfl
  refine one_ (i := 4) (N := some 41) #[true, true, true, true, true, false, false, false, false, false, false] rfl rfl (one_of HT_.out (by kernel_rfl)) (by decide) (fun K hK => ?_)
  refine goes_ Try.func19 (by kernel_rfl) rfl #[.slice Ao32 y270.length co32] (by rfl) rfl rfl (by (try simp only [List.map_toArray, List.map_cons, List.map_nil]); first | done | rfl | (simp only [List.length_drop, List.length_take]; rfl)) ?_
  with_reducible refine (stockyardmake_Joined.calls k _ _ y270 t273 _ ?side1 ?side2 A8.out).mono ?_
  (case side1 => repeat (first | exact (Kd.N_reads' HO272.out).2.2 | (with_reducible refine Kd.C_alloc ?_ _) | (with_reducible refine Kd.C_drewN ?_ _) | (with_reducible refine Kd.C_drew ?_)))
  (case side2 => exact (Kd.N_reads' HO272.out).2.1)
  rintro e w33 ⟨v274, rfl, ho0, hb⟩
  refine ⟨_, rfl, ?_⟩
  have n0_ := Aside0.mk (Kd.R_elder' (by (with_reducible repeat (first | apply Kd.R_alloc | apply Kd.R_drewN | apply Kd.R_drew)); exact HO250.out) (Kd.R_base ho0) hb)
  have n1_ := Aside0.mk (Kd.R_elder' (by (with_reducible repeat (first | apply Kd.R_alloc | apply Kd.R_drewN | apply Kd.R_drew)); exact HO254.out) (Kd.R_base ho0) hb)
  have n2_ := Aside0.mk (Kd.R_elder' (by (with_reducible repeat (first | apply Kd.R_alloc | apply Kd.R_drewN | apply Kd.R_drew)); exact HO258.out) (Kd.R_base ho0) hb)
  have n3_ := Aside0.mk (Kd.N_elder' (by (with_reducible repeat (first | apply Kd.N_alloc | apply Kd.N_drewN | apply Kd.N_drew)); exact HO262.out) (Kd.R_base ho0) hb)
  have n4_ := Aside0.mk (Kd.R_elder' (by (with_reducible repeat (first | apply Kd.R_alloc | apply Kd.R_drewN | apply Kd.R_drew)); exact HO265.out) (Kd.R_base ho0) hb)
  have n5_ := Aside0.mk (Kd.R_below (by (with_reducible repeat (first | apply Kd.R_alloc | apply Kd.R_drewN | apply Kd.R_drew)); exact HO268.out) hb)
  have n6_ := Aside0.mk (Kd.N_elder' (by (with_reducible repeat (first | apply Kd.N_alloc | apply Kd.N_drewN | apply Kd.N_drew)); exact HO272.out) (Kd.R_base ho0) hb)
  have n7_ := Aside0.mk (Kd.R_lower (Kd.R_new' (Kd.R_new' (Kd.R_new' (Kd.R_new' ho0 (Kd.R_lt (by (with_reducible repeat (first | apply Kd.R_alloc | apply Kd.R_drewN | apply Kd.R_drew)); exact HO250.out))) (Kd.R_lt (by (with_reducible repeat (first | apply Kd.R_alloc | apply Kd.R_drewN | apply Kd.R_drew)); exact HO254.out))) (Kd.R_lt (by (with_reducible repeat (first | apply Kd.R_alloc | apply Kd.R_drewN | apply Kd.R_drew)); exact HO258.out))) (Kd.R_lt (by (with_reducible repeat (first | apply Kd.R_alloc | apply Kd.R_drewN | apply Kd.R_drew)); exact HO265.out))) (below_size (by repeat (first | (with_reducible first | exact HB.out | apply below_alloc | apply pw_below_drewN | apply below_drew1 | refine below_set ?_ (IsS25.ge HI241.out) | refine below_set ?_ GE247.out) | exact HB.out))))
  have n8_ := Aside0.mk (IsS25.below (by repeat (first | (with_reducible first | exact HI241.out | apply IsS25.alloc | apply IsS25.drewN | apply IsS25.drew | apply IsS25.set_1 | refine IsS25.far ?_ NB241_247.out _) | exact HI241.out)) hb)
  have n9_ := Aside0.mk (blk_below (g := gb247) (o := .cells #[.int .i64 t242, .int .i64 t243, .int .i64 t244, .int .u64 t245] 28 (0, 0)) (by (with_reducible repeat (first | refine blk_drewN ?_ _ | refine blk_drew ?_ | refine blk_alloc ?_ _)); exact BK247.out) hb)
  have n10_ := Aside0.mk (below_step (by repeat (first | (with_reducible first | exact HB.out | apply below_alloc | apply pw_below_drewN | apply below_drew1 | refine below_set ?_ (IsS25.ge HI241.out) | refine below_set ?_ GE247.out) | exact HB.out)) hb)
  clear HO250
  clear HO254
  clear HO258
  clear HO262
  clear HO265
  clear HO268
  clear HO272
  clear HI241
  clear BK247
  clear HB
  have HO250 := n0_
  have HO254 := n1_
  have HO258 := n2_
  have HO262 := n3_
  have HO265 := n4_
  have HO268 := n5_
  have HO272 := n6_
  have HO275 := n7_
  have HI241 := n8_
  have BK247 := n9_
  have HB := n10_
  clear n0_ n1_ n2_ n3_ n4_ n5_ n6_ n7_ n8_ n9_ n10_
  (try clear hb)
  (try clear hb2)
  (try clear hk)
  (try clear hi)
  (try clear ho0)
  obtain ⟨Ao34, co34, eo34⟩ := Kd.R_slice HO275.out
  (first | subst eo34 | (injection eo34 with f1_ f2_ f3_; have f4_ := f1_.symm; have f5_ := f3_.symm; clear f1_ f2_ f3_; subst f4_; subst f5_))
  refine hK.out _ _ ⟨(blk_cell BK247.out 0).trans rfl, (blk_cell BK247.out 1).trans rfl, (blk_cell BK247.out 2).trans rfl, (blk_cell BK247.out 3).trans rfl⟩ (fun hHeld => ?_)
  clear hK K
  refine norm_ (a' := ?_) ?_ ?_
  rotate_left
  · show Act.put _ (some 41) _ = _
    simp only [Act.put, List.setIfInBounds_toArray, List.set_cons_zero, List.set_cons_succ, i64_w, i32_w]
    rfl
  refine one_ (i := 5) (N := some 42) #[true, true, true, true, true, true, false, false, false, false, false] rfl rfl (one_of HT_.out (by kernel_rfl)) (by decide) (fun K hK => ?_)
  refine goes_ Try.func16 (by kernel_rfl) rfl #[.agg #[.int .i64 t242, .int .i64 t243, .int .i64 t244, .int .u64 t245], .slice Ao34 t273.length co34] (by rfl) rfl rfl (by (try simp only [List.map_toArray, List.map_cons, List.map_nil]); first | done | rfl | (simp only [List.length_drop, List.length_take]; rfl)) ?_
  with_reducible refine (stockyardlaw24_ends.calls t242 t243 t244 t245 _ _ t273 t276 t279 _ ?side1 ?side2 A9.out).mono ?_
  (case side1 => repeat (first | exact (Kd.R_reads' HO275.out).2.2 | (with_reducible refine Kd.C_alloc ?_ _) | (with_reducible refine Kd.C_drewN ?_ _) | (with_reducible refine Kd.C_drew ?_)))
  (case side2 => exact (Kd.R_reads' HO275.out).2.1)
  rintro e w35 ⟨v277, rfl, ho0, hb⟩
  refine ⟨_, rfl, ?_⟩
  have n0_ := Aside0.mk (Kd.R_below (by (with_reducible repeat (first | apply Kd.R_alloc | apply Kd.R_drewN | apply Kd.R_drew)); exact HO250.out) hb)
  have n1_ := Aside0.mk (Kd.R_below (by (with_reducible repeat (first | apply Kd.R_alloc | apply Kd.R_drewN | apply Kd.R_drew)); exact HO254.out) hb)
  have n2_ := Aside0.mk (Kd.R_below (by (with_reducible repeat (first | apply Kd.R_alloc | apply Kd.R_drewN | apply Kd.R_drew)); exact HO258.out) hb)
  have n3_ := Aside0.mk (Kd.N_elder' (by (with_reducible repeat (first | apply Kd.N_alloc | apply Kd.N_drewN | apply Kd.N_drew)); exact HO262.out) (Kd.R_base ho0) hb)
  have n4_ := Aside0.mk (Kd.R_below (by (with_reducible repeat (first | apply Kd.R_alloc | apply Kd.R_drewN | apply Kd.R_drew)); exact HO265.out) hb)
  have n5_ := Aside0.mk (Kd.R_elder' (by (with_reducible repeat (first | apply Kd.R_alloc | apply Kd.R_drewN | apply Kd.R_drew)); exact HO268.out) (Kd.R_base ho0) hb)
  have n6_ := Aside0.mk (Kd.N_elder' (by (with_reducible repeat (first | apply Kd.N_alloc | apply Kd.N_drewN | apply Kd.N_drew)); exact HO272.out) (Kd.R_base ho0) hb)
  have n7_ := Aside0.mk (Kd.R_below (by (with_reducible repeat (first | apply Kd.R_alloc | apply Kd.R_drewN | apply Kd.R_drew)); exact HO275.out) hb)
  have n8_ := Aside0.mk (Kd.R_lower (Kd.R_new' ho0 (Kd.R_lt (by (with_reducible repeat (first | apply Kd.R_alloc | apply Kd.R_drewN | apply Kd.R_drew)); exact HO268.out))) (below_size (by repeat (first | (with_reducible first | exact HB.out | apply below_alloc | apply pw_below_drewN | apply below_drew1 | refine below_set ?_ (IsS25.ge HI241.out) | refine below_set ?_ GE247.out) | exact HB.out))))
  have n9_ := Aside0.mk (IsS25.below (by repeat (first | (with_reducible first | exact HI241.out | apply IsS25.alloc | apply IsS25.drewN | apply IsS25.drew | apply IsS25.set_1 | refine IsS25.far ?_ NB241_247.out _) | exact HI241.out)) hb)
  have n10_ := Aside0.mk (blk_below (g := gb247) (o := .cells #[.int .i64 t242, .int .i64 t243, .int .i64 t244, .int .u64 t245] 28 (0, 0)) (by (with_reducible repeat (first | refine blk_drewN ?_ _ | refine blk_drew ?_ | refine blk_alloc ?_ _)); exact BK247.out) hb)
  have n11_ := Aside0.mk (below_step (by repeat (first | (with_reducible first | exact HB.out | apply below_alloc | apply pw_below_drewN | apply below_drew1 | refine below_set ?_ (IsS25.ge HI241.out) | refine below_set ?_ GE247.out) | exact HB.out)) hb)
  clear HO250
  clear HO254
  clear HO258
  clear HO262
  clear HO265
  clear HO268
  clear HO272
  clear HO275
  clear HI241
  clear BK247
  clear HB
  have HO250 := n0_
  have HO254 := n1_
  have HO258 := n2_
  have HO262 := n3_
  have HO265 := n4_
  have HO268 := n5_
  have HO272 := n6_
  have HO275 := n7_
  have HO278 := n8_
  have HI241 := n9_
  have BK247 := n10_
  have HB := n11_
  clear n0_ n1_ n2_ n3_ n4_ n5_ n6_ n7_ n8_ n9_ n10_ n11_
  (try clear hb)
  (try clear hb2)
  (try clear hk)
  (try clear hi)
  (try clear ho0)
  refine hK.out _ _ ⟨(blk_cell BK247.out 0).trans rfl, (blk_cell BK247.out 1).trans rfl, (blk_cell BK247.out 2).trans rfl, (blk_cell BK247.out 3).trans rfl⟩ (fun hHeld => ?_)
  clear hK K
  refine norm_ (a' := ?_) ?_ ?_
  rotate_left
  · show Act.put _ (some 42) _ = _
    simp only [Act.put, List.setIfInBounds_toArray, List.set_cons_zero, List.set_cons_succ, i64_w, i32_w]
    rfl
  refine pure_ (i := 6) (N := some 36) (v := ?_) (a' := ?_) #[true, true, true, true, true, true, true, false, false, false, false] rfl rfl (any_of HT_.out (by kernel_rfl)) (fun _ _ _ h => h) (Or.inl ⟨by rfl, ?_⟩) ?_ ?_
  rotate_left
  · intro w'
    go_simp
    with_reducible rfl
  rotate_left
  · simp only [Act.put, List.setIfInBounds_toArray, List.set_cons_zero, List.set_cons_succ, i64_w, i32_w]
    rfl
  refine pure_ (i := 7) (N := some 43) (v := ?_) (a' := ?_) #[true, true, true, true, true, true, true, true, false, false, false] rfl rfl (any_of HT_.out (by kernel_rfl)) (fun _ _ _ h => h) (Or.inl ⟨by rfl, ?_⟩) ?_ ?_
  rotate_left
  · intro w'
    go_simp
    with_reducible rfl
  rotate_left
  · simp only [Act.put, List.setIfInBounds_toArray, List.set_cons_zero, List.set_cons_succ, i64_w, i32_w]
    rfl
  refine pure_ (i := 8) (N := some 44) (v := ?_) (a' := ?_) #[true, true, true, true, true, true, true, true, true, false, false] rfl rfl (any_of HT_.out (by kernel_rfl)) (fun _ _ _ h => h) (Or.inl ⟨by rfl, ?_⟩) ?_ ?_
  rotate_left
  · intro w'
    go_simp
    with_reducible rfl
  rotate_left
  · simp only [Act.put, List.setIfInBounds_toArray, List.set_cons_zero, List.set_cons_succ, i64_w, i32_w]
    rfl
  refine pure_ (i := 9) (N := some 10) (v := ?_) (a' := ?_) #[true, true, true, true, true, true, true, true, true, true, false] rfl rfl (any_of HT_.out (by kernel_rfl)) (fun _ _ _ h => h) (Or.inl ⟨by rfl, ?_⟩) ?_ ?_
  rotate_left
  · intro w'
    go_simp
    with_reducible rfl
  rotate_left
  · simp only [Act.put, List.setIfInBounds_toArray, List.set_cons_zero, List.set_cons_succ, i64_w, i32_w]
    rfl
  refine pure_ (i := 10) (N := some 11) (v := ?_) (a' := ?_) #[true, true, true, true, true, true, true, true, true, true, true] rfl rfl (any_of HT_.out (by kernel_rfl)) (fun _ _ _ h => h) (Or.inl ⟨by rfl, ?_⟩) ?_ ?_
  rotate_left
  · intro w'
    go_simp
    with_reducible rfl
  rotate_left
  · simp only [Act.put, List.setIfInBounds_toArray, List.set_cons_zero, List.set_cons_succ, i64_w, i32_w]
    rfl
  refine done_ (done_of HT_.out (by kernel_rfl)) ?_
  go_upto_region 6 with (fail)
  go_cut [54] (fun v54 wc => ∃ (kq : Nat) (x54_9 : Bool), v54 = .bool x54_9 ∧ Aside0 (stockyardlaw24_ChunkerMeets.j0 kq t248 t252 t256 t266 t276 x54_9 = some r) ∧ Aside0 (kq ≤ k) ∧ Aside0 (Kd.R (Kd.int .u8) 5 wc w.heap.size (fun k_ => some k_ ≠ ((.slice Ao29 t252.length co29) : Value).ownBlock ∧ some k_ ≠ ((.slice Ao21 t256.length co21) : Value).ownBlock) (.slice Ao20 t248.length co20) t248) ∧ Aside0 (Kd.R (Kd.int .u8) 5 wc w.heap.size (fun k_ => some k_ ≠ ((.slice Ao20 t248.length co20) : Value).ownBlock ∧ some k_ ≠ ((.slice Ao21 t256.length co21) : Value).ownBlock) (.slice Ao29 t252.length co29) t252) ∧ Aside0 (Kd.R (Kd.int .u8) 5 wc w.heap.size (fun k_ => some k_ ≠ ((.slice Ao20 t248.length co20) : Value).ownBlock ∧ some k_ ≠ ((.slice Ao29 t252.length co29) : Value).ownBlock) (.slice Ao21 t256.length co21) t256) ∧ Aside0 (Kd.R (Kd.int .i64) 3 wc w.heap.size (fun k_ => some k_ ≠ (v277 : Value).ownBlock) v267 t266) ∧ Aside0 (Kd.R (Kd.int .i64) 3 wc w.heap.size (fun k_ => some k_ ≠ (v267 : Value).ownBlock) v277 t276) ∧ Aside0 (wc.heap[gb247]? = some (.cells #[.int .i64 t242, .int .i64 t243, .int .i64 t244, .int .u64 t245] 28 (0, 0))) ∧ Aside0 (Below w.heap.size w wc))
  case first =>
    have H := HC10.out
    clear HC10
    replace H := Option.bind_eq_some_iff.mp H
    obtain ⟨t280, A360, H⟩ := H
    replace H : (if t280 = true then (if t269 = true then (stockyardlaw24_ChunkerMeets.j0 k t248 t252 t256 t266 t276 (!t279)) else (stockyardlaw24_ChunkerMeets.j0 k t248 t252 t256 t266 t276 true)) else (stockyardlaw24_ChunkerMeets.j0 k t248 t252 t256 t266 t276 true)) = some r := H
    have A36 := Aside0.mk A360
    clear A360
    by_cases c37 : t280 = true
    · subst c37
      have H1 : (if t269 = true then (stockyardlaw24_ChunkerMeets.j0 k t248 t252 t256 t266 t276 (!t279)) else (stockyardlaw24_ChunkerMeets.j0 k t248 t252 t256 t266 t276 true)) = some r := by rw [if_pos rfl] at H; exact H
      clear H
      have H := H1
      clear H1
      by_cases c38 : t269 = true
      · subst c38
        have H1 : (stockyardlaw24_ChunkerMeets.j0 k t248 t252 t256 t266 t276 (!t279)) = some r := by rw [if_pos rfl] at H; exact H
        clear H
        have H := H1
        clear H1
        have H' := Aside0.mk H
        clear H
        go_wp2_with (first | ((with_reducible refine gate_callee (f := 17) rfl ?_); refine goesL_ (some 45) rfl rfl Try.func17 (by kernel_rfl) rfl #[] rfl (by (try simp only [List.map_toArray, List.map_cons, List.map_nil]); first | done | rfl | (simp only [List.length_drop, List.length_take]; rfl)) ?_; (with_reducible refine (stockyardlaw24_known.calls k  true _ A36.out).mono ?_); rintro e w39 ⟨rfl, hb⟩; refine ⟨_, rfl, ?_⟩; have n0_ := Aside0.mk (Kd.R_below (by (with_reducible repeat (first | apply Kd.R_alloc | apply Kd.R_drewN | apply Kd.R_drew)); exact HO250.out) hb); have n1_ := Aside0.mk (Kd.R_below (by (with_reducible repeat (first | apply Kd.R_alloc | apply Kd.R_drewN | apply Kd.R_drew)); exact HO254.out) hb); have n2_ := Aside0.mk (Kd.R_below (by (with_reducible repeat (first | apply Kd.R_alloc | apply Kd.R_drewN | apply Kd.R_drew)); exact HO258.out) hb); have n3_ := Aside0.mk (Kd.N_below (by (with_reducible repeat (first | apply Kd.N_alloc | apply Kd.N_drewN | apply Kd.N_drew)); exact HO262.out) hb); have n4_ := Aside0.mk (Kd.R_below (by (with_reducible repeat (first | apply Kd.R_alloc | apply Kd.R_drewN | apply Kd.R_drew)); exact HO265.out) hb); have n5_ := Aside0.mk (Kd.R_below (by (with_reducible repeat (first | apply Kd.R_alloc | apply Kd.R_drewN | apply Kd.R_drew)); exact HO268.out) hb); have n6_ := Aside0.mk (Kd.N_below (by (with_reducible repeat (first | apply Kd.N_alloc | apply Kd.N_drewN | apply Kd.N_drew)); exact HO272.out) hb); have n7_ := Aside0.mk (Kd.R_below (by (with_reducible repeat (first | apply Kd.R_alloc | apply Kd.R_drewN | apply Kd.R_drew)); exact HO275.out) hb); have n8_ := Aside0.mk (Kd.R_below (by (with_reducible repeat (first | apply Kd.R_alloc | apply Kd.R_drewN | apply Kd.R_drew)); exact HO278.out) hb); have n9_ := Aside0.mk (IsS25.below (by repeat (first | (with_reducible first | exact HI241.out | apply IsS25.alloc | apply IsS25.drewN | apply IsS25.drew | apply IsS25.set_1 | refine IsS25.far ?_ NB241_247.out _) | exact HI241.out)) hb); have n10_ := Aside0.mk (blk_below (g := gb247) (o := .cells #[.int .i64 t242, .int .i64 t243, .int .i64 t244, .int .u64 t245] 28 (0, 0)) (by (with_reducible repeat (first | refine blk_drewN ?_ _ | refine blk_drew ?_ | refine blk_alloc ?_ _)); exact BK247.out) hb); have n11_ := Aside0.mk (below_step (by repeat (first | (with_reducible first | exact HB.out | apply below_alloc | apply pw_below_drewN | apply below_drew1 | refine below_set ?_ (IsS25.ge HI241.out) | refine below_set ?_ GE247.out) | exact HB.out)) hb); clear HO250; clear HO254; clear HO258; clear HO262; clear HO265; clear HO268; clear HO272; clear HO275; clear HO278; clear HI241; clear BK247; clear HB; have HO250 := n0_; have HO254 := n1_; have HO258 := n2_; have HO262 := n3_; have HO265 := n4_; have HO268 := n5_; have HO272 := n6_; have HO275 := n7_; have HO278 := n8_; have HI241 := n9_; have BK247 := n10_; have HB := n11_; clear n0_ n1_ n2_ n3_ n4_ n5_ n6_ n7_ n8_ n9_ n10_ n11_; (try clear hb); (try clear hb2); (try clear hk); (try clear hi)))
        go_meet
        case rel => exact ⟨_, (!t279), (by first | rfl | (simp; done) | (simp [*]; done)), H', ⟨by first | omega | exact Nat.le_refl _⟩, ⟨by (with_reducible repeat (first | apply Kd.R_alloc | apply Kd.R_drewN | apply Kd.R_drew)); exact Kd.R_mono HO250.out (fun _ hk => ⟨hk.1.1.1.2, hk.1.1.2⟩)⟩, ⟨by (with_reducible repeat (first | apply Kd.R_alloc | apply Kd.R_drewN | apply Kd.R_drew)); exact Kd.R_mono HO254.out (fun _ hk => ⟨hk.1.1.1.2, hk.1.1.2⟩)⟩, ⟨by (with_reducible repeat (first | apply Kd.R_alloc | apply Kd.R_drewN | apply Kd.R_drew)); exact Kd.R_mono HO258.out (fun _ hk => ⟨hk.1.1.1.2, hk.1.1.2⟩)⟩, ⟨by (with_reducible repeat (first | apply Kd.R_alloc | apply Kd.R_drewN | apply Kd.R_drew)); exact Kd.R_mono HO268.out (fun _ hk => hk.2)⟩, ⟨by (with_reducible repeat (first | apply Kd.R_alloc | apply Kd.R_drewN | apply Kd.R_drew)); exact Kd.R_mono HO278.out (fun _ hk => hk.2)⟩, ⟨by (with_reducible repeat (first | refine blk_drewN ?_ _ | refine blk_drew ?_ | refine blk_alloc ?_ _)); exact BK247.out⟩, ⟨by repeat (first | (with_reducible first | exact HB.out | apply below_alloc | apply pw_below_drewN | apply below_drew1 | refine below_set ?_ (IsS25.ge HI241.out) | refine below_set ?_ GE247.out) | exact HB.out)⟩⟩
      · replace c38 := Bool.eq_false_iff.mpr c38
        subst c38
        have H1 : (stockyardlaw24_ChunkerMeets.j0 k t248 t252 t256 t266 t276 true) = some r := by rw [if_neg (show ¬ (false = true) by decide)] at H; exact H
        clear H
        have H := H1
        clear H1
        have H' := Aside0.mk H
        clear H
        go_wp2_with (first | ((with_reducible refine gate_callee (f := 17) rfl ?_); refine goesL_ (some 45) rfl rfl Try.func17 (by kernel_rfl) rfl #[] rfl (by (try simp only [List.map_toArray, List.map_cons, List.map_nil]); first | done | rfl | (simp only [List.length_drop, List.length_take]; rfl)) ?_; (with_reducible refine (stockyardlaw24_known.calls k  true _ A36.out).mono ?_); rintro e w40 ⟨rfl, hb⟩; refine ⟨_, rfl, ?_⟩; have n0_ := Aside0.mk (Kd.R_below (by (with_reducible repeat (first | apply Kd.R_alloc | apply Kd.R_drewN | apply Kd.R_drew)); exact HO250.out) hb); have n1_ := Aside0.mk (Kd.R_below (by (with_reducible repeat (first | apply Kd.R_alloc | apply Kd.R_drewN | apply Kd.R_drew)); exact HO254.out) hb); have n2_ := Aside0.mk (Kd.R_below (by (with_reducible repeat (first | apply Kd.R_alloc | apply Kd.R_drewN | apply Kd.R_drew)); exact HO258.out) hb); have n3_ := Aside0.mk (Kd.N_below (by (with_reducible repeat (first | apply Kd.N_alloc | apply Kd.N_drewN | apply Kd.N_drew)); exact HO262.out) hb); have n4_ := Aside0.mk (Kd.R_below (by (with_reducible repeat (first | apply Kd.R_alloc | apply Kd.R_drewN | apply Kd.R_drew)); exact HO265.out) hb); have n5_ := Aside0.mk (Kd.R_below (by (with_reducible repeat (first | apply Kd.R_alloc | apply Kd.R_drewN | apply Kd.R_drew)); exact HO268.out) hb); have n6_ := Aside0.mk (Kd.N_below (by (with_reducible repeat (first | apply Kd.N_alloc | apply Kd.N_drewN | apply Kd.N_drew)); exact HO272.out) hb); have n7_ := Aside0.mk (Kd.R_below (by (with_reducible repeat (first | apply Kd.R_alloc | apply Kd.R_drewN | apply Kd.R_drew)); exact HO275.out) hb); have n8_ := Aside0.mk (Kd.R_below (by (with_reducible repeat (first | apply Kd.R_alloc | apply Kd.R_drewN | apply Kd.R_drew)); exact HO278.out) hb); have n9_ := Aside0.mk (IsS25.below (by repeat (first | (with_reducible first | exact HI241.out | apply IsS25.alloc | apply IsS25.drewN | apply IsS25.drew | apply IsS25.set_1 | refine IsS25.far ?_ NB241_247.out _) | exact HI241.out)) hb); have n10_ := Aside0.mk (blk_below (g := gb247) (o := .cells #[.int .i64 t242, .int .i64 t243, .int .i64 t244, .int .u64 t245] 28 (0, 0)) (by (with_reducible repeat (first | refine blk_drewN ?_ _ | refine blk_drew ?_ | refine blk_alloc ?_ _)); exact BK247.out) hb); have n11_ := Aside0.mk (below_step (by repeat (first | (with_reducible first | exact HB.out | apply below_alloc | apply pw_below_drewN | apply below_drew1 | refine below_set ?_ (IsS25.ge HI241.out) | refine below_set ?_ GE247.out) | exact HB.out)) hb); clear HO250; clear HO254; clear HO258; clear HO262; clear HO265; clear HO268; clear HO272; clear HO275; clear HO278; clear HI241; clear BK247; clear HB; have HO250 := n0_; have HO254 := n1_; have HO258 := n2_; have HO262 := n3_; have HO265 := n4_; have HO268 := n5_; have HO272 := n6_; have HO275 := n7_; have HO278 := n8_; have HI241 := n9_; have BK247 := n10_; have HB := n11_; clear n0_ n1_ n2_ n3_ n4_ n5_ n6_ n7_ n8_ n9_ n10_ n11_; (try clear hb); (try clear hb2); (try clear hk); (try clear hi)))
        go_meet
        case rel => exact ⟨_, (true), (by first | rfl | (simp; done) | (simp [*]; done)), H', ⟨by first | omega | exact Nat.le_refl _⟩, ⟨by (with_reducible repeat (first | apply Kd.R_alloc | apply Kd.R_drewN | apply Kd.R_drew)); exact Kd.R_mono HO250.out (fun _ hk => ⟨hk.1.1.1.2, hk.1.1.2⟩)⟩, ⟨by (with_reducible repeat (first | apply Kd.R_alloc | apply Kd.R_drewN | apply Kd.R_drew)); exact Kd.R_mono HO254.out (fun _ hk => ⟨hk.1.1.1.2, hk.1.1.2⟩)⟩, ⟨by (with_reducible repeat (first | apply Kd.R_alloc | apply Kd.R_drewN | apply Kd.R_drew)); exact Kd.R_mono HO258.out (fun _ hk => ⟨hk.1.1.1.2, hk.1.1.2⟩)⟩, ⟨by (with_reducible repeat (first | apply Kd.R_alloc | apply Kd.R_drewN | apply Kd.R_drew)); exact Kd.R_mono HO268.out (fun _ hk => hk.2)⟩, ⟨by (with_reducible repeat (first | apply Kd.R_alloc | apply Kd.R_drewN | apply Kd.R_drew)); exact Kd.R_mono HO278.out (fun _ hk => hk.2)⟩, ⟨by (with_reducible repeat (first | refine blk_drewN ?_ _ | refine blk_drew ?_ | refine blk_alloc ?_ _)); exact BK247.out⟩, ⟨by repeat (first | (with_reducible first | exact HB.out | apply below_alloc | apply pw_below_drewN | apply below_drew1 | refine below_set ?_ (IsS25.ge HI241.out) | refine below_set ?_ GE247.out) | exact HB.out)⟩⟩
    · replace c37 := Bool.eq_false_iff.mpr c37
      subst c37
      have H1 : (stockyardlaw24_ChunkerMeets.j0 k t248 t252 t256 t266 t276 true) = some r := by rw [if_neg (show ¬ (false = true) by decide)] at H; exact H
      clear H
      have H := H1
      clear H1
      have H' := Aside0.mk H
      clear H
      go_wp2_with (first | ((with_reducible refine gate_callee (f := 17) rfl ?_); refine goesL_ (some 45) rfl rfl Try.func17 (by kernel_rfl) rfl #[] rfl (by (try simp only [List.map_toArray, List.map_cons, List.map_nil]); first | done | rfl | (simp only [List.length_drop, List.length_take]; rfl)) ?_; (with_reducible refine (stockyardlaw24_known.calls k  false _ A36.out).mono ?_); rintro e w41 ⟨rfl, hb⟩; refine ⟨_, rfl, ?_⟩; have n0_ := Aside0.mk (Kd.R_below (by (with_reducible repeat (first | apply Kd.R_alloc | apply Kd.R_drewN | apply Kd.R_drew)); exact HO250.out) hb); have n1_ := Aside0.mk (Kd.R_below (by (with_reducible repeat (first | apply Kd.R_alloc | apply Kd.R_drewN | apply Kd.R_drew)); exact HO254.out) hb); have n2_ := Aside0.mk (Kd.R_below (by (with_reducible repeat (first | apply Kd.R_alloc | apply Kd.R_drewN | apply Kd.R_drew)); exact HO258.out) hb); have n3_ := Aside0.mk (Kd.N_below (by (with_reducible repeat (first | apply Kd.N_alloc | apply Kd.N_drewN | apply Kd.N_drew)); exact HO262.out) hb); have n4_ := Aside0.mk (Kd.R_below (by (with_reducible repeat (first | apply Kd.R_alloc | apply Kd.R_drewN | apply Kd.R_drew)); exact HO265.out) hb); have n5_ := Aside0.mk (Kd.R_below (by (with_reducible repeat (first | apply Kd.R_alloc | apply Kd.R_drewN | apply Kd.R_drew)); exact HO268.out) hb); have n6_ := Aside0.mk (Kd.N_below (by (with_reducible repeat (first | apply Kd.N_alloc | apply Kd.N_drewN | apply Kd.N_drew)); exact HO272.out) hb); have n7_ := Aside0.mk (Kd.R_below (by (with_reducible repeat (first | apply Kd.R_alloc | apply Kd.R_drewN | apply Kd.R_drew)); exact HO275.out) hb); have n8_ := Aside0.mk (Kd.R_below (by (with_reducible repeat (first | apply Kd.R_alloc | apply Kd.R_drewN | apply Kd.R_drew)); exact HO278.out) hb); have n9_ := Aside0.mk (IsS25.below (by repeat (first | (with_reducible first | exact HI241.out | apply IsS25.alloc | apply IsS25.drewN | apply IsS25.drew | apply IsS25.set_1 | refine IsS25.far ?_ NB241_247.out _) | exact HI241.out)) hb); have n10_ := Aside0.mk (blk_below (g := gb247) (o := .cells #[.int .i64 t242, .int .i64 t243, .int .i64 t244, .int .u64 t245] 28 (0, 0)) (by (with_reducible repeat (first | refine blk_drewN ?_ _ | refine blk_drew ?_ | refine blk_alloc ?_ _)); exact BK247.out) hb); have n11_ := Aside0.mk (below_step (by repeat (first | (with_reducible first | exact HB.out | apply below_alloc | apply pw_below_drewN | apply below_drew1 | refine below_set ?_ (IsS25.ge HI241.out) | refine below_set ?_ GE247.out) | exact HB.out)) hb); clear HO250; clear HO254; clear HO258; clear HO262; clear HO265; clear HO268; clear HO272; clear HO275; clear HO278; clear HI241; clear BK247; clear HB; have HO250 := n0_; have HO254 := n1_; have HO258 := n2_; have HO262 := n3_; have HO265 := n4_; have HO268 := n5_; have HO272 := n6_; have HO275 := n7_; have HO278 := n8_; have HI241 := n9_; have BK247 := n10_; have HB := n11_; clear n0_ n1_ n2_ n3_ n4_ n5_ n6_ n7_ n8_ n9_ n10_ n11_; (try clear hb); (try clear hb2); (try clear hk); (try clear hi)))
      go_meet
      case rel => exact ⟨_, (true), (by first | rfl | (simp; done) | (simp [*]; done)), H', ⟨by first | omega | exact Nat.le_refl _⟩, ⟨by (with_reducible repeat (first | apply Kd.R_alloc | apply Kd.R_drewN | apply Kd.R_drew)); exact Kd.R_mono HO250.out (fun _ hk => ⟨hk.1.1.1.2, hk.1.1.2⟩)⟩, ⟨by (with_reducible repeat (first | apply Kd.R_alloc | apply Kd.R_drewN | apply Kd.R_drew)); exact Kd.R_mono HO254.out (fun _ hk => ⟨hk.1.1.1.2, hk.1.1.2⟩)⟩, ⟨by (with_reducible repeat (first | apply Kd.R_alloc | apply Kd.R_drewN | apply Kd.R_drew)); exact Kd.R_mono HO258.out (fun _ hk => ⟨hk.1.1.1.2, hk.1.1.2⟩)⟩, ⟨by (with_reducible repeat (first | apply Kd.R_alloc | apply Kd.R_drewN | apply Kd.R_drew)); exact Kd.R_mono HO268.out (fun _ hk => hk.2)⟩, ⟨by (with_reducible repeat (first | apply Kd.R_alloc | apply Kd.R_drewN | apply Kd.R_drew)); exact Kd.R_mono HO278.out (fun _ hk => hk.2)⟩, ⟨by (with_reducible repeat (first | refine blk_drewN ?_ _ | refine blk_drew ?_ | refine blk_alloc ?_ _)); exact BK247.out⟩, ⟨by repeat (first | (with_reducible first | exact HB.out | apply below_alloc | apply pw_below_drewN | apply below_drew1 | refine below_set ?_ (IsS25.ge HI241.out) | refine below_set ?_ GE247.out) | exact HB.out)⟩⟩
  case rest =>
    clear HC10
    try clear c1
    try clear p2
    try clear c3
    try clear c5
    try clear c14
    try clear c15
    try clear c16
    try clear c17
    try clear c19
    try clear c37
    try clear c38
    try clear hcz15_0
    try clear hcz15_1
    try clear hcz15_2
    try clear hcz15_3
    try clear hfz15_0
    try clear hfz15_1
    try clear hfz15_2
    try clear hfz15_3
    obtain ⟨kq, x54_9, rfl, HA, HJ9, HO_5, HO_6, HO_7, HO_8, HO_10, BK247, HB⟩ := hcut
    cases kq with
    | zero => exact absurd HA.out (by simp [stockyardlaw24_ChunkerMeets.j0])
    | succ kj9 =>
      have H := HA.out
      clear HA
      simp only [stockyardlaw24_ChunkerMeets.j0] at H
      by_cases c42 : x54_9 = true
      · subst c42
        have H1 : (some false) = some r := by rw [if_pos rfl] at H; exact H
        clear H
        have H := H1
        clear H1
        exact absurd ((Option.some.inj H).trans HRT.out) (by decide)
      · replace c42 := Bool.eq_false_iff.mpr c42
        subst c42
        have H1 : (stockyardlaw24_ChunkerMeets.l0 kj9 t248 t252 t256 t266 t276 false 0) = some r := by rw [if_neg (show ¬ (false = true) by decide)] at H; exact H
        clear H
        have H := H1
        clear H1
        have H' := Aside0.mk H
        clear H
        go_wp2
        go_loopg [12, 13] kj9 (fun kq v12 v13 w' => ∃ (x12_2 : Bool) (x13_2 : Int), v12 = .bool x12_2 ∧ v13 = .int .i64 x13_2 ∧ Aside0 (stockyardlaw24_ChunkerMeets.l0 kq t248 t252 t256 t266 t276 x12_2 x13_2 = some r) ∧ Aside0 (kq ≤ kj9) ∧ Aside0 (Kd.R (Kd.int .u8) 5 w' w.heap.size (fun k_ => some k_ ≠ ((.slice Ao29 t252.length co29) : Value).ownBlock ∧ some k_ ≠ ((.slice Ao21 t256.length co21) : Value).ownBlock) (.slice Ao20 t248.length co20) t248) ∧ Aside0 (Kd.R (Kd.int .u8) 5 w' w.heap.size (fun k_ => some k_ ≠ ((.slice Ao20 t248.length co20) : Value).ownBlock ∧ some k_ ≠ ((.slice Ao21 t256.length co21) : Value).ownBlock) (.slice Ao29 t252.length co29) t252) ∧ Aside0 (Kd.R (Kd.int .u8) 5 w' w.heap.size (fun k_ => some k_ ≠ ((.slice Ao20 t248.length co20) : Value).ownBlock ∧ some k_ ≠ ((.slice Ao29 t252.length co29) : Value).ownBlock) (.slice Ao21 t256.length co21) t256) ∧ Aside0 (Kd.R (Kd.int .i64) 3 w' w.heap.size (fun k_ => some k_ ≠ (v277 : Value).ownBlock) v267 t266) ∧ Aside0 (Kd.R (Kd.int .i64) 3 w' w.heap.size (fun k_ => some k_ ≠ (v267 : Value).ownBlock) v277 t276) ∧ Aside0 (w'.heap[gb247]? = some (.cells #[.int .i64 t242, .int .i64 t243, .int .i64 t244, .int .u64 t245] 28 (0, 0))) ∧ Aside0 (Below w.heap.size w w'))
        case atStart => exact ⟨(false), (0), (by first | rfl | (simp; done) | (simp [*]; done)), (by first | rfl | (simp; done) | (simp [*]; done)), H', ⟨Nat.le_refl _⟩, ⟨by (with_reducible repeat (first | apply Kd.R_alloc | apply Kd.R_drewN | apply Kd.R_drew)); exact HO_5.out⟩, ⟨by (with_reducible repeat (first | apply Kd.R_alloc | apply Kd.R_drewN | apply Kd.R_drew)); exact HO_6.out⟩, ⟨by (with_reducible repeat (first | apply Kd.R_alloc | apply Kd.R_drewN | apply Kd.R_drew)); exact HO_7.out⟩, ⟨by (with_reducible repeat (first | apply Kd.R_alloc | apply Kd.R_drewN | apply Kd.R_drew)); exact HO_8.out⟩, ⟨by (with_reducible repeat (first | apply Kd.R_alloc | apply Kd.R_drewN | apply Kd.R_drew)); exact HO_10.out⟩, ⟨by (with_reducible repeat (first | refine blk_drewN ?_ _ | refine blk_drew ?_ | refine blk_alloc ?_ _)); exact BK247.out⟩, ⟨by repeat (first | (with_reducible first | exact HB.out | apply below_alloc | apply pw_below_drewN | apply below_drew1 | refine below_set ?_ GE247.out) | exact HB.out)⟩⟩
        case round =>
          clear H'
          try clear c1
          try clear p2
          try clear c3
          try clear c4
          try clear c5
          try clear c14
          try clear c15
          try clear c16
          try clear c17
          try clear c19
          try clear c37
          try clear c38
          try clear c42
          try clear hcz15_0
          try clear hcz15_1
          try clear hcz15_2
          try clear hcz15_3
          try clear hfz15_0
          try clear hfz15_1
          try clear hfz15_2
          try clear hfz15_3
          try clear p2
          obtain ⟨x12_2, x13_2, rfl, rfl, HA, HK2, HO_5, HO_6, HO_7, HO_8, HO_10, BK247, HB⟩ := hrel
          cases gk with
          | zero => exact absurd HA.out (by simp [stockyardlaw24_ChunkerMeets.l0])
          | succ k2 =>
            have H := HA.out
            clear HA
            simp only [stockyardlaw24_ChunkerMeets.l0] at H
            by_cases c43 : x13_2 ≤ (t256.length : Int)
            · rw [if_pos c43] at H
              have c43b0 : decide (x13_2 ≤ (t256.length : Int)) = true := decide_eq_true c43
              clear c43
              by_cases c44 : (wrap64 (x13_2 + (t248.length : Int))) = 0
              · rw [if_pos c44] at H
                have c44b0 : ((wrap64 (x13_2 + (t248.length : Int))) == 0) = true := beq_iff_eq.mpr c44
                have c44b1 : ((wrap64 (x13_2 + (t248.length : Int))) != 0) = false := bne_eq_false_iff_eq.mpr c44
                clear c44
                by_cases c45 : (wrap64 (x13_2 + (t252.length : Int))) = 0
                · rw [if_pos c45] at H
                  have c45b0 : ((wrap64 (x13_2 + (t252.length : Int))) == 0) = true := beq_iff_eq.mpr c45
                  have c45b1 : ((wrap64 (x13_2 + (t252.length : Int))) != 0) = false := bne_eq_false_iff_eq.mpr c45
                  clear c45
                  by_cases c46 : x12_2 = true
                  · subst c46
                    have H1 : (if (true != true) = true then (some false) else (stockyardlaw24_ChunkerMeets.l0 k2 t248 t252 t256 t266 t276 true (wrap64 (x13_2 + 1)))) = some r := by rw [if_pos rfl] at H; exact H
                    clear H
                    have H := H1
                    clear H1
                    by_cases c47 : (true != true) = true
                    · rw [if_pos c47] at H
                      have c47b0 : (true != true) = true := c47
                      (try (have c47b1 : decide (true = true) = false := by simpa using c47))
                      (try (have c47b2 : (true == true) = false := by simpa using c47))
                      (try (have c47b3 : ¬ (true = true) := by simpa using c47))
                      clear c47
                      exact absurd ((Option.some.inj H).trans HRT.out) (by decide)
                    · rw [if_neg c47] at H
                      have c47b0 : (true != true) = false := by simpa using c47
                      (try (have c47b1 : decide (true = true) = true := by simpa using c47))
                      (try (have c47b2 : (true == true) = true := by simpa using c47))
                      clear c47
                      have H' := Aside0.mk H
                      clear H
                      go_wp2
                      go_roundg k2
                      case measure => have := HJ9.out; have := HK2.out; omega
                      case rel => exact ⟨(true), (wrap64 (x13_2 + 1)), (by first | rfl | (simp; done) | (simp [*]; done)), (by first | rfl | (simp; done) | (simp [*]; done)), H', ⟨by have := HJ9.out; have := HK2.out; omega⟩, ⟨by (with_reducible repeat (first | apply Kd.R_alloc | apply Kd.R_drewN | apply Kd.R_drew)); exact HO_5.out⟩, ⟨by (with_reducible repeat (first | apply Kd.R_alloc | apply Kd.R_drewN | apply Kd.R_drew)); exact HO_6.out⟩, ⟨by (with_reducible repeat (first | apply Kd.R_alloc | apply Kd.R_drewN | apply Kd.R_drew)); exact HO_7.out⟩, ⟨by (with_reducible repeat (first | apply Kd.R_alloc | apply Kd.R_drewN | apply Kd.R_drew)); exact HO_8.out⟩, ⟨by (with_reducible repeat (first | apply Kd.R_alloc | apply Kd.R_drewN | apply Kd.R_drew)); exact HO_10.out⟩, ⟨by (with_reducible repeat (first | refine blk_drewN ?_ _ | refine blk_drew ?_ | refine blk_alloc ?_ _)); exact BK247.out⟩, ⟨by repeat (first | (with_reducible first | exact HB.out | apply below_alloc | apply pw_below_drewN | apply below_drew1 | refine below_set ?_ GE247.out) | exact HB.out)⟩⟩
                  · replace c46 := Bool.eq_false_iff.mpr c46
                    subst c46
                    have H1 : (stockyardlaw24_ChunkerMeets.l0 k2 t248 t252 t256 t266 t276 true (wrap64 (x13_2 + 1))) = some r := by rw [if_neg (show ¬ (false = true) by decide)] at H; exact H
                    clear H
                    have H := H1
                    clear H1
                    have H' := Aside0.mk H
                    clear H
                    go_wp2
                    go_roundg k2
                    case measure => have := HJ9.out; have := HK2.out; omega
                    case rel => exact ⟨(true), (wrap64 (x13_2 + 1)), (by first | rfl | (simp; done) | (simp [*]; done)), (by first | rfl | (simp; done) | (simp [*]; done)), H', ⟨by have := HJ9.out; have := HK2.out; omega⟩, ⟨by (with_reducible repeat (first | apply Kd.R_alloc | apply Kd.R_drewN | apply Kd.R_drew)); exact HO_5.out⟩, ⟨by (with_reducible repeat (first | apply Kd.R_alloc | apply Kd.R_drewN | apply Kd.R_drew)); exact HO_6.out⟩, ⟨by (with_reducible repeat (first | apply Kd.R_alloc | apply Kd.R_drewN | apply Kd.R_drew)); exact HO_7.out⟩, ⟨by (with_reducible repeat (first | apply Kd.R_alloc | apply Kd.R_drewN | apply Kd.R_drew)); exact HO_8.out⟩, ⟨by (with_reducible repeat (first | apply Kd.R_alloc | apply Kd.R_drewN | apply Kd.R_drew)); exact HO_10.out⟩, ⟨by (with_reducible repeat (first | refine blk_drewN ?_ _ | refine blk_drew ?_ | refine blk_alloc ?_ _)); exact BK247.out⟩, ⟨by repeat (first | (with_reducible first | exact HB.out | apply below_alloc | apply pw_below_drewN | apply below_drew1 | refine below_set ?_ GE247.out) | exact HB.out)⟩⟩
                · rw [if_neg c45] at H
                  have c45b0 : ((wrap64 (x13_2 + (t252.length : Int))) == 0) = false := beq_eq_false_iff_ne.mpr c45
                  have c45b1 : ((wrap64 (x13_2 + (t252.length : Int))) != 0) = true := bne_iff_ne.mpr c45
                  replace H := Option.bind_eq_some_iff.mp H
                  obtain ⟨t281, A480, H⟩ := H
                  replace H : (if x12_2 = true then (if (true != t281) = true then (some false) else (stockyardlaw24_ChunkerMeets.l0 k2 t248 t252 t256 t266 t276 true (wrap64 (x13_2 + 1)))) else (stockyardlaw24_ChunkerMeets.l0 k2 t248 t252 t256 t266 t276 t281 (wrap64 (x13_2 + 1)))) = some r := H
                  have A48 := Aside0.mk A480
                  clear A480
                  by_cases c49 : x12_2 = true
                  · subst c49
                    have H1 : (if (true != t281) = true then (some false) else (stockyardlaw24_ChunkerMeets.l0 k2 t248 t252 t256 t266 t276 true (wrap64 (x13_2 + 1)))) = some r := by rw [if_pos rfl] at H; exact H
                    clear H
                    have H := H1
                    clear H1
                    by_cases c50 : (true != t281) = true
                    · rw [if_pos c50] at H
                      have c50b0 : (true != t281) = true := c50
                      (try (have c50b1 : decide (true = t281) = false := by simpa using c50))
                      (try (have c50b2 : (true == t281) = false := by simpa using c50))
                      (try (have c50b3 : ¬ (true = t281) := by simpa using c50))
                      clear c50
                      exact absurd ((Option.some.inj H).trans HRT.out) (by decide)
                    · rw [if_neg c50] at H
                      have c50b0 : (true != t281) = false := by simpa using c50
                      (try (have c50b1 : decide (true = t281) = true := by simpa using c50))
                      (try (have c50b2 : (true == t281) = true := by simpa using c50))
                      clear c50
                      have H' := Aside0.mk H
                      clear H
                      obtain ⟨Ao51, co51, eo51⟩ := Kd.R_slice HO_10.out
                      subst eo51
                      go_wp2_with (first | (go_at_call 20; (with_reducible refine (stockyardlaw24_has.calls k2 _ _ t276 (wrap64 (x13_2 + (t252.length : Int))) t281 _ ?side1 ?side2 A48.out).mono ?_); (case side1 => repeat (first | exact (Kd.R_reads' HO_10.out).2.2 | (with_reducible refine Kd.C_alloc ?_ _) | (with_reducible refine Kd.C_drewN ?_ _) | (with_reducible refine Kd.C_drew ?_))); (case side2 => exact (Kd.R_reads' HO_10.out).2.1); rintro e w' ⟨rfl, ⟨nd, rfl⟩⟩))
                      go_roundg k2
                      case measure => have := HJ9.out; have := HK2.out; omega
                      case rel => exact ⟨(true), (wrap64 (x13_2 + 1)), (by first | rfl | (simp; done) | (simp [*]; done)), (by first | rfl | (simp; done) | (simp [*]; done)), H', ⟨by have := HJ9.out; have := HK2.out; omega⟩, ⟨by (with_reducible repeat (first | apply Kd.R_alloc | apply Kd.R_drewN | apply Kd.R_drew)); exact HO_5.out⟩, ⟨by (with_reducible repeat (first | apply Kd.R_alloc | apply Kd.R_drewN | apply Kd.R_drew)); exact HO_6.out⟩, ⟨by (with_reducible repeat (first | apply Kd.R_alloc | apply Kd.R_drewN | apply Kd.R_drew)); exact HO_7.out⟩, ⟨by (with_reducible repeat (first | apply Kd.R_alloc | apply Kd.R_drewN | apply Kd.R_drew)); exact HO_8.out⟩, ⟨by (with_reducible repeat (first | apply Kd.R_alloc | apply Kd.R_drewN | apply Kd.R_drew)); exact HO_10.out⟩, ⟨by (with_reducible repeat (first | refine blk_drewN ?_ _ | refine blk_drew ?_ | refine blk_alloc ?_ _)); exact BK247.out⟩, ⟨by repeat (first | (with_reducible first | exact HB.out | apply below_alloc | apply pw_below_drewN | apply below_drew1 | refine below_set ?_ GE247.out) | exact HB.out)⟩⟩
                  · replace c49 := Bool.eq_false_iff.mpr c49
                    subst c49
                    have H1 : (stockyardlaw24_ChunkerMeets.l0 k2 t248 t252 t256 t266 t276 t281 (wrap64 (x13_2 + 1))) = some r := by rw [if_neg (show ¬ (false = true) by decide)] at H; exact H
                    clear H
                    have H := H1
                    clear H1
                    have H' := Aside0.mk H
                    clear H
                    obtain ⟨Ao52, co52, eo52⟩ := Kd.R_slice HO_10.out
                    subst eo52
                    go_wp2_with (first | (go_at_call 20; (with_reducible refine (stockyardlaw24_has.calls k2 _ _ t276 (wrap64 (x13_2 + (t252.length : Int))) t281 _ ?side1 ?side2 A48.out).mono ?_); (case side1 => repeat (first | exact (Kd.R_reads' HO_10.out).2.2 | (with_reducible refine Kd.C_alloc ?_ _) | (with_reducible refine Kd.C_drewN ?_ _) | (with_reducible refine Kd.C_drew ?_))); (case side2 => exact (Kd.R_reads' HO_10.out).2.1); rintro e w' ⟨rfl, ⟨nd, rfl⟩⟩))
                    go_roundg k2
                    case measure => have := HJ9.out; have := HK2.out; omega
                    case rel => exact ⟨(t281), (wrap64 (x13_2 + 1)), (by first | rfl | (simp; done) | (simp [*]; done)), (by first | rfl | (simp; done) | (simp [*]; done)), H', ⟨by have := HJ9.out; have := HK2.out; omega⟩, ⟨by (with_reducible repeat (first | apply Kd.R_alloc | apply Kd.R_drewN | apply Kd.R_drew)); exact HO_5.out⟩, ⟨by (with_reducible repeat (first | apply Kd.R_alloc | apply Kd.R_drewN | apply Kd.R_drew)); exact HO_6.out⟩, ⟨by (with_reducible repeat (first | apply Kd.R_alloc | apply Kd.R_drewN | apply Kd.R_drew)); exact HO_7.out⟩, ⟨by (with_reducible repeat (first | apply Kd.R_alloc | apply Kd.R_drewN | apply Kd.R_drew)); exact HO_8.out⟩, ⟨by (with_reducible repeat (first | apply Kd.R_alloc | apply Kd.R_drewN | apply Kd.R_drew)); exact HO_10.out⟩, ⟨by (with_reducible repeat (first | refine blk_drewN ?_ _ | refine blk_drew ?_ | refine blk_alloc ?_ _)); exact BK247.out⟩, ⟨by repeat (first | (with_reducible first | exact HB.out | apply below_alloc | apply pw_below_drewN | apply below_drew1 | refine below_set ?_ GE247.out) | exact HB.out)⟩⟩
              · rw [if_neg c44] at H
                have c44b0 : ((wrap64 (x13_2 + (t248.length : Int))) == 0) = false := beq_eq_false_iff_ne.mpr c44
                have c44b1 : ((wrap64 (x13_2 + (t248.length : Int))) != 0) = true := bne_iff_ne.mpr c44
                replace H := Option.bind_eq_some_iff.mp H
                obtain ⟨t282, A530, H⟩ := H
                replace H : (if (wrap64 (x13_2 + (t252.length : Int))) = 0 then (if x12_2 = true then (if (t282 != true) = true then (some false) else (stockyardlaw24_ChunkerMeets.l0 k2 t248 t252 t256 t266 t276 true (wrap64 (x13_2 + 1)))) else (if t282 = true then (stockyardlaw24_ChunkerMeets.l0 k2 t248 t252 t256 t266 t276 true (wrap64 (x13_2 + 1))) else (stockyardlaw24_ChunkerMeets.l0 k2 t248 t252 t256 t266 t276 false (wrap64 (x13_2 + 1))))) else ((stockyardlaw24_has.f k2 t276 (wrap64 (x13_2 + (t252.length : Int)))).bind fun t283 => (if x12_2 = true then (if (t282 != t283) = true then (some false) else (stockyardlaw24_ChunkerMeets.l0 k2 t248 t252 t256 t266 t276 true (wrap64 (x13_2 + 1)))) else (if t282 = true then (stockyardlaw24_ChunkerMeets.l0 k2 t248 t252 t256 t266 t276 t283 (wrap64 (x13_2 + 1))) else (stockyardlaw24_ChunkerMeets.l0 k2 t248 t252 t256 t266 t276 false (wrap64 (x13_2 + 1))))))) = some r := H
                have A53 := Aside0.mk A530
                clear A530
                by_cases c54 : (wrap64 (x13_2 + (t252.length : Int))) = 0
                · rw [if_pos c54] at H
                  have c54b0 : ((wrap64 (x13_2 + (t252.length : Int))) == 0) = true := beq_iff_eq.mpr c54
                  have c54b1 : ((wrap64 (x13_2 + (t252.length : Int))) != 0) = false := bne_eq_false_iff_eq.mpr c54
                  clear c54
                  by_cases c55 : x12_2 = true
                  · subst c55
                    have H1 : (if (t282 != true) = true then (some false) else (stockyardlaw24_ChunkerMeets.l0 k2 t248 t252 t256 t266 t276 true (wrap64 (x13_2 + 1)))) = some r := by rw [if_pos rfl] at H; exact H
                    clear H
                    have H := H1
                    clear H1
                    by_cases c56 : (t282 != true) = true
                    · rw [if_pos c56] at H
                      have c56b0 : (t282 != true) = true := c56
                      (try (have c56b1 : decide (t282 = true) = false := by simpa using c56))
                      (try (have c56b2 : (t282 == true) = false := by simpa using c56))
                      (try (have c56b3 : ¬ (t282 = true) := by simpa using c56))
                      clear c56
                      exact absurd ((Option.some.inj H).trans HRT.out) (by decide)
                    · rw [if_neg c56] at H
                      have c56b0 : (t282 != true) = false := by simpa using c56
                      (try (have c56b1 : decide (t282 = true) = true := by simpa using c56))
                      (try (have c56b2 : (t282 == true) = true := by simpa using c56))
                      clear c56
                      have H' := Aside0.mk H
                      clear H
                      obtain ⟨Ao57, co57, eo57⟩ := Kd.R_slice HO_8.out
                      subst eo57
                      go_wp2_with (first | (go_at_call 20; (with_reducible refine (stockyardlaw24_has.calls k2 _ _ t266 (wrap64 (x13_2 + (t248.length : Int))) t282 _ ?side1 ?side2 A53.out).mono ?_); (case side1 => repeat (first | exact (Kd.R_reads' HO_8.out).2.2 | (with_reducible refine Kd.C_alloc ?_ _) | (with_reducible refine Kd.C_drewN ?_ _) | (with_reducible refine Kd.C_drew ?_))); (case side2 => exact (Kd.R_reads' HO_8.out).2.1); rintro e w' ⟨rfl, ⟨nd, rfl⟩⟩))
                      go_roundg k2
                      case measure => have := HJ9.out; have := HK2.out; omega
                      case rel => exact ⟨(true), (wrap64 (x13_2 + 1)), (by first | rfl | (simp; done) | (simp [*]; done)), (by first | rfl | (simp; done) | (simp [*]; done)), H', ⟨by have := HJ9.out; have := HK2.out; omega⟩, ⟨by (with_reducible repeat (first | apply Kd.R_alloc | apply Kd.R_drewN | apply Kd.R_drew)); exact HO_5.out⟩, ⟨by (with_reducible repeat (first | apply Kd.R_alloc | apply Kd.R_drewN | apply Kd.R_drew)); exact HO_6.out⟩, ⟨by (with_reducible repeat (first | apply Kd.R_alloc | apply Kd.R_drewN | apply Kd.R_drew)); exact HO_7.out⟩, ⟨by (with_reducible repeat (first | apply Kd.R_alloc | apply Kd.R_drewN | apply Kd.R_drew)); exact HO_8.out⟩, ⟨by (with_reducible repeat (first | apply Kd.R_alloc | apply Kd.R_drewN | apply Kd.R_drew)); exact HO_10.out⟩, ⟨by (with_reducible repeat (first | refine blk_drewN ?_ _ | refine blk_drew ?_ | refine blk_alloc ?_ _)); exact BK247.out⟩, ⟨by repeat (first | (with_reducible first | exact HB.out | apply below_alloc | apply pw_below_drewN | apply below_drew1 | refine below_set ?_ GE247.out) | exact HB.out)⟩⟩
                  · replace c55 := Bool.eq_false_iff.mpr c55
                    subst c55
                    have H1 : (if t282 = true then (stockyardlaw24_ChunkerMeets.l0 k2 t248 t252 t256 t266 t276 true (wrap64 (x13_2 + 1))) else (stockyardlaw24_ChunkerMeets.l0 k2 t248 t252 t256 t266 t276 false (wrap64 (x13_2 + 1)))) = some r := by rw [if_neg (show ¬ (false = true) by decide)] at H; exact H
                    clear H
                    have H := H1
                    clear H1
                    by_cases c58 : t282 = true
                    · subst c58
                      have H1 : (stockyardlaw24_ChunkerMeets.l0 k2 t248 t252 t256 t266 t276 true (wrap64 (x13_2 + 1))) = some r := by rw [if_pos rfl] at H; exact H
                      clear H
                      have H := H1
                      clear H1
                      have H' := Aside0.mk H
                      clear H
                      obtain ⟨Ao59, co59, eo59⟩ := Kd.R_slice HO_8.out
                      subst eo59
                      go_wp2_with (first | (go_at_call 20; (with_reducible refine (stockyardlaw24_has.calls k2 _ _ t266 (wrap64 (x13_2 + (t248.length : Int))) true _ ?side1 ?side2 A53.out).mono ?_); (case side1 => repeat (first | exact (Kd.R_reads' HO_8.out).2.2 | (with_reducible refine Kd.C_alloc ?_ _) | (with_reducible refine Kd.C_drewN ?_ _) | (with_reducible refine Kd.C_drew ?_))); (case side2 => exact (Kd.R_reads' HO_8.out).2.1); rintro e w' ⟨rfl, ⟨nd, rfl⟩⟩))
                      go_roundg k2
                      case measure => have := HJ9.out; have := HK2.out; omega
                      case rel => exact ⟨(true), (wrap64 (x13_2 + 1)), (by first | rfl | (simp; done) | (simp [*]; done)), (by first | rfl | (simp; done) | (simp [*]; done)), H', ⟨by have := HJ9.out; have := HK2.out; omega⟩, ⟨by (with_reducible repeat (first | apply Kd.R_alloc | apply Kd.R_drewN | apply Kd.R_drew)); exact HO_5.out⟩, ⟨by (with_reducible repeat (first | apply Kd.R_alloc | apply Kd.R_drewN | apply Kd.R_drew)); exact HO_6.out⟩, ⟨by (with_reducible repeat (first | apply Kd.R_alloc | apply Kd.R_drewN | apply Kd.R_drew)); exact HO_7.out⟩, ⟨by (with_reducible repeat (first | apply Kd.R_alloc | apply Kd.R_drewN | apply Kd.R_drew)); exact HO_8.out⟩, ⟨by (with_reducible repeat (first | apply Kd.R_alloc | apply Kd.R_drewN | apply Kd.R_drew)); exact HO_10.out⟩, ⟨by (with_reducible repeat (first | refine blk_drewN ?_ _ | refine blk_drew ?_ | refine blk_alloc ?_ _)); exact BK247.out⟩, ⟨by repeat (first | (with_reducible first | exact HB.out | apply below_alloc | apply pw_below_drewN | apply below_drew1 | refine below_set ?_ GE247.out) | exact HB.out)⟩⟩
                    · replace c58 := Bool.eq_false_iff.mpr c58
                      subst c58
                      have H1 : (stockyardlaw24_ChunkerMeets.l0 k2 t248 t252 t256 t266 t276 false (wrap64 (x13_2 + 1))) = some r := by rw [if_neg (show ¬ (false = true) by decide)] at H; exact H
                      clear H
                      have H := H1
                      clear H1
                      have H' := Aside0.mk H
                      clear H
                      obtain ⟨Ao60, co60, eo60⟩ := Kd.R_slice HO_8.out
                      subst eo60
                      go_wp2_with (first | (go_at_call 20; (with_reducible refine (stockyardlaw24_has.calls k2 _ _ t266 (wrap64 (x13_2 + (t248.length : Int))) false _ ?side1 ?side2 A53.out).mono ?_); (case side1 => repeat (first | exact (Kd.R_reads' HO_8.out).2.2 | (with_reducible refine Kd.C_alloc ?_ _) | (with_reducible refine Kd.C_drewN ?_ _) | (with_reducible refine Kd.C_drew ?_))); (case side2 => exact (Kd.R_reads' HO_8.out).2.1); rintro e w' ⟨rfl, ⟨nd, rfl⟩⟩))
                      go_roundg k2
                      case measure => have := HJ9.out; have := HK2.out; omega
                      case rel => exact ⟨(false), (wrap64 (x13_2 + 1)), (by first | rfl | (simp; done) | (simp [*]; done)), (by first | rfl | (simp; done) | (simp [*]; done)), H', ⟨by have := HJ9.out; have := HK2.out; omega⟩, ⟨by (with_reducible repeat (first | apply Kd.R_alloc | apply Kd.R_drewN | apply Kd.R_drew)); exact HO_5.out⟩, ⟨by (with_reducible repeat (first | apply Kd.R_alloc | apply Kd.R_drewN | apply Kd.R_drew)); exact HO_6.out⟩, ⟨by (with_reducible repeat (first | apply Kd.R_alloc | apply Kd.R_drewN | apply Kd.R_drew)); exact HO_7.out⟩, ⟨by (with_reducible repeat (first | apply Kd.R_alloc | apply Kd.R_drewN | apply Kd.R_drew)); exact HO_8.out⟩, ⟨by (with_reducible repeat (first | apply Kd.R_alloc | apply Kd.R_drewN | apply Kd.R_drew)); exact HO_10.out⟩, ⟨by (with_reducible repeat (first | refine blk_drewN ?_ _ | refine blk_drew ?_ | refine blk_alloc ?_ _)); exact BK247.out⟩, ⟨by repeat (first | (with_reducible first | exact HB.out | apply below_alloc | apply pw_below_drewN | apply below_drew1 | refine below_set ?_ GE247.out) | exact HB.out)⟩⟩
                · rw [if_neg c54] at H
                  have c54b0 : ((wrap64 (x13_2 + (t252.length : Int))) == 0) = false := beq_eq_false_iff_ne.mpr c54
                  have c54b1 : ((wrap64 (x13_2 + (t252.length : Int))) != 0) = true := bne_iff_ne.mpr c54
                  replace H := Option.bind_eq_some_iff.mp H
                  obtain ⟨t283, A610, H⟩ := H
                  replace H : (if x12_2 = true then (if (t282 != t283) = true then (some false) else (stockyardlaw24_ChunkerMeets.l0 k2 t248 t252 t256 t266 t276 true (wrap64 (x13_2 + 1)))) else (if t282 = true then (stockyardlaw24_ChunkerMeets.l0 k2 t248 t252 t256 t266 t276 t283 (wrap64 (x13_2 + 1))) else (stockyardlaw24_ChunkerMeets.l0 k2 t248 t252 t256 t266 t276 false (wrap64 (x13_2 + 1))))) = some r := H
                  have A61 := Aside0.mk A610
                  clear A610
                  by_cases c62 : x12_2 = true
                  · subst c62
                    have H1 : (if (t282 != t283) = true then (some false) else (stockyardlaw24_ChunkerMeets.l0 k2 t248 t252 t256 t266 t276 true (wrap64 (x13_2 + 1)))) = some r := by rw [if_pos rfl] at H; exact H
                    clear H
                    have H := H1
                    clear H1
                    by_cases c63 : (t282 != t283) = true
                    · rw [if_pos c63] at H
                      have c63b0 : (t282 != t283) = true := c63
                      (try (have c63b1 : decide (t282 = t283) = false := by simpa using c63))
                      (try (have c63b2 : (t282 == t283) = false := by simpa using c63))
                      (try (have c63b3 : ¬ (t282 = t283) := by simpa using c63))
                      clear c63
                      exact absurd ((Option.some.inj H).trans HRT.out) (by decide)
                    · rw [if_neg c63] at H
                      have c63b0 : (t282 != t283) = false := by simpa using c63
                      (try (have c63b1 : decide (t282 = t283) = true := by simpa using c63))
                      (try (have c63b2 : (t282 == t283) = true := by simpa using c63))
                      clear c63
                      have H' := Aside0.mk H
                      clear H
                      obtain ⟨Ao64, co64, eo64⟩ := Kd.R_slice HO_8.out
                      subst eo64
                      go_wp2_with (first | (go_at_call 20; (with_reducible refine (stockyardlaw24_has.calls k2 _ _ t266 (wrap64 (x13_2 + (t248.length : Int))) t282 _ ?side1 ?side2 A53.out).mono ?_); (case side1 => repeat (first | exact (Kd.R_reads' HO_8.out).2.2 | (with_reducible refine Kd.C_alloc ?_ _) | (with_reducible refine Kd.C_drewN ?_ _) | (with_reducible refine Kd.C_drew ?_))); (case side2 => exact (Kd.R_reads' HO_8.out).2.1); rintro e w' ⟨rfl, ⟨nd, rfl⟩⟩; obtain ⟨Ao65, co65, eo65⟩ := Kd.R_slice HO_10.out; subst eo65) | (go_at_call 20; (with_reducible refine (stockyardlaw24_has.calls k2 _ _ t276 (wrap64 (x13_2 + (t252.length : Int))) t283 _ ?side1 ?side2 A61.out).mono ?_); (case side1 => repeat (first | exact (Kd.R_reads' HO_10.out).2.2 | (with_reducible refine Kd.C_alloc ?_ _) | (with_reducible refine Kd.C_drewN ?_ _) | (with_reducible refine Kd.C_drew ?_))); (case side2 => exact (Kd.R_reads' HO_10.out).2.1); rintro e w' ⟨rfl, ⟨nd, rfl⟩⟩))
                      go_roundg k2
                      case measure => have := HJ9.out; have := HK2.out; omega
                      case rel => exact ⟨(true), (wrap64 (x13_2 + 1)), (by first | rfl | (simp; done) | (simp [*]; done)), (by first | rfl | (simp; done) | (simp [*]; done)), H', ⟨by have := HJ9.out; have := HK2.out; omega⟩, ⟨by (with_reducible repeat (first | apply Kd.R_alloc | apply Kd.R_drewN | apply Kd.R_drew)); exact HO_5.out⟩, ⟨by (with_reducible repeat (first | apply Kd.R_alloc | apply Kd.R_drewN | apply Kd.R_drew)); exact HO_6.out⟩, ⟨by (with_reducible repeat (first | apply Kd.R_alloc | apply Kd.R_drewN | apply Kd.R_drew)); exact HO_7.out⟩, ⟨by (with_reducible repeat (first | apply Kd.R_alloc | apply Kd.R_drewN | apply Kd.R_drew)); exact HO_8.out⟩, ⟨by (with_reducible repeat (first | apply Kd.R_alloc | apply Kd.R_drewN | apply Kd.R_drew)); exact HO_10.out⟩, ⟨by (with_reducible repeat (first | refine blk_drewN ?_ _ | refine blk_drew ?_ | refine blk_alloc ?_ _)); exact BK247.out⟩, ⟨by repeat (first | (with_reducible first | exact HB.out | apply below_alloc | apply pw_below_drewN | apply below_drew1 | refine below_set ?_ GE247.out) | exact HB.out)⟩⟩
                  · replace c62 := Bool.eq_false_iff.mpr c62
                    subst c62
                    have H1 : (if t282 = true then (stockyardlaw24_ChunkerMeets.l0 k2 t248 t252 t256 t266 t276 t283 (wrap64 (x13_2 + 1))) else (stockyardlaw24_ChunkerMeets.l0 k2 t248 t252 t256 t266 t276 false (wrap64 (x13_2 + 1)))) = some r := by rw [if_neg (show ¬ (false = true) by decide)] at H; exact H
                    clear H
                    have H := H1
                    clear H1
                    by_cases c66 : t282 = true
                    · subst c66
                      have H1 : (stockyardlaw24_ChunkerMeets.l0 k2 t248 t252 t256 t266 t276 t283 (wrap64 (x13_2 + 1))) = some r := by rw [if_pos rfl] at H; exact H
                      clear H
                      have H := H1
                      clear H1
                      have H' := Aside0.mk H
                      clear H
                      obtain ⟨Ao67, co67, eo67⟩ := Kd.R_slice HO_8.out
                      subst eo67
                      go_wp2_with (first | (go_at_call 20; (with_reducible refine (stockyardlaw24_has.calls k2 _ _ t266 (wrap64 (x13_2 + (t248.length : Int))) true _ ?side1 ?side2 A53.out).mono ?_); (case side1 => repeat (first | exact (Kd.R_reads' HO_8.out).2.2 | (with_reducible refine Kd.C_alloc ?_ _) | (with_reducible refine Kd.C_drewN ?_ _) | (with_reducible refine Kd.C_drew ?_))); (case side2 => exact (Kd.R_reads' HO_8.out).2.1); rintro e w' ⟨rfl, ⟨nd, rfl⟩⟩; obtain ⟨Ao68, co68, eo68⟩ := Kd.R_slice HO_10.out; subst eo68) | (go_at_call 20; (with_reducible refine (stockyardlaw24_has.calls k2 _ _ t276 (wrap64 (x13_2 + (t252.length : Int))) t283 _ ?side1 ?side2 A61.out).mono ?_); (case side1 => repeat (first | exact (Kd.R_reads' HO_10.out).2.2 | (with_reducible refine Kd.C_alloc ?_ _) | (with_reducible refine Kd.C_drewN ?_ _) | (with_reducible refine Kd.C_drew ?_))); (case side2 => exact (Kd.R_reads' HO_10.out).2.1); rintro e w' ⟨rfl, ⟨nd, rfl⟩⟩))
                      go_roundg k2
                      case measure => have := HJ9.out; have := HK2.out; omega
                      case rel => exact ⟨(t283), (wrap64 (x13_2 + 1)), (by first | rfl | (simp; done) | (simp [*]; done)), (by first | rfl | (simp; done) | (simp [*]; done)), H', ⟨by have := HJ9.out; have := HK2.out; omega⟩, ⟨by (with_reducible repeat (first | apply Kd.R_alloc | apply Kd.R_drewN | apply Kd.R_drew)); exact HO_5.out⟩, ⟨by (with_reducible repeat (first | apply Kd.R_alloc | apply Kd.R_drewN | apply Kd.R_drew)); exact HO_6.out⟩, ⟨by (with_reducible repeat (first | apply Kd.R_alloc | apply Kd.R_drewN | apply Kd.R_drew)); exact HO_7.out⟩, ⟨by (with_reducible repeat (first | apply Kd.R_alloc | apply Kd.R_drewN | apply Kd.R_drew)); exact HO_8.out⟩, ⟨by (with_reducible repeat (first | apply Kd.R_alloc | apply Kd.R_drewN | apply Kd.R_drew)); exact HO_10.out⟩, ⟨by (with_reducible repeat (first | refine blk_drewN ?_ _ | refine blk_drew ?_ | refine blk_alloc ?_ _)); exact BK247.out⟩, ⟨by repeat (first | (with_reducible first | exact HB.out | apply below_alloc | apply pw_below_drewN | apply below_drew1 | refine below_set ?_ GE247.out) | exact HB.out)⟩⟩
                    · replace c66 := Bool.eq_false_iff.mpr c66
                      subst c66
                      have H1 : (stockyardlaw24_ChunkerMeets.l0 k2 t248 t252 t256 t266 t276 false (wrap64 (x13_2 + 1))) = some r := by rw [if_neg (show ¬ (false = true) by decide)] at H; exact H
                      clear H
                      have H := H1
                      clear H1
                      have H' := Aside0.mk H
                      clear H
                      obtain ⟨Ao69, co69, eo69⟩ := Kd.R_slice HO_8.out
                      subst eo69
                      go_wp2_with (first | (go_at_call 20; (with_reducible refine (stockyardlaw24_has.calls k2 _ _ t266 (wrap64 (x13_2 + (t248.length : Int))) false _ ?side1 ?side2 A53.out).mono ?_); (case side1 => repeat (first | exact (Kd.R_reads' HO_8.out).2.2 | (with_reducible refine Kd.C_alloc ?_ _) | (with_reducible refine Kd.C_drewN ?_ _) | (with_reducible refine Kd.C_drew ?_))); (case side2 => exact (Kd.R_reads' HO_8.out).2.1); rintro e w' ⟨rfl, ⟨nd, rfl⟩⟩; obtain ⟨Ao70, co70, eo70⟩ := Kd.R_slice HO_10.out; subst eo70) | (go_at_call 20; (with_reducible refine (stockyardlaw24_has.calls k2 _ _ t276 (wrap64 (x13_2 + (t252.length : Int))) t283 _ ?side1 ?side2 A61.out).mono ?_); (case side1 => repeat (first | exact (Kd.R_reads' HO_10.out).2.2 | (with_reducible refine Kd.C_alloc ?_ _) | (with_reducible refine Kd.C_drewN ?_ _) | (with_reducible refine Kd.C_drew ?_))); (case side2 => exact (Kd.R_reads' HO_10.out).2.1); rintro e w' ⟨rfl, ⟨nd, rfl⟩⟩))
                      go_roundg k2
                      case measure => have := HJ9.out; have := HK2.out; omega
                      case rel => exact ⟨(false), (wrap64 (x13_2 + 1)), (by first | rfl | (simp; done) | (simp [*]; done)), (by first | rfl | (simp; done) | (simp [*]; done)), H', ⟨by have := HJ9.out; have := HK2.out; omega⟩, ⟨by (with_reducible repeat (first | apply Kd.R_alloc | apply Kd.R_drewN | apply Kd.R_drew)); exact HO_5.out⟩, ⟨by (with_reducible repeat (first | apply Kd.R_alloc | apply Kd.R_drewN | apply Kd.R_drew)); exact HO_6.out⟩, ⟨by (with_reducible repeat (first | apply Kd.R_alloc | apply Kd.R_drewN | apply Kd.R_drew)); exact HO_7.out⟩, ⟨by (with_reducible repeat (first | apply Kd.R_alloc | apply Kd.R_drewN | apply Kd.R_drew)); exact HO_8.out⟩, ⟨by (with_reducible repeat (first | apply Kd.R_alloc | apply Kd.R_drewN | apply Kd.R_drew)); exact HO_10.out⟩, ⟨by (with_reducible repeat (first | refine blk_drewN ?_ _ | refine blk_drew ?_ | refine blk_alloc ?_ _)); exact BK247.out⟩, ⟨by repeat (first | (with_reducible first | exact HB.out | apply below_alloc | apply pw_below_drewN | apply below_drew1 | refine below_set ?_ GE247.out) | exact HB.out)⟩⟩
            · rw [if_neg c43] at H
              have c43b0 : decide (x13_2 ≤ (t256.length : Int)) = false := decide_eq_false c43
              clear c43
              obtain rfl := Option.some.inj H
              go_wp2
              go_ret
              exact ⟨by first | rfl | (simp [errW_none, errW_some] <;> rfl) | (simp [*, errW_none, errW_some] <;> rfl), by repeat (first | (with_reducible first | exact HB.out | apply below_alloc | apply pw_below_drewN | apply below_drew1 | refine below_set ?_ GE247.out) | exact HB.out)⟩

/-- THE ONE PURE STATEMENT of stockyardlaw24_ChunkerMeets: yours. -/
def stockyardlaw24_ChunkerMeets.Pure : Prop := ∀ (l0 : List Int), l0.length ≤ maxLen → l0.length * 8 ≤ 140737488351232 → (∀ x ∈ l0, (Lit.int .i64 x).wf = true) → ∃ k, stockyardlaw24_ChunkerMeets.f k l0 = some true
theorem stockyardlaw24_ChunkerMeets.walk (P : stockyardlaw24_ChunkerMeets.Pure) (a0 : Option Addr) (len0 cap0 : Nat) (z0 : List Int) (w : World) (w0 : (a0 = none ∧ len0 = 0 ∧ cap0 = 0 ∧ z0 = []) ∨ ∃ x, a0 = some x ∧ len0 ≤ cap0 ∧ cap0 ≤ maxLen ∧ z0.length = cap0 ∧ (∀ i, i < z0.length → w.cell? (x.add i) = some (.int .i64 (z0.getD i 0))) ∧ ∀ n ∈ z0, (Lit.int .i64 n).wf = true) (y0 : len0 * 8 ≤ 140737488351232) :
    Calls Try.prog 5 #[.slice a0 len0 cap0] w fun e w' => e = .returned (.bool true) ∧ Below w.heap.size w w' := by
  obtain ⟨l0, rfl, hr0, hm0, hw0, hc0⟩ := ReadsInt.ofRowC w0
  obtain ⟨k, h⟩ := P l0 hm0 y0 hw0
  refine (stockyardlaw24_ChunkerMeets.calls k _ _ l0 true w (Kd.C_of_reads (d := (0 : Int)) (h1 := fun _ => rfl) hr0) hc0 h rfl).mono ?_
  rintro e w' ⟨rfl, hd⟩
  exact ⟨rfl, hd⟩

end Go.Proofs.Ytgfodmpdnhebjaa.P
