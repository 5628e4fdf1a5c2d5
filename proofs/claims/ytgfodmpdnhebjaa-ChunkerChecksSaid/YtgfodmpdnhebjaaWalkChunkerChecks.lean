/- ChunkerChecks: Check, Ends, Split and New accept exactly the valid parameters. -/
import Derived.Test.YtgfodmpdnhebjaaCp
import Derived.Test.YtgfodmpdnhebjaaStr
import Derived.Test.YtgfodmpdnhebjaaGChunkerChecks
import Derived.Test.YtgfodmpdnhebjaaPxf16
import Derived.Test.YtgfodmpdnhebjaaPxf19
import Derived.Test.YtgfodmpdnhebjaaPxf35
namespace Go.Proofs.Ytgfodmpdnhebjaa.Walk
open Go.RowKit Go.Proofs.Ytgfodmpdnhebjaa.P Go.Proofs.Ytgfodmpdnhebjaa.Fp Go.Proofs.Ytgfodmpdnhebjaa.FM Go.Proofs.Ytgfodmpdnhebjaa.Roll Go.Proofs.Ytgfodmpdnhebjaa.Ck Go.Proofs.Ytgfodmpdnhebjaa.Chk Go.Proofs.Ytgfodmpdnhebjaa.Cp Go.Proofs.YtgfodmpdnhebjaaW.PrintWords Go.Proofs.YtgfodmpdnhebjaaW.PrintLast Go.Proofs.YtgfodmpdnhebjaaW.PrintMore
set_option linter.unusedVariables false
set_option linter.unusedSimpArgs false
theorem rcheck_is (mn mx wd ms : Int) : stockyardref24_Check.f mn mx wd ms = some (if Okq mn mx wd then 0 else 240) := by
  by_cases h : Okq mn mx wd
  · rw [if_pos h]
    unfold Okq at h
    unfold stockyardref24_Check.f
    rw [if_neg (by omega), if_neg (by omega), if_neg (by omega), if_neg (by omega), if_neg (by omega)]
  · rw [if_neg h]
    unfold Okq at h
    unfold stockyardref24_Check.f
    repeat' split
    all_goals first | rfl | (exfalso; omega)
theorem split_no {mn mx wd ms : Int} {b : List Int} (h : ¬ Okq mn mx wd) (k : Nat) : chunker_Split.f k mn mx wd ms b = some ([], 240) := by
  unfold chunker_Split.f chunker_Ends.f endsS
  rw [if_neg h, Option.bind_some]
  rfl
theorem byte_wf {x : Int} (h : (Lit.int .u8 x).wf = true) : 0 ≤ x ∧ x ≤ 255 := by
  simp [Lit.wf, IntKind.min, IntKind.max, IntKind.bits, IntKind.signed] at h
  omega
theorem u64_wf {x : Int} (h : (Lit.int .u64 x).wf = true) : 0 ≤ x ∧ x < 18446744073709551616 := by
  simp [Lit.wf, IntKind.min, IntKind.max, IntKind.bits, IntKind.signed] at h
  omega
set_option maxHeartbeats 4000000 in
set_option maxRecDepth 100000 in
theorem checks_long {mn mx wd ms : Int} {A : Option Addr} {c : Nat} {b : List Int} (w0 : World) (hl : 64 < b.length) : Calls Try.prog 11 #[.agg #[.int .i64 mn, .int .i64 mx, .int .i64 wd, .int .u64 ms], .slice A b.length c] w0 fun e w' => e = .returned (.bool true) ∧ Below w0.heap.size w0 w' := by
  go_enter Try.func11, Try.ntmps11
  go_wp2_with fail
  go_ret
  exact ⟨rfl, (Below.refl w0.heap.size w0).alloc (Nat.le_refl _) _⟩
set_option maxHeartbeats 4000000 in
set_option maxRecDepth 100000 in
theorem checks_ok {mn mx wd : Nat} {ms : Int} {A : Option Addr} {c : Nat} {b : List Int} (w0 : World) (h : Okp mn mx wd ms) (hr : Kd.C (Kd.int .u8) w0 A b.length b) (hc : b.length ≤ c) (hb : IsBytes b) (hl : b.length ≤ 64) : Calls Try.prog 11 #[.agg #[.int .i64 mn, .int .i64 mx, .int .i64 wd, .int .u64 ms], .slice A b.length c] w0 fun e w' => e = .returned (.bool true) ∧ Below w0.heap.size w0 w' := by
  have hq : Okq (mn : Int) (mx : Int) (wd : Int) := h.okq
  have hc1 := check_is mn mx wd ms
  have hc2 := rcheck_is mn mx wd ms
  rw [if_pos hq] at hc1 hc2
  have Hc1 := Lib.hid hc1
  have Hc2 := Lib.hid hc2
  have hs := split_is h hb (by omega) (k := 100) (by omega)
  have Hs := Lib.hid hs
  have hk := known_is (k := 4) (Nat.le_refl _)
  have Hk := Lib.hid hk
  have H := Lib.hid h
  have Hb := Lib.hid hb
  clear hc1 hc2 hq hs hk h hb
  go_enter Try.func11, Try.ntmps11
  go_wp2_with fail
  refine (stockyardref24_Check.calls _ _ _ _ _ _ Hc2.out).mono ?_
  rintro e w1 ⟨rfl, hb1⟩
  have B1 := stepB ((Below.refl w0.heap.size w0).alloc (Nat.le_refl _) _) hb1
  have hx1 := (hb1.block w0.heap.size (by simp)).trans (heap_alloc_new w0 _)
  clear hb1
  have z1 := B1.size
  have HX1 := Lib.hid hx1
  have x0 := blk_cell HX1.out 0
  have x1 := blk_cell HX1.out 1
  have x2 := blk_cell HX1.out 2
  have x3 := blk_cell HX1.out 3
  simp at x0 x1 x2 x3
  have hl1 : w0.heap.size < w1.heap.size := by
    have := (Array.getElem?_eq_some_iff.1 HX1.out).1
    exact this
  go_wp2_with fail
  have hr1 := Kd.C_below hr B1
  refine (ends_ok _ H.out hr1 hc Hb.out (by omega)).mono ?_
  rintro e w2 ⟨v2, rfl, hR2, hb2⟩
  clear hR2
  have B2 := stepB B1 hb2
  have hx2 := (hb2.block w0.heap.size hl1).trans HX1.out
  clear hb2 x0 x1 x2 x3
  have z2 := B2.size
  have HX2 := Lib.hid hx2
  have x0 := blk_cell HX2.out 0
  have x1 := blk_cell HX2.out 1
  have x2 := blk_cell HX2.out 2
  have x3 := blk_cell HX2.out 3
  simp at x0 x1 x2 x3
  have hl2 : w0.heap.size < w2.heap.size := by
    have := (Array.getElem?_eq_some_iff.1 HX2.out).1
    exact this
  go_wp2_with fail
  have hr2 := Kd.C_below hr B2
  refine (chunker_Split.calls 100 _ _ _ _ _ _ _ _ _ _ hr2 hc Hs.out).mono ?_
  rintro e w3 ⟨v3, rfl, hR3, hb3⟩
  clear hR3
  have B3 := stepB B2 hb3
  have hx3 := (hb3.block w0.heap.size hl2).trans HX2.out
  clear hb3 x0 x1 x2 x3
  have z3 := B3.size
  have HX3 := Lib.hid hx3
  have x0 := blk_cell HX3.out 0
  have x1 := blk_cell HX3.out 1
  have x2 := blk_cell HX3.out 2
  have x3 := blk_cell HX3.out 3
  simp at x0 x1 x2 x3
  have hl3 : w0.heap.size < w3.heap.size := by
    have := (Array.getElem?_eq_some_iff.1 HX3.out).1
    exact this
  go_wp2_with fail
  refine (news_ok _ H.out).mono ?_
  rintro e w4 ⟨s4, f4, g4, rfl, hS4, hF4, hs4, hf4, hg4, hb4⟩
  clear hS4 hF4 hs4 hf4 hg4
  have B4 := stepB B3 hb4
  have hx4 := (hb4.block w0.heap.size hl3).trans HX3.out
  clear hb4 x0 x1 x2 x3
  have z4 := B4.size
  have HX4 := Lib.hid hx4
  have x0 := blk_cell HX4.out 0
  have x1 := blk_cell HX4.out 1
  have x2 := blk_cell HX4.out 2
  have x3 := blk_cell HX4.out 3
  simp at x0 x1 x2 x3
  have hl4 : w0.heap.size < w4.heap.size := by
    have := (Array.getElem?_eq_some_iff.1 HX4.out).1
    exact this
  go_wp2_with fail
  refine (stockyardlaw24_known.calls 4 _ _ Hk.out).mono ?_
  rintro e w5 ⟨rfl, hb5⟩
  have B5 := stepB B4 hb5
  have hx5 := (hb5.block w0.heap.size hl4).trans HX4.out
  clear hb5 x0 x1 x2 x3
  have z5 := B5.size
  have HX5 := Lib.hid hx5
  have x0 := blk_cell HX5.out 0
  have x1 := blk_cell HX5.out 1
  have x2 := blk_cell HX5.out 2
  have x3 := blk_cell HX5.out 3
  simp at x0 x1 x2 x3
  have hl5 : w0.heap.size < w5.heap.size := by
    have := (Array.getElem?_eq_some_iff.1 HX5.out).1
    exact this
  go_wp2_with fail
  refine (chunker_Check.calls _ _ _ _ _ _ Hc1.out).mono ?_
  rintro e w6 ⟨rfl, hb6⟩
  have B6 := stepB B5 hb6
  go_wp2_with fail
  go_ret
  exact ⟨by simp, B6⟩
set_option maxHeartbeats 4000000 in
set_option maxRecDepth 100000 in
theorem checks_no {mn mx wd ms : Int} {A : Option Addr} {c : Nat} {b : List Int} (w0 : World) (h : ¬ Okq mn mx wd) (hr : Kd.C (Kd.int .u8) w0 A b.length b) (hc : b.length ≤ c) (hb : IsBytes b) (hl : b.length ≤ 64) : Calls Try.prog 11 #[.agg #[.int .i64 mn, .int .i64 mx, .int .i64 wd, .int .u64 ms], .slice A b.length c] w0 fun e w' => e = .returned (.bool true) ∧ Below w0.heap.size w0 w' := by
  have hq : ¬ Okq (mn : Int) (mx : Int) (wd : Int) := h
  have hc1 := check_is mn mx wd ms
  have hc2 := rcheck_is mn mx wd ms
  rw [if_neg hq] at hc1 hc2
  have Hc1 := Lib.hid hc1
  have Hc2 := Lib.hid hc2
  have hs := split_no (ms := ms) (b := b) h 100
  have Hs := Lib.hid hs
  have hk := known_is (k := 4) (Nat.le_refl _)
  have Hk := Lib.hid hk
  have H := Lib.hid h
  have Hb := Lib.hid hb
  clear hc1 hc2 hq hs hk h hb
  go_enter Try.func11, Try.ntmps11
  go_wp2_with fail
  refine (stockyardref24_Check.calls _ _ _ _ _ _ Hc2.out).mono ?_
  rintro e w1 ⟨rfl, hb1⟩
  have B1 := stepB ((Below.refl w0.heap.size w0).alloc (Nat.le_refl _) _) hb1
  have hx1 := (hb1.block w0.heap.size (by simp)).trans (heap_alloc_new w0 _)
  clear hb1
  have z1 := B1.size
  have HX1 := Lib.hid hx1
  have x0 := blk_cell HX1.out 0
  have x1 := blk_cell HX1.out 1
  have x2 := blk_cell HX1.out 2
  have x3 := blk_cell HX1.out 3
  simp at x0 x1 x2 x3
  have hl1 : w0.heap.size < w1.heap.size := by
    have := (Array.getElem?_eq_some_iff.1 HX1.out).1
    exact this
  go_wp2_with fail
  have hr1 := Kd.C_below hr B1
  refine (ends_no _ H.out).mono ?_
  rintro e w2 ⟨rfl, hb2⟩
  have B2 := stepB B1 hb2
  have hx2 := (hb2.block w0.heap.size hl1).trans HX1.out
  clear hb2 x0 x1 x2 x3
  have z2 := B2.size
  have HX2 := Lib.hid hx2
  have x0 := blk_cell HX2.out 0
  have x1 := blk_cell HX2.out 1
  have x2 := blk_cell HX2.out 2
  have x3 := blk_cell HX2.out 3
  simp at x0 x1 x2 x3
  have hl2 : w0.heap.size < w2.heap.size := by
    have := (Array.getElem?_eq_some_iff.1 HX2.out).1
    exact this
  go_wp2_with fail
  have hr2 := Kd.C_below hr B2
  refine (chunker_Split.calls 100 _ _ _ _ _ _ _ _ _ _ hr2 hc Hs.out).mono ?_
  rintro e w3 ⟨v3, rfl, hR3, hb3⟩
  clear hR3
  have B3 := stepB B2 hb3
  have hx3 := (hb3.block w0.heap.size hl2).trans HX2.out
  clear hb3 x0 x1 x2 x3
  have z3 := B3.size
  have HX3 := Lib.hid hx3
  have x0 := blk_cell HX3.out 0
  have x1 := blk_cell HX3.out 1
  have x2 := blk_cell HX3.out 2
  have x3 := blk_cell HX3.out 3
  simp at x0 x1 x2 x3
  have hl3 : w0.heap.size < w3.heap.size := by
    have := (Array.getElem?_eq_some_iff.1 HX3.out).1
    exact this
  go_wp2_with fail
  refine (news_no _ H.out).mono ?_
  rintro e w4 ⟨rfl, hb4⟩
  have B4 := stepB B3 hb4
  have hx4 := (hb4.block w0.heap.size hl3).trans HX3.out
  clear hb4 x0 x1 x2 x3
  have z4 := B4.size
  have HX4 := Lib.hid hx4
  have x0 := blk_cell HX4.out 0
  have x1 := blk_cell HX4.out 1
  have x2 := blk_cell HX4.out 2
  have x3 := blk_cell HX4.out 3
  simp at x0 x1 x2 x3
  have hl4 : w0.heap.size < w4.heap.size := by
    have := (Array.getElem?_eq_some_iff.1 HX4.out).1
    exact this
  go_wp2_with fail
  refine (stockyardlaw24_known.calls 4 _ _ Hk.out).mono ?_
  rintro e w5 ⟨rfl, hb5⟩
  have B5 := stepB B4 hb5
  have hx5 := (hb5.block w0.heap.size hl4).trans HX4.out
  clear hb5 x0 x1 x2 x3
  have z5 := B5.size
  have HX5 := Lib.hid hx5
  have x0 := blk_cell HX5.out 0
  have x1 := blk_cell HX5.out 1
  have x2 := blk_cell HX5.out 2
  have x3 := blk_cell HX5.out 3
  simp at x0 x1 x2 x3
  have hl5 : w0.heap.size < w5.heap.size := by
    have := (Array.getElem?_eq_some_iff.1 HX5.out).1
    exact this
  go_wp2_with fail
  refine (chunker_Check.calls _ _ _ _ _ _ Hc1.out).mono ?_
  rintro e w6 ⟨rfl, hb6⟩
  have B6 := stepB B5 hb6
  go_wp2_with fail
  go_ret
  exact ⟨by simp, B6⟩
theorem ChunkerChecks : Goal.ChunkerChecks := by
  intro mn mx wd ms A c b w h1 h2 h3 h4 hr hc hn hw
  have hb : IsBytes b := fun x hx => byte_wf (hw x hx)
  by_cases hl : 64 < b.length
  · exact checks_long w hl
  · by_cases hq : Okq mn mx wd
    · have hO := hq.okp (u64_wf h4).1 (u64_wf h4).2
      obtain ⟨m, rfl⟩ := Int.eq_ofNat_of_zero_le (show 0 ≤ mn by have := hq; unfold Okq at this; omega)
      obtain ⟨x, rfl⟩ := Int.eq_ofNat_of_zero_le (show 0 ≤ mx by have := hq; unfold Okq at this; omega)
      obtain ⟨d, rfl⟩ := Int.eq_ofNat_of_zero_le (show 0 ≤ wd by have := hq; unfold Okq at this; omega)
      simp only [Int.toNat_natCast] at hO
      exact checks_ok w hO hr hc hb (by omega)
    · exact checks_no w hq hr hc hb (by omega)
end Go.Proofs.Ytgfodmpdnhebjaa.Walk
