-- What this claim does not use is left out (shake.py).
import Derived.Test.YtleapbbdpediiaaMs
import Derived.Test.YtleapbbdpediiaaGManifestRanges
import Derived.Test.YtleapbbdpediiaaPxf4
/- ManifestRanges, plainly: Range returns the part of the content between its bounds, out of the chunks that contain it. -/
namespace Go.Proofs.Ytleapbbdpediiaa.Walk
open Go.RowKit Go.Proofs.Ytleapbbdpediiaa.P Go.Proofs.Ytleapbbdpediiaa.Fp Go.Proofs.Ytleapbbdpediiaa.FM Go.Proofs.Ytleapbbdpediiaa.Rg Go.Proofs.Ytleapbbdpediiaa.Mq Go.Proofs.Ytleapbbdpediiaa.Mr Go.Proofs.Ytleapbbdpediiaa.Ms Go.Proofs.YtleapbbdpediiaaW.PrintWords Go.Proofs.YtleapbbdpediiaaW.PrintLast
set_option linter.unusedVariables false
theorem drop48 {l : List S48} {j : Nat} (h : j < l.length) : rd_T48 l (j : Int) = l[j] := by simp [rd_T48, List.getD_eq_getElem?_getD, h]
theorem ranges_loop {p : List (List Int)} (hp : Ok p) (hD : Dist p) {tq fr : Int} (h0 : 0 ≤ fr) (h1 : fr ≤ tq) (h2 : tq ≤ tot p) {sl : List S48} (hs : sl = slc fr tq (ids p) 0 0) (d : Nat) : ∀ (k i : Nat), sl.length - i = d → i ≤ sl.length → d < k →
    stockyardlaw25_ManifestRanges.l0 k (p.map stk) tq fr sl ((sl.take i).map fun c => rd_T53 (p.map stk) c.f0) (i : Int) (tot p) (ids p) = some true := by
  have hpn := hp.2.1
  have hsl : sl.length ≤ 1024 := by
    have := slc_length fr tq (ids p) 0 0
    rw [ids_len] at this
    rw [hs]; omega
  have hin : ∀ c ∈ sl, 0 ≤ c.f0 ∧ c.f0 < (p.length : Int) := fun c hc => by
    rw [hs] at hc
    have := slc_mem _ _ _ _ hc
    rw [ids_len] at this
    omega
  have hst : ∀ c ∈ sl, ∃ x, p[c.f0.toNat]? = some x ∧ rd_T53 (p.map stk) c.f0 = stk x := fun c hc => by
    have := hin c hc
    obtain ⟨n, hn⟩ := Int.eq_ofNat_of_zero_le this.1
    have hlt : n < p.length := by omega
    rw [hn]
    exact ⟨p[n], by simp [hlt], stk_rd hlt⟩
  induction d with
  | zero =>
    intro k i hd hi hk
    obtain ⟨k, rfl⟩ : ∃ m, k = m + 1 := ⟨k - 1, by omega⟩
    have hR := range_is hp hD (l := sl.map fun c => rd_T53 (p.map stk) c.f0) (fun c hc => by
      obtain ⟨e, he, rfl⟩ := List.mem_map.1 hc
      obtain ⟨x, hx, hr⟩ := hst e he
      exact ⟨x, List.mem_of_getElem? hx, hr⟩) (by rw [List.length_map]; omega) h0 h1 h2 (fun c hc x hx => by
      rw [← hs] at hc
      obtain ⟨y, hy, hr⟩ := hst c hc
      rw [hy] at hx
      cases hx
      exact List.mem_map.2 ⟨c, hc, hr⟩)
    have hA := assemble_is hp hD (l := p.map stk) (fun c hc => by
      obtain ⟨b, hb, rfl⟩ := List.mem_map.1 hc
      exact ⟨b, hb, rfl⟩) (by rw [List.length_map]; omega) (fun x hx => List.mem_map.2 ⟨x, hx, rfl⟩)
    have ht : (p.flatten.length : Int) = tot p := rfl
    simp only [stockyardlaw25_ManifestRanges.l0]
    rw [if_neg (by omega), List.take_of_length_le (by omega), show manifest_Range.f (tot p) (ids p) _ fr tq = _ from hR, Option.bind_some, hA, Option.bind_some]
    simp only
    rw [if_pos trivial, if_pos trivial, if_pos ht, if_pos h0, if_pos h1, if_pos (by omega)]
    simp
  | succ d ih =>
    intro k i hd hi hk
    obtain ⟨k, rfl⟩ : ∃ m, k = m + 1 := ⟨k - 1, by omega⟩
    have hlt : i < sl.length := by omega
    have hc := hin _ (List.getElem_mem hlt)
    simp only [stockyardlaw25_ManifestRanges.l0]
    rw [if_pos (by omega), if_pos (by omega), drop48 hlt, if_neg (by omega), if_neg (by rw [List.length_map]; omega), if_pos hc.1, if_pos (by rw [List.length_map]; omega), if_pos (by rw [List.length_map, List.length_take]; omega), w64 (by omega) (by omega), show (i : Int) + 1 = ((i + 1 : Nat) : Int) by omega]
    have := ih k (i + 1) (by omega) (by omega) (by omega)
    rw [List.take_succ_eq_append_getElem hlt, List.map_append] at this
    exact this
theorem pureRanges (l : List Int) (hl : Wf l) : stockyardlaw25_ManifestRanges.f 2000000 l = some true := by
  obtain ⟨p, a, e1, hP, hn, ha, ha'⟩ := pieces_is hl (n := 6) (a := 0) (by omega) (by omega) (by omega) (k := 2000000) (by omega)
  have hp := hP.ok (by omega)
  have hb : ∀ b ∈ p, IsBytes b ∧ b.length ≤ 1048576 := fun b hb => ⟨(hP b hb).1, by have := (hP b hb).2.2; omega⟩
  have hs : tot p ≤ 1048576 := by unfold tot; have := hp.2.2; omega
  have h0 := tot_nn p
  unfold stockyardlaw25_ManifestRanges.f
  rw [show stockyardlaw25_pieces.f 2000000 l 0 6 = some (p, a) from e1, Option.bind_some]
  simp only
  rw [refOf_is hb (by omega) (by omega), Option.bind_some, right_is hb (by omega) (by omega), Option.bind_some, show stockyardmake_Distinct.f p = _ from distinct_is hb (by omega), Option.bind_some]
  by_cases hd : Ds.distB p = true
  · rw [if_pos hd]
    simp only
    rw [w64 (by omega) (by omega)]
    obtain ⟨tq, g1, g2, g3⟩ := next_is hl (a := a) (n := tot p + 1) (by omega) (by omega) (by omega)
    have g3 := g3 (by omega)
    rw [g1, Option.bind_some]
    simp only
    rw [w64 (by omega) (by omega)]
    obtain ⟨fr, q1, q2, q3⟩ := next_is hl (a := a + 1) (n := tq + 1) (by omega) (by omega) (by omega)
    have q3 := q3 (by omega)
    rw [q1, Option.bind_some]
    simp only
    rw [slice_is (by rw [ids_len]; omega), Option.bind_some, known_is (by omega), Option.bind_some, if_pos rfl]
    unfold sliceS
    rw [hp.check, if_pos rfl, if_neg (show ¬ (fr < 0 ∨ fr > tq ∨ tq > tot p) by omega)]
    simp only [stockyardlaw25_ManifestRanges.j0]
    rw [if_neg (by simp)]
    have hsl := slc_length fr tq (ids p) 0 0
    rw [ids_len] at hsl
    exact ranges_loop hp (dist_of hd) q2 (by omega) (by omega) rfl (slc fr tq (ids p) 0 0).length 1999999 0 (by omega) (by omega) (by omega)
  · rw [if_neg hd]
theorem ManifestRanges : Goal.ManifestRanges := by
  intro A c l w hr hc hn hw
  exact stockyardlaw25_ManifestRanges.calls 2000000 A c l true w hr hc (pureRanges l (Wf.of hn hw)) rfl
end Go.Proofs.Ytleapbbdpediiaa.Walk
