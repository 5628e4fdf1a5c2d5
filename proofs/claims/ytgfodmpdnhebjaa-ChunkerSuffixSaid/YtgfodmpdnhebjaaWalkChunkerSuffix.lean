/- ChunkerSuffix, plainly: the chunks of the bytes from a boundary on are the chunks of the string from there on. -/
import Derived.Test.YtgfodmpdnhebjaaCp
import Derived.Test.YtgfodmpdnhebjaaGChunkerSuffix
import Derived.Test.YtgfodmpdnhebjaaPxf3
namespace Go.Proofs.Ytgfodmpdnhebjaa.Walk
open Go.RowKit Go.Proofs.Ytgfodmpdnhebjaa.P Go.Proofs.Ytgfodmpdnhebjaa.Fp Go.Proofs.Ytgfodmpdnhebjaa.FM Go.Proofs.Ytgfodmpdnhebjaa.Ck Go.Proofs.Ytgfodmpdnhebjaa.Chk Go.Proofs.Ytgfodmpdnhebjaa.Cp Go.Proofs.YtgfodmpdnhebjaaW.PrintWords Go.Proofs.YtgfodmpdnhebjaaW.PrintLast
set_option linter.unusedVariables false
theorem rd_ofNat (E : List Nat) {i : Nat} (h : i < E.length) : rd (E.map Int.ofNat) (i : Int) = ((E.getD i 0 : Nat) : Int) := by
  simp [rd, List.getD_eq_getElem?_getD, h]
theorem two_wraps (p i : Nat) (hp : p ≤ 1048576) (hi : i ≤ 1048576) : wrap64 (wrap64 ((p : Int) + 1) + (i : Int)) = ((p + 1 + i : Nat) : Int) := by
  rw [w64 (x := (p : Int) + 1) (by omega) (by omega), w64 (by omega) (by omega)]
  omega
theorem suffix_loop (E F : List Nat) (p : Nat) (hp : p < E.length) (hE : E.length ≤ 1048576) (hF : F.length = E.length - p - 1) (hg : ∀ i, i < E.length - p - 1 → E.getD (p + 1 + i) 0 = E.getD p 0 + F.getD i 0) (hbd : ∀ i, i < E.length → E.getD i 0 ≤ 1048576) (d : Nat) : ∀ (k i : Nat), E.length - p - 1 - i = d → i ≤ E.length - p - 1 → d < k →
    stockyardlaw24_ChunkerSuffix.l0 k (E.map Int.ofNat) (p : Int) (F.map Int.ofNat) (i : Int) = some true := by
  have hlE : (E.map Int.ofNat).length = E.length := List.length_map ..
  have hlF : (F.map Int.ofNat).length = F.length := List.length_map ..
  induction d with
  | zero =>
    intro k i h0 h1 hk
    obtain ⟨k, rfl⟩ : ∃ m, k = m + 1 := ⟨k - 1, by omega⟩
    simp only [stockyardlaw24_ChunkerSuffix.l0]
    rw [hlF, if_neg (by omega)]
  | succ d ih =>
    intro k i h0 h1 hk
    obtain ⟨k, rfl⟩ : ∃ m, k = m + 1 := ⟨k - 1, by omega⟩
    simp only [stockyardlaw24_ChunkerSuffix.l0]
    have e1 := hg i (by omega)
    have e2 := hbd (p + 1 + i) (by omega)
    rw [hlE, hlF, two_wraps p i (by omega) (by omega), rd_ofNat E hp, rd_ofNat E (i := p + 1 + i) (by omega), rd_ofNat F (i := i) (by omega)]
    generalize E.getD p 0 = x at *
    generalize E.getD (p + 1 + i) 0 = y at *
    generalize F.getD i 0 = z at *
    rw [if_pos (by omega), if_pos (by omega), if_pos (by omega), if_pos (by omega), if_pos (by omega), if_pos (by omega), w64 (x := (z : Int) + x) (by omega) (by omega), if_pos (by omega), show wrap64 ((i : Int) + 1) = ((i + 1 : Nat) : Int) by unfold wrap64; omega]
    exact ih k (i + 1) (by omega) (by omega) (by omega)
/-- What the rest's ends are, as the loop wants it. -/
theorem suffix_facts {mn mx wd : Nat} {ms : Int} (b : List Int) (p : Nat) (hp : p < (ends mn mx wd ms b).length) :
    ∃ E F : List Nat, E = ends mn mx wd ms b ∧ F = ends mn mx wd ms (b.drop (E.getD p 0)) ∧ p < E.length ∧ E.length ≤ b.length ∧ F.length = E.length - p - 1 ∧ (∀ i, i < E.length - p - 1 → E.getD (p + 1 + i) 0 = E.getD p 0 + F.getD i 0) ∧ ∀ i, i < E.length → E.getD i 0 ≤ b.length := by
  have hle := ends_length_le (mn := mn) (mx := mx) (wd := wd) (ms := ms) b
  have hs := ends_suffix (mn := mn) (mx := mx) (wd := wd) (ms := ms) b p hp
  have hr := ends_range (mn := mn) (mx := mx) (wd := wd) (ms := ms) b
  refine ⟨_, _, rfl, rfl, hp, hle, ?_⟩
  generalize ends mn mx wd ms b = E at *
  generalize ends mn mx wd ms (b.drop (E.getD p 0)) = F at *
  have hlen : F.length = E.length - p - 1 := by
    have := congrArg List.length hs
    rw [List.length_drop, List.length_map] at this
    omega
  refine ⟨hlen, fun i hi => ?_, fun i hi => (hr (E.getD i 0) (by simp [List.getD_eq_getElem?_getD, hi])).2⟩
  have h2 : (E.drop (p + 1)).getD i 0 = E.getD (p + 1 + i) 0 := by simp [List.getD_eq_getElem?_getD]
  rw [← h2, hs]
  have hiF : i < F.length := by omega
  simp [List.getD_eq_getElem?_getD, hiF]
theorem pureSuffix (l : List Int) (at_ : Int) (hl : Wf l) (hat : -9223372036854775808 ≤ at_ ∧ at_ ≤ 9223372036854775807) : stockyardlaw24_ChunkerSuffix.f 20000 l at_ = some true := by
  obtain ⟨mn, mx, wd, j, hm, hO, hj, hx⟩ := made_is hl (a := 0) (by omega) (by omega)
  obtain ⟨b, a, ht, hb, hB, ha, ha'⟩ := text_is hl (n := 120) (a := 0 + 4) (k := 20000) (by omega) (by omega) (by omega) (by omega) (by omega)
  have hbl : b.length ≤ 120 := by omega
  have hle := ends_length_le (mn := mn) (mx := mx) (wd := wd) (ms := 2 ^ j - 1) b
  unfold stockyardlaw24_ChunkerSuffix.f
  rw [hm, Option.bind_some]
  simp only
  rw [ht, Option.bind_some]
  simp only
  rw [lEnds_is hO hB (by omega), Option.bind_some, known_is (by omega), Option.bind_some]
  simp only
  rw [if_pos trivial]
  simp only [stockyardlaw24_ChunkerSuffix.j0, Bool.not_true]
  rw [if_neg (by simp), endsI_length]
  by_cases h0 : (ends mn mx wd (2 ^ j - 1) b).length = 0
  · rw [if_pos (by omega)]
  · rw [if_neg (by omega), fold_is hat (by omega), Option.bind_some]
    have hr := foldS_range (v := at_) (n := ((ends mn mx wd (2 ^ j - 1) b).length : Int)) (by omega)
    obtain ⟨p, hp⟩ := Int.eq_ofNat_of_zero_le hr.1
    rw [hp] at hr ⊢
    have hpl : p < (ends mn mx wd (2 ^ j - 1) b).length := by omega
    obtain ⟨E, F, hEe, hFe, hpE, hEl, hFl, hg, hbd⟩ := suffix_facts (mn := mn) (mx := mx) (wd := wd) (ms := 2 ^ j - 1) b p hpl
    have eI : endsI mn mx wd (2 ^ j - 1) b = E.map Int.ofNat := by rw [hEe]; rfl
    have eF : ∀ hx, stockyardlaw24_ends.f mn mx wd (2 ^ j - 1) (b.drop (E.getD p 0)) = hx → hx = some (F.map Int.ofNat, true) := fun hx h => by
      rw [← h, lEnds_is hO (fun x hx => hB x (List.mem_of_mem_drop hx)) (by rw [List.length_drop]; omega), hFe]
      rfl
    have eF := eF _ rfl
    rw [eI, ← hEe]
    have hlE : (E.map Int.ofNat).length = E.length := List.length_map ..
    have hlF : (F.map Int.ofNat).length = F.length := List.length_map ..
    have hb2 := hbd p hpE
    have hrd := rd_ofNat E hpE
    clear hEe hFe hr hp hpl h0 eI hle
    rw [if_pos (by omega), if_pos (by omega), hrd]
    generalize hx : E.getD p 0 = x at *
    rw [if_neg (by omega), show decide ((x : Int) > (b.length : Int)) = false by simp only [decide_eq_false_iff_not]; omega]
    simp only [stockyardlaw24_ChunkerSuffix.j1]
    rw [if_neg (by simp), hlE, if_pos (by omega), if_pos (by omega), hrd, if_pos (by omega), if_pos (by omega), Int.toNat_natCast, eF, Option.bind_some]
    simp only
    rw [if_pos trivial, hlF, w64 (x := (E.length : Int) - (p : Int)) (by omega) (by omega), w64 (by omega) (by omega), show ((F.length : Int) != ((E.length : Int) - (p : Int) - 1)) = false by rw [hFl]; simp only [bne_eq_false_iff_eq]; omega]
    simp only [stockyardlaw24_ChunkerSuffix.j2]
    rw [if_neg (by simp)]
    exact suffix_loop E F p hpE (by omega) hFl (by rw [hx]; exact hg) (fun i hi => by have := hbd i hi; omega) _ _ 0 rfl (by omega) (by omega)
theorem ChunkerSuffix : Goal.ChunkerSuffix := by
  intro A c l a w hr hc hn hw ha
  exact stockyardlaw24_ChunkerSuffix.calls 20000 A c l a true w hr hc (pureSuffix l a (Wf.of hn hw) (wf_i64 ha)) rfl
end Go.Proofs.Ytgfodmpdnhebjaa.Walk
