/- ChunkerParts, plainly: the chunks put together are the string; all but the last one have from Min to Max bytes, the last one from 1 to Max. -/
import Derived.Test.YtgfodmpdnhebjaaCp
import Derived.Test.YtgfodmpdnhebjaaGChunkerParts
import Derived.Test.YtgfodmpdnhebjaaPxf9
namespace Go.Proofs.Ytgfodmpdnhebjaa.Walk
open Go.RowKit Go.Proofs.Ytgfodmpdnhebjaa.P Go.Proofs.Ytgfodmpdnhebjaa.Fp Go.Proofs.Ytgfodmpdnhebjaa.FM Go.Proofs.Ytgfodmpdnhebjaa.Ck Go.Proofs.Ytgfodmpdnhebjaa.Chk Go.Proofs.Ytgfodmpdnhebjaa.Cp Go.Proofs.YtgfodmpdnhebjaaW.PrintWords Go.Proofs.YtgfodmpdnhebjaaW.PrintLast
set_option linter.unusedVariables false
theorem rdL_cut {b : List Int} : ∀ {s : Nat} {r : List Nat} {i : Nat}, i < r.length → rd_L4 (cutL b s r) (i : Int) = (b.take (r.getD i 0)).drop (if i = 0 then s else r.getD (i - 1) 0)
  | s, e :: r, 0, _ => by simp [rd_L4, cutL]
  | s, e :: r, i + 1, h => by
    have h' : i < r.length := by simpa using h
    have := rdL_cut (b := b) (s := e) (r := r) h'
    have e1 : rd_L4 (cutL b s (e :: r)) ((i + 1 : Nat) : Int) = rd_L4 (cutL b e r) (i : Int) := by simp [rd_L4, cutL, List.getD_eq_getElem?_getD]
    rw [e1, this]
    have e2 : (e :: r).getD (i + 1) 0 = r.getD i 0 := by simp
    rw [e2]
    cases i with
    | zero => simp
    | succ i => simp
/-- The parts of a string that end at its last place are together the string. -/
theorem cutL_flatten (b : List Int) : ∀ (r : List Nat) (s : Nat), Asc b.length s r → s ≤ b.length → (r = [] → s = b.length) → (r ≠ [] → r.getD (r.length - 1) 0 = b.length) → (cutL b s r).flatten = b.drop s
  | [], s, _, _, h, _ => by rw [h rfl]; simp [cutL]
  | e :: r, s, ha, hs, _, h2 => by
    have h1 := ha.1
    have h3 := ha.2.1
    have h4 := h2 (by simp)
    have ih := cutL_flatten b r e ha.2.2 h3 (fun hr => by subst hr; simpa using h4) (fun hr => by
      obtain ⟨x, r', rfl⟩ := List.exists_cons_of_ne_nil hr
      simpa using h4)
    have : b.drop s = (b.take e).drop s ++ b.drop e := by
      conv => lhs; rw [← List.take_append_drop e b]
      rw [List.drop_append_of_le_length (by rw [List.length_take]; omega)]
    simp only [cutL, List.flatten_cons]
    rw [ih, this]
theorem parts_loop {X : List (List Int)} {mn mx : Nat} {a c : Int} (hX : X.length ≤ 1000000) (h : ∀ i : Nat, i < X.length → (rd_L4 X (i : Int)).length ≤ mx ∧ 1 ≤ (rd_L4 X (i : Int)).length ∧ (i + 1 < X.length → mn ≤ (rd_L4 X (i : Int)).length)) (d : Nat) : ∀ (k i : Nat), X.length - i ≤ d → d < k → i ≤ X.length →
    stockyardlaw24_ChunkerParts.l0 k X (i : Int) (mn : Int) (mx : Int) a c = some true := by
  induction d with
  | zero =>
    intro k i h0 hk hi
    obtain ⟨k, rfl⟩ : ∃ m, k = m + 1 := ⟨k - 1, by omega⟩
    simp only [stockyardlaw24_ChunkerParts.l0]
    rw [if_neg (by omega)]
  | succ d ih =>
    intro k i h0 hk hi
    obtain ⟨k, rfl⟩ : ∃ m, k = m + 1 := ⟨k - 1, by omega⟩
    simp only [stockyardlaw24_ChunkerParts.l0]
    by_cases hc : i < X.length
    · obtain ⟨h1, h2, h3⟩ := h i hc
      rw [if_pos (by omega), if_pos (by omega), w64 (x := (X.length : Int) - 1) (by omega) (by omega), w64 (x := (i : Int) + 1) (by omega) (by omega)]
      have hn := ih k (i + 1) (by omega) (by omega) (by omega)
      generalize (rd_L4 X (i : Int)).length = z at *
      rw [if_neg (by omega), if_neg (by omega)]
      by_cases hl : i + 1 < X.length
      · have := h3 hl
        rw [if_pos (by omega), if_neg (by omega)]
        exact hn
      · rw [if_neg (by omega)]
        exact hn
    · rw [if_neg (by omega)]
theorem pureParts (l : List Int) (hl : Wf l) : stockyardlaw24_ChunkerParts.f 20000 l = some true := by
  obtain ⟨mn, mx, wd, j, hm, hO, hj, hx⟩ := made_is hl (a := 0) (by omega) (by omega)
  obtain ⟨b, a, ht, hb, hB, ha, ha'⟩ := text_is hl (n := 120) (a := 0 + 4) (k := 20000) (by omega) (by omega) (by omega) (by omega) (by omega)
  have hbl : b.length ≤ 120 := by omega
  have hw1 := hO.w1
  have hwm := hO.wm
  have hle := ends_length_le (mn := mn) (mx := mx) (wd := wd) (ms := 2 ^ j - 1) b
  have hasc := ends_asc (mn := mn) (mx := mx) (wd := wd) (ms := 2 ^ j - 1) b
  have hsz := ends_sizes (mn := mn) (mx := mx) (wd := wd) (ms := 2 ^ j - 1) (by omega) hO.mm b
  have hend := ends_end (mn := mn) (mx := mx) (wd := wd) (ms := 2 ^ j - 1) b
  have hrg := ends_range (mn := mn) (mx := mx) (wd := wd) (ms := 2 ^ j - 1) b
  have hnil : ends mn mx wd (2 ^ j - 1) b = [] → 0 = b.length := fun h => by
    rcases Nat.eq_zero_or_pos b.length with h0 | h0
    · exact h0.symm
    · have := hend h0
      rw [h] at this
      simp at this
      omega
  unfold stockyardlaw24_ChunkerParts.f
  rw [hm, Option.bind_some]
  simp only
  rw [ht, Option.bind_some]
  simp only
  rw [split_is hO hB (by omega) (by omega), Option.bind_some, known_is (by omega), Option.bind_some]
  simp only
  generalize ends mn mx wd (2 ^ j - 1) b = E at *
  have hlen := cutL_length b 0 E
  have hf : (cutL b 0 E).flatten = b := by
    rw [cutL_flatten b E 0 hasc (by omega) hnil (fun hE => hend (by
      rcases Nat.eq_zero_or_pos b.length with h0 | h0
      · exact absurd (List.eq_nil_of_length_eq_zero (by omega)) hE
      · exact h0)), List.drop_zero]
  rw [if_pos trivial, if_pos trivial, joined_is (by rw [hf]; omega) (by omega) (by omega), Option.bind_some, hf, bne_self_eq_false]
  simp only [stockyardlaw24_ChunkerParts.j0]
  rw [if_neg (by simp)]
  refine parts_loop (by omega) (fun i hi => ?_) 200 _ 0 (by omega) (by omega) (by omega)
  rw [hlen] at hi ⊢
  rw [rdL_cut hi, List.length_drop, List.length_take]
  obtain ⟨h1, h2, h3⟩ := hsz _ i hi rfl
  have h4 := (hrg (E.getD i 0) (by simp [List.getD_eq_getElem?_getD, hi])).2
  generalize E.getD i 0 = y at *
  generalize (if i = 0 then 0 else E.getD (i - 1) 0) = s at *
  refine ⟨by omega, by omega, fun h => ?_⟩
  have := h3 h
  omega
theorem ChunkerParts : Goal.ChunkerParts := by
  intro A c l w hr hc hn hw
  exact stockyardlaw24_ChunkerParts.calls 20000 A c l true w hr hc (pureParts l (Wf.of hn hw)) rfl
end Go.Proofs.Ytgfodmpdnhebjaa.Walk
