-- What this claim does not use is left out (shake.py).
import Derived.Test.YtleapbbdpediiaaMs
import Derived.Test.YtleapbbdpediiaaFin4
import Derived.Test.YtleapbbdpediiaaGManifestBack
import Derived.Test.YtleapbbdpediiaaPxf13
import Derived.Test.YtleapbbdpediiaaPxf18
import Derived.Test.YtleapbbdpediiaaPxf21
import Derived.Test.YtleapbbdpediiaaPxf25
import Derived.Test.YtleapbbdpediiaaPxf48
import Derived.Test.YtleapbbdpediiaaPxf49
import Derived.Test.YtleapbbdpediiaaPxf54
import Derived.Test.YtleapbbdpediiaaPxf63
import Derived.Test.YtleapbbdpediiaaPxf70
/- Build and Whole, plainly. -/
namespace Go.Proofs.Ytleapbbdpediiaa.Walk
open Go.RowKit Go.Proofs.Ytleapbbdpediiaa.P Go.Proofs.Ytleapbbdpediiaa.Fp Go.Proofs.Ytleapbbdpediiaa.FM Go.Proofs.Ytleapbbdpediiaa.Ck Go.Proofs.Ytleapbbdpediiaa.Chk Go.Proofs.Ytleapbbdpediiaa.Rg Go.Proofs.Ytleapbbdpediiaa.Mq Go.Proofs.Ytleapbbdpediiaa.Mr Go.Proofs.Ytleapbbdpediiaa.Ms Go.Proofs.YtleapbbdpediiaaW.PrintWords Go.Proofs.YtleapbbdpediiaaW.PrintLast Go.Proofs.YtleapbbdpediiaaW.PrintMore
set_option linter.unusedVariables false
set_option linter.unusedSimpArgs false
theorem cut_is {l : List Int} (hl : Wf l) {a : Int} (ha : 0 ≤ a) (hb : a ≤ 800000) : ∃ (mn mx wd j : Nat), stockyardlaw25_cut.f l a = some ((mn : Int), (mx : Int), (wd : Int), (2 ^ j - 1 : Int), a + 4) ∧ Okp mn mx wd (2 ^ j - 1) := by
  obtain ⟨r, hr, r0, r1⟩ := next_is hl (a := a) (n := 3) ha (by omega) (by omega)
  have r1 := r1 (by omega)
  obtain ⟨s, hs, s0, s1⟩ := next_is hl (a := a + 1) (n := 3) (by omega) (by omega) (by omega)
  have s1 := s1 (by omega)
  obtain ⟨t, ht, t0, t1⟩ := next_is hl (a := a + 1 + 1) (n := 9) (by omega) (by omega) (by omega)
  have t1 := t1 (by omega)
  obtain ⟨j, hj, j0, j1⟩ := next_is hl (a := a + 1 + 1 + 1) (n := 4) (by omega) (by omega) (by omega)
  have j1 := j1 (by omega)
  have hp : (1 : Int) ≤ 2 ^ j.toNat ∧ (2 : Int) ^ j.toNat ≤ 16 := by
    have : j = 0 ∨ j = 1 ∨ j = 2 ∨ j = 3 := by omega
    rcases this with rfl | rfl | rfl | rfl <;> decide
  refine ⟨(1 + r + s).toNat, (1 + r + s + t).toNat, (1 + r).toNat, j.toNat, ?_, ⟨by omega, by omega, by omega, by omega, by omega, by omega, by omega⟩⟩
  unfold stockyardlaw25_cut.f
  rw [hr, Option.bind_some]
  simp only
  rw [hs, Option.bind_some]
  simp only
  rw [ht, Option.bind_some]
  simp only
  rw [hj, Option.bind_some]
  simp only
  rw [if_pos j0, w64 (x := 1 + r) (by omega) (by omega), w64 (x := 1 + r + s) (by omega) (by omega), w64 (x := 1 + r + s + t) (by omega) (by omega), shl_one j0 (by omega)]
  simp only [Option.some.injEq, Prod.mk.injEq]
  exact ⟨by omega, by omega, by omega, trivial, by omega⟩
/-- Ascending, and within n. -/
def Asc (n : Nat) : Nat → List Nat → Prop
  | _, [] => True
  | s, e :: r => s < e ∧ e ≤ n ∧ Asc n e r
theorem ends_asc {mn mx wd : Nat} {ms : Int} (l : List Int) : Asc l.length 0 (ends mn mx wd ms l) := by
  have : ∀ f p, Asc l.length p (endsN mn mx wd ms l f p) := by
    intro f
    induction f with
    | zero => intro p; exact trivial
    | succ f ih =>
      intro p
      rw [endsN_succ]
      by_cases hp : p < l.length
      · rw [if_pos hp]
        have := step_lt (mn := mn) (mx := mx) (wd := wd) (ms := ms) hp
        exact ⟨this.1, this.2, ih _⟩
      · rw [if_neg hp]
        exact trivial
  exact this _ _
theorem asc_length {n : Nat} : ∀ {s : Nat} {r : List Nat}, Asc n s r → r.length + s ≤ max n s
  | s, [], _ => by simp; omega
  | s, e :: r, h => by have := asc_length h.2.2; have := h.1; have := h.2.1; simp only [List.length_cons]; omega
theorem ends_length_le {mn mx wd : Nat} {ms : Int} (l : List Int) : (ends mn mx wd ms l).length ≤ l.length := by
  have := asc_length (ends_asc (mn := mn) (mx := mx) (wd := wd) (ms := ms) l)
  omega
theorem endsI_length {mn mx wd : Nat} {ms : Int} (l : List Int) : (endsI mn mx wd ms l).length = (ends mn mx wd ms l).length := by simp [endsI]
/-- The parts of b that end at the given places. -/
def cutL (b : List Int) : Nat → List Nat → List (List Int)
  | _, [] => []
  | s, e :: r => (b.take e).drop s :: cutL b e r
theorem cutL_length (b : List Int) : ∀ s r, (cutL b s r).length = r.length
  | _, [] => rfl
  | s, e :: r => by simp [cutL, cutL_length b e r]
theorem rd_map {E r : List Nat} {i : Nat} {e : Nat} (h : E.drop i = e :: r) : rd (E.map Int.ofNat) (i : Int) = (e : Int) := by
  have : E[i]? = some e := by have := congrArg List.head? h; simpa using this
  simp [rd, List.getD_eq_getElem?_getD, this]
theorem drop_lt {E r : List Nat} {i e : Nat} (h : E.drop i = e :: r) : i < E.length ∧ E.drop (i + 1) = r := by
  have h1 := congrArg List.length h
  rw [List.length_drop, List.length_cons] at h1
  refine ⟨by omega, ?_⟩
  rw [← List.tail_drop, h, List.tail_cons]
theorem cEnds_is {mn mx wd : Nat} {ms : Int} {b : List Int} (hO : Okp mn mx wd ms) (hb : IsBytes b) (hl : b.length ≤ 1048576) : chunker_Ends.f mn mx wd ms b = some (endsI mn mx wd ms b, 0) := by
  unfold chunker_Ends.f endsS
  rw [if_pos hO.okq, if_pos ⟨hO.s0, hO.s1⟩, if_neg (by omega), if_pos hb]
  simp only [Int.toNat_natCast]
theorem split_loop (b : List Int) (hb : b.length ≤ 1048576) (E : List Nat) (hE : E.length ≤ 1048576) (r : List Nat) : ∀ (k i s : Nat) (x : List (List Int)), E.drop i = r → i ≤ E.length → Asc b.length s r → s ≤ b.length → x.length ≤ i → r.length < k →
    chunker_Split.l0 k b x (s : Int) (E.map Int.ofNat) (E.length : Int) (i : Int) = some (x ++ cutL b s r, 0) := by
  induction r with
  | nil =>
    intro k i s x h hi ha hs hx hk
    obtain ⟨k, rfl⟩ : ∃ m, k = m + 1 := ⟨k - 1, by omega⟩
    have := congrArg List.length h
    simp at this
    simp only [chunker_Split.l0]
    rw [if_neg (by omega)]
    simp [cutL]
  | cons e r ih =>
    intro k i s x h hi ha hs hx hk
    obtain ⟨k, rfl⟩ : ∃ m, k = m + 1 := ⟨k - 1, by omega⟩
    obtain ⟨h1, h2⟩ := drop_lt h
    have he := rd_map h
    have ha1 := ha.1
    have ha2 := ha.2.1
    have hk' : r.length + 1 < k + 1 := by simpa using hk
    simp only [chunker_Split.l0]
    rw [if_pos (by omega), if_pos (by omega), if_pos (by rw [List.length_map]; omega), he, if_pos (by omega), if_pos (by omega), if_pos (by omega)]
    simp only [Int.toNat_natCast, List.nil_append, List.length_nil, Nat.zero_add]
    rw [if_pos (by rw [List.length_drop, List.length_take]; omega), if_pos (by omega), show wrap64 ((i : Int) + 1) = ((i + 1 : Nat) : Int) by unfold wrap64; omega]
    rw [ih k (i + 1) e _ h2 (by omega) ha.2.2 ha2 (by simp; omega) (by omega)]
    simp [cutL]
theorem split_is {mn mx wd : Nat} {ms : Int} {b : List Int} (hO : Okp mn mx wd ms) (hb : IsBytes b) (hl : b.length ≤ 1048576) {k : Nat} (hk : b.length < k) : chunker_Split.f k mn mx wd ms b = some (cutL b 0 (ends mn mx wd ms b), 0) := by
  have hle := ends_length_le (mn := mn) (mx := mx) (wd := wd) (ms := ms) b
  unfold chunker_Split.f
  rw [cEnds_is hO hb hl, Option.bind_some]
  simp only
  rw [if_pos trivial, endsI_length]
  exact split_loop b hl _ (by omega) _ k 0 0 [] rfl (by omega) (ends_asc b) (by omega) (by simp) (by omega)
theorem joinS_two {l m : List Int} (hl : IsBytes l) (hm : IsBytes m) (h1 : l.length ≤ 524288) (h2 : m.length ≤ 524288) : joinS (fp l) (l.length : Int) (fp m) (m.length : Int) = (fp (l ++ m), (l.length : Int) + (m.length : Int), 0) := by
  have v : ∀ x : List Int, x.length ≤ 524288 → vld (fp x) (x.length : Int) = true := fun x hx => by
    refine vld_iff.2 ⟨by omega, by omega, (fp_range x).2, ?_⟩
    cases x with
    | nil => exact .inr rfl
    | cons y x => exact .inl (by simp only [List.length_cons]; omega)
  unfold joinS
  rw [if_pos ⟨v l h1, v m h2⟩, if_neg (by omega), fp_append, Int.toNat_natCast]
/-- The parts of a content. -/
theorem cut_flat {mn mx wd : Nat} {ms : Int} {b : List Int} : ∀ (f p : Nat), p ≤ b.length → b.length - p ≤ f → (cutL b p (endsN mn mx wd ms b f p)).flatten = b.drop p
  | 0, p, h, hf => by
    rw [List.drop_eq_nil_of_le (by omega)]
    rfl
  | f + 1, p, h, hf => by
    rw [endsN_succ]
    by_cases hp : p < b.length
    · rw [if_pos hp]
      have hs := step_lt (mn := mn) (mx := mx) (wd := wd) (ms := ms) hp
      simp only [cutL, List.flatten_cons]
      rw [cut_flat f _ hs.2 (by omega)]
      generalize p + (endF mn mx wd ms (b.drop p)).1 = e at *
      conv => rhs; rw [← List.take_append_drop e b]
      rw [List.drop_append_of_le_length (by rw [List.length_take]; omega)]
    · rw [if_neg hp, List.drop_eq_nil_of_le (by omega)]
      rfl
theorem cut_mem {b : List Int} (hb : IsBytes b) : ∀ {r : List Nat} {s : Nat}, Asc b.length s r → ∀ x ∈ cutL b s r, IsBytes x ∧ 1 ≤ x.length ∧ x.length ≤ b.length
  | [], _, _, x, h => by cases h
  | e :: r, s, ha, x, h => by
    have h1 := ha.1
    have h2 := ha.2.1
    rcases List.mem_cons.1 h with rfl | h
    · refine ⟨fun y hy => hb y (List.mem_of_mem_take (List.mem_of_mem_drop hy)), ?_, ?_⟩
      · rw [List.length_drop, List.length_take]; omega
      · rw [List.length_drop, List.length_take]; omega
    · exact cut_mem hb ha.2.2 x h
theorem build_loop {p : List (List Int)} {z : Int} (hp : ∀ b ∈ p, IsBytes b ∧ b.length ≤ 1048576) (hn : p.length ≤ 1048576) (d : Nat) : ∀ (k i : Nat), p.length - i = d → i ≤ p.length → d + 1048577 < k →
    manifest_Build.l0 k p p (p.length : Int) (i : Int) z (ids (p.take i)) = some (z, ids p, p, 0) := by
  induction d with
  | zero =>
    intro k i hd hi hk
    obtain ⟨k, rfl⟩ : ∃ m, k = m + 1 := ⟨k - 1, by omega⟩
    simp only [manifest_Build.l0]
    rw [if_neg (by omega), List.take_of_length_le (by omega)]
  | succ d ih =>
    intro k i hd hi hk
    obtain ⟨k, rfl⟩ : ∃ m, k = m + 1 := ⟨k - 1, by omega⟩
    have hlt : i < p.length := by omega
    have hb := hp p[i] (List.getElem_mem hlt)
    simp only [manifest_Build.l0]
    rw [if_pos (by omega), if_pos (by omega), if_pos (by omega), rdL_of hlt, of_is hb.1 (by omega) (by omega), Option.bind_some]
    simp only
    rw [if_pos (by simp [ids]; omega), w64 (by omega) (by omega), show (i : Int) + 1 = ((i + 1 : Nat) : Int) by omega]
    have e2 : ids (p.take i) ++ [(⟨fp p[i], (p[i].length : Int)⟩ : S51)] = ids (p.take (i + 1)) := by
      rw [List.take_succ_eq_append_getElem hlt]
      simp only [ids, List.map_append, List.map_cons, List.map_nil, idO]
    rw [e2]
    exact ih k (i + 1) (by omega) (by omega) (by omega)
theorem whole_loop {p : List (List Int)} (hp : ∀ b ∈ p, IsBytes b) (hn : p.length ≤ 1024) (hs : p.flatten.length ≤ 524288) (d : Nat) : ∀ (k i : Nat), p.length - i = d → i ≤ p.length → d + 100 < k →
    manifest_Whole.l0 k (ids p) (p.length : Int) (i : Int) (fp (p.take i).flatten) ((p.take i).flatten.length : Int) = some (fp p.flatten, (p.flatten.length : Int), 0) := by
  induction d with
  | zero =>
    intro k i hd hi hk
    obtain ⟨k, rfl⟩ : ∃ m, k = m + 1 := ⟨k - 1, by omega⟩
    simp only [manifest_Whole.l0]
    rw [if_neg (by omega), List.take_of_length_le (by omega)]
  | succ d ih =>
    intro k i hd hi hk
    obtain ⟨k, rfl⟩ : ∃ m, k = m + 1 := ⟨k - 1, by omega⟩
    have hlt : i < p.length := by omega
    have hb := hp p[i] (List.getElem_mem hlt)
    have h1 := tot_take hlt
    have h2 := tot_take_le p (i + 1)
    have h3 : p.flatten.length ≤ 524288 := hs
    unfold tot at h1 h2
    have hby : IsBytes (p.take i).flatten := fun y hy => by
      obtain ⟨c, hc, hy⟩ := List.mem_flatten.1 hy
      exact hp c (List.mem_of_mem_take hc) y hy
    simp only [manifest_Whole.l0]
    rw [if_pos (by omega), if_pos (by omega), if_pos (by rw [ids_len]; omega), ids_rd hlt]
    simp only [idO]
    rw [join_is (fp_range _).1 (fp_range _).1 (by omega), Option.bind_some, joinS_two hby hb (by omega) (by omega)]
    simp only
    rw [w64 (by omega) (by omega), show (i : Int) + 1 = ((i + 1 : Nat) : Int) by omega]
    have e : (p.take (i + 1)).flatten = (p.take i).flatten ++ p[i] := by
      rw [List.take_succ_eq_append_getElem hlt]
      simp only [List.flatten_append, List.flatten_cons, List.flatten_nil, List.append_nil]
    have := ih k (i + 1) (by omega) (by omega) (by omega)
    rw [e, List.length_append, Int.natCast_add] at this
    exact this
theorem back_loop {p : List (List Int)} {b : List Int} (hp : Ok p) (hD : Dist p) (hb : p.flatten = b) (hB : IsBytes b) (hs : b.length ≤ 100) (d : Nat) : ∀ (k i : Nat), p.length - i = d → i ≤ p.length → d + 2000000 < k →
    stockyardlaw25_ManifestBack.l0 k b p ((p.take i).map stk) (i : Int) (b.length : Int) (ids p) = some true := by
  have hpn := hp.2.1
  have ht : tot p = (b.length : Int) := by rw [← hb]; rfl
  induction d with
  | zero =>
    intro k i hd hi hk
    obtain ⟨k, rfl⟩ : ∃ m, k = m + 1 := ⟨k - 1, by omega⟩
    have hA := assemble_is hp hD (l := p.map stk) (fun c hc => by
      obtain ⟨b, hb, rfl⟩ := List.mem_map.1 hc
      exact ⟨b, hb, rfl⟩) (by rw [List.length_map]; omega) (fun x hx => List.mem_map.2 ⟨x, hx, rfl⟩)
    have hW := whole_loop (p := p) (fun x hx => (hp.1 x hx).1) hpn (by rw [hb]; omega) p.length k 0 (by omega) (by omega) (by omega)
    have hC := hp.check
    rw [ht] at hA hC
    rw [hb] at hA hW
    simp only [stockyardlaw25_ManifestBack.l0]
    rw [if_neg (by omega), List.take_of_length_le (by omega), hA, Option.bind_some]
    unfold manifest_Whole.f
    rw [Mq.check_is (by rw [ids_len]; omega), Option.bind_some, hC, if_pos rfl, ids_len]
    simp only [List.take_zero, List.flatten_nil, List.length_nil] at hW
    rw [show manifest_Whole.l0 k (ids p) (p.length : Int) 0 0 0 = _ from hW, Option.bind_some]
    simp only
    rw [if_pos trivial, if_pos trivial, if_pos trivial, of_is hB (by omega) (by omega), Option.bind_some]
    simp
  | succ d ih =>
    intro k i hd hi hk
    obtain ⟨k, rfl⟩ : ∃ m, k = m + 1 := ⟨k - 1, by omega⟩
    have hlt : i < p.length := by omega
    have hx := hp.1 p[i] (List.getElem_mem hlt)
    simp only [stockyardlaw25_ManifestBack.l0]
    rw [if_pos (by omega), if_pos (by omega), rdL_of hlt, of_is hx.1 (by omega) (by omega), Option.bind_some]
    simp only
    rw [if_pos (by simp; omega), w64 (by omega) (by omega), show (i : Int) + 1 = ((i + 1 : Nat) : Int) by omega]
    have := ih k (i + 1) (by omega) (by omega) (by omega)
    rw [List.take_succ_eq_append_getElem hlt, List.map_append] at this
    exact this
theorem pureBack (l : List Int) (hl : Wf l) : stockyardlaw25_ManifestBack.f 4000000 l = some true := by
  obtain ⟨mn, mx, wd, j, h1, hO⟩ := cut_is hl (a := 0) (by omega) (by omega)
  obtain ⟨n, g1, g2, g3⟩ := next_is hl (a := 0 + 4) (n := 90) (by omega) (by omega) (by omega)
  have g3 := g3 (by omega)
  obtain ⟨s, q1, q2, q3⟩ := next_is hl (a := 0 + 4 + 1) (n := 4) (by omega) (by omega) (by omega)
  have q3 := q3 (by omega)
  obtain ⟨n, rfl⟩ := Int.eq_ofNat_of_zero_le g2
  obtain ⟨b, e1, e2, hB⟩ := bytes_is hl (n := n) (m := 1 + s) (a := 0 + 4 + 1 + 1) (by omega) (by omega) (by omega) (by omega) (by omega) (k := 4000000) (by omega)
  have hA := ends_asc (mn := mn) (mx := mx) (wd := wd) (ms := 2 ^ j - 1) b
  have hle := ends_length_le (mn := mn) (mx := mx) (wd := wd) (ms := 2 ^ j - 1) b
  have hS := split_is hO hB (show b.length ≤ 1048576 by omega) (k := 4000000) (by omega)
  have hF := cut_flat (mn := mn) (mx := mx) (wd := wd) (ms := 2 ^ j - 1) (b := b) b.length 0 (by omega) (by omega)
  have hM := cut_mem hB hA
  have hL := cutL_length b 0 (ends mn mx wd (2 ^ j - 1) b)
  change (cutL b 0 (ends mn mx wd (2 ^ j - 1) b)).flatten = _ at hF
  rw [List.drop_zero] at hF
  generalize cutL b 0 (ends mn mx wd (2 ^ j - 1) b) = p at *
  have hp : Ok p := ⟨fun x hx => ⟨(hM x hx).1, (hM x hx).2.1, by have := (hM x hx).2.2; omega⟩, by omega, by rw [hF]; omega⟩
  have hb : ∀ x ∈ p, IsBytes x ∧ x.length ≤ 1048576 := fun x hx => ⟨(hM x hx).1, by have := (hM x hx).2.2; omega⟩
  unfold stockyardlaw25_ManifestBack.f
  rw [h1, Option.bind_some]
  simp only
  rw [g1, Option.bind_some]
  simp only
  rw [q1, Option.bind_some]
  simp only
  rw [w64 (x := 1 + s) (by omega) (by omega), e1, Option.bind_some]
  simp only
  unfold manifest_Build.f
  rw [hS, Option.bind_some]
  simp only
  rw [if_pos trivial, if_neg (by omega), show ([] : List S51) = ids (p.take 0) from rfl, show (0 : Int) = ((0 : Nat) : Int) from rfl, build_loop hb (by omega) p.length 4000000 0 (by omega) (by omega) (by omega), Option.bind_some, known_is (by omega), Option.bind_some, if_pos rfl]
  simp only
  rw [if_pos (by rfl)]
  simp only [stockyardlaw25_ManifestBack.j0]
  rw [if_neg (by rw [ids_len]; simp), show stockyardmake_Distinct.f p = _ from distinct_is hb (by omega), Option.bind_some]
  by_cases hd : Ds.distB p = true
  · rw [if_pos hd]
    exact back_loop hp (dist_of hd) hF hB (by omega) p.length 3999999 0 (by omega) (by omega) (by omega)
  · rw [if_neg hd]
theorem ManifestBack : Goal.ManifestBack := by
  intro A c l w hr hc hn hw
  exact stockyardlaw25_ManifestBack.calls 4000000 A c l true w hr hc (pureBack l (Wf.of hn hw)) rfl
end Go.Proofs.Ytleapbbdpediiaa.Walk
