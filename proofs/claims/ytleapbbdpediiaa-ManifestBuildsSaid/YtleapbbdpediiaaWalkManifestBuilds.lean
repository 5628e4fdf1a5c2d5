-- What this claim does not use is left out (shake.py).
import Derived.Test.YtleapbbdpediiaaMr
import Derived.Test.YtleapbbdpediiaaPxf18
import Derived.Test.YtleapbbdpediiaaPxf21
import Derived.Test.YtleapbbdpediiaaPxf23
import Derived.Test.YtleapbbdpediiaaPx0
import Derived.Test.YtleapbbdpediiaaPxf55
import Derived.Test.YtleapbbdpediiaaPxf28
import Derived.Test.YtleapbbdpediiaaPxf30
import Derived.Test.YtleapbbdpediiaaFin4
import Derived.Test.YtleapbbdpediiaaGManifestBuilds
import Derived.Test.YtleapbbdpediiaaPxf12
import Derived.Test.YtleapbbdpediiaaPxf34
import Derived.Test.YtleapbbdpediiaaPxf39
import Derived.Test.YtleapbbdpediiaaPxf49
import Derived.Test.YtleapbbdpediiaaPxf54
import Derived.Test.YtleapbbdpediiaaPxf63
import Derived.Test.YtleapbbdpediiaaPxf70
import Derived.Test.YtleapbbdpediiaaPxf71
import Derived.Test.YtleapbbdpediiaaPxf72
import Derived.Test.YtleapbbdpediiaaPxf83
import Derived.Test.YtleapbbdpediiaaPxf92
/- ManifestBuilds, plainly: Build returns the manifest and the chunks of the content. -/
namespace Go.Proofs.Ytleapbbdpediiaa.Walk
open Go.RowKit Go.Proofs.Ytleapbbdpediiaa.P Go.Proofs.Ytleapbbdpediiaa.Fp Go.Proofs.Ytleapbbdpediiaa.FM Go.Proofs.Ytleapbbdpediiaa.Ck Go.Proofs.Ytleapbbdpediiaa.Chk Go.Proofs.Ytleapbbdpediiaa.Rg Go.Proofs.Ytleapbbdpediiaa.Mq Go.Proofs.Ytleapbbdpediiaa.Mr Go.Proofs.YtleapbbdpediiaaW.PrintWords Go.Proofs.YtleapbbdpediiaaW.PrintLast Go.Proofs.YtleapbbdpediiaaW.PrintMore
set_option linter.unusedVariables false
set_option linter.unusedSimpArgs false
theorem cut_is {l : List Int} (hl : Wf l) {a : Int} (ha : 0 ≤ a) (hb : a ≤ 800000) : ∃ (mn mx wd j : Nat), stockyardlaw25_cut.f l a = some ((mn : Int), (mx : Int), (wd : Int), (2 ^ j - 1 : Int), a + 4) ∧ Okp mn mx wd (2 ^ j - 1) := by
  obtain ⟨r, hr, r0, r1⟩ := next_is hl (a := a) (n := 3) ha (by omega) (by omega)
  have r1 := r1 (by omega)
  obtain ⟨s, hs, s0, s1⟩ := next_is hl (a := a + 1) (n := 3) (by omega) (by omega) (by omega)
  have s1 := s1 (by omega)
  obtain ⟨t, ht, t0, t1⟩ := next_is hl (a := a + 1 + 1) (n := 9) (by omega) (by omega) (by omega)
  have t1 := t1 (by omega)
  obtain ⟨j, hj, j0, j1⟩ := next_is hl (a := a + 1 + 1 + 1) (n := 4) (by omega) (by omega) (by omega)
  have j1 := j1 (by omega)
  have hp : (1 : Int) ≤ 2 ^ j.toNat ∧ (2 : Int) ^ j.toNat ≤ 16 := by
    have : j = 0 ∨ j = 1 ∨ j = 2 ∨ j = 3 := by omega
    rcases this with rfl | rfl | rfl | rfl <;> decide
  refine ⟨(1 + r + s).toNat, (1 + r + s + t).toNat, (1 + r).toNat, j.toNat, ?_, ⟨by omega, by omega, by omega, by omega, by omega, by omega, by omega⟩⟩
  unfold stockyardlaw25_cut.f
  rw [hr, Option.bind_some]
  simp only
  rw [hs, Option.bind_some]
  simp only
  rw [ht, Option.bind_some]
  simp only
  rw [hj, Option.bind_some]
  simp only
  rw [if_pos j0, w64 (x := 1 + r) (by omega) (by omega), w64 (x := 1 + r + s) (by omega) (by omega), w64 (x := 1 + r + s + t) (by omega) (by omega), shl_one j0 (by omega)]
  simp only [Option.some.injEq, Prod.mk.injEq]
  exact ⟨by omega, by omega, by omega, trivial, by omega⟩
/-- Ascending, and within n. -/
def Asc (n : Nat) : Nat → List Nat → Prop
  | _, [] => True
  | s, e :: r => s < e ∧ e ≤ n ∧ Asc n e r
theorem ends_asc {mn mx wd : Nat} {ms : Int} (l : List Int) : Asc l.length 0 (ends mn mx wd ms l) := by
  have : ∀ f p, Asc l.length p (endsN mn mx wd ms l f p) := by
    intro f
    induction f with
    | zero => intro p; exact trivial
    | succ f ih =>
      intro p
      rw [endsN_succ]
      by_cases hp : p < l.length
      · rw [if_pos hp]
        have := step_lt (mn := mn) (mx := mx) (wd := wd) (ms := ms) hp
        exact ⟨this.1, this.2, ih _⟩
      · rw [if_neg hp]
        exact trivial
  exact this _ _
theorem asc_length {n : Nat} : ∀ {s : Nat} {r : List Nat}, Asc n s r → r.length + s ≤ max n s
  | s, [], _ => by simp; omega
  | s, e :: r, h => by have := asc_length h.2.2; have := h.1; have := h.2.1; simp only [List.length_cons]; omega
theorem ends_length_le {mn mx wd : Nat} {ms : Int} (l : List Int) : (ends mn mx wd ms l).length ≤ l.length := by
  have := asc_length (ends_asc (mn := mn) (mx := mx) (wd := wd) (ms := ms) l)
  omega
theorem endsI_length {mn mx wd : Nat} {ms : Int} (l : List Int) : (endsI mn mx wd ms l).length = (ends mn mx wd ms l).length := by simp [endsI]
/-- The parts of b that end at the given places. -/
def cutL (b : List Int) : Nat → List Nat → List (List Int)
  | _, [] => []
  | s, e :: r => (b.take e).drop s :: cutL b e r
theorem cutL_length (b : List Int) : ∀ s r, (cutL b s r).length = r.length
  | _, [] => rfl
  | s, e :: r => by simp [cutL, cutL_length b e r]
theorem rd_map {E r : List Nat} {i : Nat} {e : Nat} (h : E.drop i = e :: r) : rd (E.map Int.ofNat) (i : Int) = (e : Int) := by
  have : E[i]? = some e := by have := congrArg List.head? h; simpa using this
  simp [rd, List.getD_eq_getElem?_getD, this]
theorem drop_lt {E r : List Nat} {i e : Nat} (h : E.drop i = e :: r) : i < E.length ∧ E.drop (i + 1) = r := by
  have h1 := congrArg List.length h
  rw [List.length_drop, List.length_cons] at h1
  refine ⟨by omega, ?_⟩
  rw [← List.tail_drop, h, List.tail_cons]
theorem cEnds_is {mn mx wd : Nat} {ms : Int} {b : List Int} (hO : Okp mn mx wd ms) (hb : IsBytes b) (hl : b.length ≤ 1048576) : chunker_Ends.f mn mx wd ms b = some (endsI mn mx wd ms b, 0) := by
  unfold chunker_Ends.f endsS
  rw [if_pos hO.okq, if_pos ⟨hO.s0, hO.s1⟩, if_neg (by omega), if_pos hb]
  simp only [Int.toNat_natCast]
theorem split_loop (b : List Int) (hb : b.length ≤ 1048576) (E : List Nat) (hE : E.length ≤ 1048576) (r : List Nat) : ∀ (k i s : Nat) (x : List (List Int)), E.drop i = r → i ≤ E.length → Asc b.length s r → s ≤ b.length → x.length ≤ i → r.length < k →
    chunker_Split.l0 k b x (s : Int) (E.map Int.ofNat) (E.length : Int) (i : Int) = some (x ++ cutL b s r, 0) := by
  induction r with
  | nil =>
    intro k i s x h hi ha hs hx hk
    obtain ⟨k, rfl⟩ : ∃ m, k = m + 1 := ⟨k - 1, by omega⟩
    have := congrArg List.length h
    simp at this
    simp only [chunker_Split.l0]
    rw [if_neg (by omega)]
    simp [cutL]
  | cons e r ih =>
    intro k i s x h hi ha hs hx hk
    obtain ⟨k, rfl⟩ : ∃ m, k = m + 1 := ⟨k - 1, by omega⟩
    obtain ⟨h1, h2⟩ := drop_lt h
    have he := rd_map h
    have ha1 := ha.1
    have ha2 := ha.2.1
    have hk' : r.length + 1 < k + 1 := by simpa using hk
    simp only [chunker_Split.l0]
    rw [if_pos (by omega), if_pos (by omega), if_pos (by rw [List.length_map]; omega), he, if_pos (by omega), if_pos (by omega), if_pos (by omega)]
    simp only [Int.toNat_natCast, List.nil_append, List.length_nil, Nat.zero_add]
    rw [if_pos (by rw [List.length_drop, List.length_take]; omega), if_pos (by omega), show wrap64 ((i : Int) + 1) = ((i + 1 : Nat) : Int) by unfold wrap64; omega]
    rw [ih k (i + 1) e _ h2 (by omega) ha.2.2 ha2 (by simp; omega) (by omega)]
    simp [cutL]
theorem split_is {mn mx wd : Nat} {ms : Int} {b : List Int} (hO : Okp mn mx wd ms) (hb : IsBytes b) (hl : b.length ≤ 1048576) {k : Nat} (hk : b.length < k) : chunker_Split.f k mn mx wd ms b = some (cutL b 0 (ends mn mx wd ms b), 0) := by
  have hle := ends_length_le (mn := mn) (mx := mx) (wd := wd) (ms := ms) b
  unfold chunker_Split.f
  rw [cEnds_is hO hb hl, Option.bind_some]
  simp only
  rw [if_pos trivial, endsI_length]
  exact split_loop b hl _ (by omega) _ k 0 0 [] rfl (by omega) (ends_asc b) (by omega) (by simp) (by omega)
/-- The parts of a content. -/
theorem cut_flat {mn mx wd : Nat} {ms : Int} {b : List Int} : ∀ (f p : Nat), p ≤ b.length → b.length - p ≤ f → (cutL b p (endsN mn mx wd ms b f p)).flatten = b.drop p
  | 0, p, h, hf => by
    rw [List.drop_eq_nil_of_le (by omega)]
    rfl
  | f + 1, p, h, hf => by
    rw [endsN_succ]
    by_cases hp : p < b.length
    · rw [if_pos hp]
      have hs := step_lt (mn := mn) (mx := mx) (wd := wd) (ms := ms) hp
      simp only [cutL, List.flatten_cons]
      rw [cut_flat f _ hs.2 (by omega)]
      generalize p + (endF mn mx wd ms (b.drop p)).1 = e at *
      conv => rhs; rw [← List.take_append_drop e b]
      rw [List.drop_append_of_le_length (by rw [List.length_take]; omega)]
    · rw [if_neg hp, List.drop_eq_nil_of_le (by omega)]
      rfl
theorem cut_mem {b : List Int} (hb : IsBytes b) : ∀ {r : List Nat} {s : Nat}, Asc b.length s r → ∀ x ∈ cutL b s r, IsBytes x ∧ 1 ≤ x.length ∧ x.length ≤ b.length
  | [], _, _, x, h => by cases h
  | e :: r, s, ha, x, h => by
    have h1 := ha.1
    have h2 := ha.2.1
    rcases List.mem_cons.1 h with rfl | h
    · refine ⟨fun y hy => hb y (List.mem_of_mem_take (List.mem_of_mem_drop hy)), ?_, ?_⟩
      · rw [List.length_drop, List.length_take]; omega
      · rw [List.length_drop, List.length_take]; omega
    · exact cut_mem hb ha.2.2 x h
theorem build_loop {p : List (List Int)} {z : Int} (hp : ∀ b ∈ p, IsBytes b ∧ b.length ≤ 1048576) (hn : p.length ≤ 1048576) (d : Nat) : ∀ (k i : Nat), p.length - i = d → i ≤ p.length → d + 1048577 < k →
    manifest_Build.l0 k p p (p.length : Int) (i : Int) z (ids (p.take i)) = some (z, ids p, p, 0) := by
  induction d with
  | zero =>
    intro k i hd hi hk
    obtain ⟨k, rfl⟩ : ∃ m, k = m + 1 := ⟨k - 1, by omega⟩
    simp only [manifest_Build.l0]
    rw [if_neg (by omega), List.take_of_length_le (by omega)]
  | succ d ih =>
    intro k i hd hi hk
    obtain ⟨k, rfl⟩ : ∃ m, k = m + 1 := ⟨k - 1, by omega⟩
    have hlt : i < p.length := by omega
    have hb := hp p[i] (List.getElem_mem hlt)
    simp only [manifest_Build.l0]
    rw [if_pos (by omega), if_pos (by omega), if_pos (by omega), rdL_of hlt, of_is hb.1 (by omega) (by omega), Option.bind_some]
    simp only
    rw [if_pos (by simp [ids]; omega), w64 (by omega) (by omega), show (i : Int) + 1 = ((i + 1 : Nat) : Int) by omega]
    have e2 : ids (p.take i) ++ [(⟨fp p[i], (p[i].length : Int)⟩ : S51)] = ids (p.take (i + 1)) := by
      rw [List.take_succ_eq_append_getElem hlt]
      simp only [ids, List.map_append, List.map_cons, List.map_nil, idO]
    rw [e2]
    exact ih k (i + 1) (by omega) (by omega) (by omega)
theorem cuts_loop (b : List Int) (hb : b.length ≤ 1048576) (E : List Nat) (hE : E.length ≤ 1048576) (r : List Nat) : ∀ (k i s : Nat) (x : List (List Int)), E.drop i = r → i ≤ E.length → Asc b.length s r → s ≤ b.length → x.length ≤ i → r.length < k →
    stockyardref24_Cuts.l0 k b (E.map Int.ofNat) x (s : Int) (i : Int) = some (x ++ cutL b s r) := by
  induction r with
  | nil =>
    intro k i s x h hi ha hs hx hk
    obtain ⟨k, rfl⟩ : ∃ m, k = m + 1 := ⟨k - 1, by omega⟩
    have := congrArg List.length h
    simp at this
    simp only [stockyardref24_Cuts.l0]
    rw [if_neg (by rw [List.length_map]; omega)]
    simp [cutL]
  | cons e r ih =>
    intro k i s x h hi ha hs hx hk
    obtain ⟨k, rfl⟩ : ∃ m, k = m + 1 := ⟨k - 1, by omega⟩
    obtain ⟨h1, h2⟩ := drop_lt h
    have he := rd_map h
    have ha1 := ha.1
    have ha2 := ha.2.1
    have hk' : r.length + 1 < k + 1 := by simpa using hk
    simp only [stockyardref24_Cuts.l0]
    rw [if_pos (by rw [List.length_map]; omega), if_pos (by omega), he, if_pos (by omega), if_pos (by omega), if_pos (by omega)]
    simp only [Int.toNat_natCast, List.nil_append, List.length_nil, Nat.zero_add]
    rw [if_pos (by rw [List.length_drop, List.length_take]; omega), if_pos (by omega), show wrap64 ((i : Int) + 1) = ((i + 1 : Nat) : Int) by unfold wrap64; omega]
    rw [ih k (i + 1) e _ h2 (by omega) ha.2.2 ha2 (by simp; omega) (by omega)]
    simp [cutL]
theorem cuts_is {mn mx wd : Nat} {ms : Int} {b : List Int} (hl : b.length ≤ 1048576) {k : Nat} (hk : b.length < k) : stockyardref24_Cuts.f k b (endsI mn mx wd ms b) = some (cutL b 0 (ends mn mx wd ms b)) := by
  have hle := ends_length_le (mn := mn) (mx := mx) (wd := wd) (ms := ms) b
  exact cuts_loop b hl _ (by omega) _ k 0 0 [] rfl (by omega) (ends_asc b) (by omega) (by simp) (by omega)
theorem rends_loop {mn mx wd : Nat} {ms : Int} {b : List Int} (hO : Okp mn mx wd ms) (hb : IsBytes b) (hl : b.length ≤ 1048576) (d : Nat) : ∀ (k s : Nat) (x : List Int), s ≤ b.length → b.length - s ≤ d → d < k → x.length ≤ s →
    stockyardref24_Ends.l0 k b x (s : Int) mn mx wd ms = some (x ++ (endsN mn mx wd ms b d s).map Int.ofNat, 0) := by
  induction d with
  | zero =>
    intro k s x h1 h2 hk hx
    obtain ⟨k, rfl⟩ : ∃ m, k = m + 1 := ⟨k - 1, by omega⟩
    simp only [stockyardref24_Ends.l0]
    rw [if_neg (by omega)]
    simp [endsN]
  | succ d ih =>
    intro k s x h1 h2 hk hx
    obtain ⟨k, rfl⟩ : ∃ m, k = m + 1 := ⟨k - 1, by omega⟩
    simp only [stockyardref24_Ends.l0]
    rw [endsN_succ]
    by_cases hs : s < b.length
    · have hst := step_lt (mn := mn) (mx := mx) (wd := wd) (ms := ms) hs
      have hend : stockyardref24_End.f mn mx wd ms b (s : Int) = some (((s + (endF mn mx wd ms (b.drop s)).1 : Nat) : Int), (endF mn mx wd ms (b.drop s)).2) := by
        unfold stockyardref24_End.f endS
        rw [if_pos ⟨hO.okq, hO.s0, hO.s1, hb, by omega, by omega, hl⟩]
        simp only [Int.toNat_natCast, Int.natCast_add]
      rw [if_pos (by omega), hend, Option.bind_some]
      simp only
      rw [if_pos (by omega), ih k _ _ hst.2 (by omega) (by omega) (by simp; omega), if_pos hs]
      simp
    · rw [if_neg (by omega), if_neg hs]
      simp
theorem rEnds_is {mn mx wd : Nat} {ms : Int} {b : List Int} (hO : Okp mn mx wd ms) (hb : IsBytes b) (hl : b.length ≤ 1048576) {k : Nat} (hk : b.length < k) : stockyardref24_Ends.f k mn mx wd ms b = some (endsI mn mx wd ms b, 0) := by
  have hc : stockyardref24_Check.f mn mx wd ms = some 0 := by
    have := hO.w1
    have := hO.w2
    have := hO.wm
    have := hO.mm
    have := hO.mc
    unfold stockyardref24_Check.f
    rw [if_neg (by omega), if_neg (by omega), if_neg (by omega), if_neg (by omega), if_neg (by omega)]
  unfold stockyardref24_Ends.f
  rw [hc, Option.bind_some, if_pos rfl, if_neg (by omega)]
  exact rends_loop hO hb hl b.length k 0 [] (by omega) (by omega) hk (by simp)
theorem texts_loop (l : List (List Int)) (hn : l.length ≤ 140737488351232) (d : Nat) : ∀ (k n : Nat), n ≤ l.length → l.length - n = d → d < k → stockyardmake_SameTexts.l0 k l l (n : Int) = some true := by
  induction d with
  | zero =>
    intro k n h0 h1 hk
    obtain ⟨k, rfl⟩ : ∃ m, k = m + 1 := ⟨k - 1, by omega⟩
    simp only [stockyardmake_SameTexts.l0]
    rw [if_neg (by omega)]
  | succ d ih =>
    intro k n h0 h1 hk
    obtain ⟨k, rfl⟩ : ∃ m, k = m + 1 := ⟨k - 1, by omega⟩
    simp only [stockyardmake_SameTexts.l0]
    rw [if_pos (by omega), if_pos (by omega), if_pos (by omega), if_pos trivial, show wrap64 ((n : Int) + 1) = ((n + 1 : Nat) : Int) by unfold wrap64; omega]
    exact ih k (n + 1) (by omega) (by omega) (by omega)
theorem texts_is {l : List (List Int)} (hn : l.length ≤ 140737488351232) {k : Nat} (hk : l.length < k) : stockyardmake_SameTexts.f k l l = some true := by
  unfold stockyardmake_SameTexts.f
  rw [if_pos rfl]
  exact texts_loop l hn l.length k 0 (by omega) (by omega) hk
theorem ids_loop (l : List S51) (hn : l.length ≤ 140737488351232) (d : Nat) : ∀ (k n : Nat), n ≤ l.length → l.length - n = d → d < k → stockyardmake_SameIDs.l0 k l l (n : Int) = some true := by
  induction d with
  | zero =>
    intro k n h0 h1 hk
    obtain ⟨k, rfl⟩ : ∃ m, k = m + 1 := ⟨k - 1, by omega⟩
    simp only [stockyardmake_SameIDs.l0]
    rw [if_neg (by omega)]
  | succ d ih =>
    intro k n h0 h1 hk
    obtain ⟨k, rfl⟩ : ∃ m, k = m + 1 := ⟨k - 1, by omega⟩
    simp only [stockyardmake_SameIDs.l0]
    rw [if_pos (by omega), if_pos (by omega), if_pos (by omega), if_neg (by simp), show wrap64 ((n : Int) + 1) = ((n + 1 : Nat) : Int) by unfold wrap64; omega]
    exact ih k (n + 1) (by omega) (by omega) (by omega)
theorem same_is {z : Int} {l : List S51} (hn : l.length ≤ 140737488351232) {k : Nat} (hk : l.length < k) : stockyardref25_Same.f k z l z l = some true := by
  unfold stockyardref25_Same.f stockyardmake_SameIDs.f
  rw [if_pos rfl, if_pos rfl, show stockyardmake_SameIDs.l0 k l l 0 = some true from ids_loop l hn l.length k 0 (by omega) (by omega) hk, Option.bind_some]
theorem pureBuilds (l : List Int) (hl : Wf l) : stockyardlaw25_ManifestBuilds.f 4000000 l = some true := by
  obtain ⟨mn, mx, wd, j, h1, hO⟩ := cut_is hl (a := 0) (by omega) (by omega)
  obtain ⟨n, g1, g2, g3⟩ := next_is hl (a := 0 + 4) (n := 90) (by omega) (by omega) (by omega)
  have g3 := g3 (by omega)
  obtain ⟨s, q1, q2, q3⟩ := next_is hl (a := 0 + 4 + 1) (n := 4) (by omega) (by omega) (by omega)
  have q3 := q3 (by omega)
  obtain ⟨n, rfl⟩ := Int.eq_ofNat_of_zero_le g2
  obtain ⟨b, e1, e2, hB⟩ := bytes_is hl (n := n) (m := 1 + s) (a := 0 + 4 + 1 + 1) (by omega) (by omega) (by omega) (by omega) (by omega) (k := 4000000) (by omega)
  have hA := ends_asc (mn := mn) (mx := mx) (wd := wd) (ms := 2 ^ j - 1) b
  have hle := ends_length_le (mn := mn) (mx := mx) (wd := wd) (ms := 2 ^ j - 1) b
  have hS := split_is hO hB (show b.length ≤ 1048576 by omega) (k := 4000000) (by omega)
  have hC := cuts_is (mn := mn) (mx := mx) (wd := wd) (ms := 2 ^ j - 1) (b := b) (show b.length ≤ 1048576 by omega) (k := 4000000) (by omega)
  have hE := rEnds_is hO hB (show b.length ≤ 1048576 by omega) (k := 4000000) (by omega)
  have hN : (endsI mn mx wd (2 ^ j - 1) b).length ≤ 1024 := by rw [endsI_length]; omega
  have hF := cut_flat (mn := mn) (mx := mx) (wd := wd) (ms := 2 ^ j - 1) (b := b) b.length 0 (by omega) (by omega)
  have hM := cut_mem hB hA
  have hL := cutL_length b 0 (ends mn mx wd (2 ^ j - 1) b)
  change (cutL b 0 (ends mn mx wd (2 ^ j - 1) b)).flatten = _ at hF
  rw [List.drop_zero] at hF
  generalize cutL b 0 (ends mn mx wd (2 ^ j - 1) b) = p at *
  have hp : Ok p := ⟨fun x hx => ⟨(hM x hx).1, (hM x hx).2.1, by have := (hM x hx).2.2; omega⟩, by omega, by rw [hF]; omega⟩
  have hb : ∀ x ∈ p, IsBytes x ∧ x.length ≤ 1048576 := fun x hx => ⟨(hM x hx).1, by have := (hM x hx).2.2; omega⟩
  have hT : tot p = (b.length : Int) := by rw [← hF]; rfl
  unfold stockyardlaw25_ManifestBuilds.f
  rw [h1, Option.bind_some]
  simp only
  rw [g1, Option.bind_some]
  simp only
  rw [q1, Option.bind_some]
  simp only
  rw [w64 (x := 1 + s) (by omega) (by omega), e1, Option.bind_some]
  simp only
  have hB1 : manifest_Build.f 4000000 mn mx wd (2 ^ j - 1) b = some ((b.length : Int), ids p, p, 0) := by
    unfold manifest_Build.f
    rw [hS, Option.bind_some]
    simp only
    rw [if_pos trivial, if_neg (by omega)]
    exact build_loop hb (by omega) p.length 4000000 0 (by omega) (by omega) (by omega)
  have hB2 : stockyardref25_Build.f 4000000 mn mx wd (2 ^ j - 1) b = some ((b.length : Int), ids p, p, 0) := by
    unfold stockyardref25_Build.f
    rw [hE, Option.bind_some]
    simp only
    rw [if_pos trivial, if_neg (by omega), hC, Option.bind_some, refOf_is hb (by omega) (by omega), Option.bind_some, hT]
  rw [hB1, Option.bind_some, hB2, Option.bind_some, known_is (by omega), Option.bind_some, if_pos rfl]
  simp only
  rw [if_pos trivial, same_is (by rw [ids_len]; omega) (by rw [ids_len]; omega), Option.bind_some, if_pos rfl, texts_is (by omega) (by omega), Option.bind_some]
theorem ManifestBuilds : Goal.ManifestBuilds := by
  intro A c l w hr hc hn hw
  exact stockyardlaw25_ManifestBuilds.calls 4000000 A c l true w hr hc (pureBuilds l (Wf.of hn hw)) rfl
end Go.Proofs.Ytleapbbdpediiaa.Walk
