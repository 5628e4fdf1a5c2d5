/- What the printed helpers of chapter 24's statements compute. -/
import Derived.Test.YtgfodmpdnhebjaaFin4
import Derived.Test.YtgfodmpdnhebjaaCk2
import Derived.Test.YtgfodmpdnhebjaaPxf16
import Derived.Test.YtgfodmpdnhebjaaPxf18
import Derived.Test.YtgfodmpdnhebjaaPxf19
import Derived.Test.YtgfodmpdnhebjaaPxf24
import Derived.Test.YtgfodmpdnhebjaaPxf35
import Derived.Test.YtgfodmpdnhebjaaPxf49
namespace Go.Proofs.Ytgfodmpdnhebjaa.Cp
open Go.RowKit Go.Proofs.Ytgfodmpdnhebjaa.P Go.Proofs.Ytgfodmpdnhebjaa.Fp Go.Proofs.Ytgfodmpdnhebjaa.FM Go.Proofs.Ytgfodmpdnhebjaa.Ck Go.Proofs.Ytgfodmpdnhebjaa.Chk Go.Proofs.YtgfodmpdnhebjaaW.PrintWords Go.Proofs.YtgfodmpdnhebjaaW.PrintLast Go.Proofs.YtgfodmpdnhebjaaW.PrintMore
set_option linter.unusedVariables false
set_option linter.unusedSimpArgs false
/-- A list of Go's ints. -/
def Wf (l : List Int) : Prop := (∀ x ∈ l, -9223372036854775808 ≤ x ∧ x ≤ 9223372036854775807) ∧ l.length ≤ 17592186044416
theorem Wf.of {l : List Int} (h : l.length * 8 ≤ 140737488351232) (hw : ∀ x ∈ l, (Lit.int .i64 x).wf = true) : Wf l := ⟨fun x hx => wf_i64 (hw x hx), by omega⟩
theorem w64 {x : Int} (h0 : -9223372036854775808 ≤ x) (h1 : x ≤ 9223372036854775807) : wrap64 x = x := by unfold wrap64; omega
theorem shl_one {j : Int} (h0 : 0 ≤ j) (h1 : j < 5) : IntKind.u64.wrap (shl .u64 1 j - 1) = 2 ^ j.toNat - 1 := by
  have : j = 0 ∨ j = 1 ∨ j = 2 ∨ j = 3 ∨ j = 4 := by omega
  rcases this with rfl | rfl | rfl | rfl | rfl <;> decide
section
variable {l : List Int} (hl : Wf l)
include hl
theorem next_is {a n : Int} (ha : 0 ≤ a) (hb : a ≤ 1000000000000) (hn : n ≤ 9223372036854775807) : ∃ r, stockyardmake_Tape_Next.f l a n = some (r, a + 1) ∧ 0 ≤ r ∧ (1 ≤ n → r < n) := by
  unfold stockyardmake_Tape_Next.f
  have hr : ∀ v : Int, 0 ≤ foldS v n ∧ (1 ≤ n → foldS v n < n) := fun v => by
    by_cases h : 1 ≤ n
    · exact ⟨(foldS_range h).1, fun _ => (foldS_range h).2⟩
    · refine ⟨?_, fun h' => absurd h' h⟩
      unfold foldS
      rw [if_pos (by omega)]
      omega
  by_cases hc : a < (l.length : Int)
  · rw [if_pos hc, if_pos ha, fold_is (hl.1 _ (rd_mem ha hc)) hn, Option.bind_some, w64 (by omega) (by omega)]
    exact ⟨_, rfl, (hr _).1, (hr _).2⟩
  · rw [if_neg hc, w64 (x := a * 7) (by omega) (by omega), w64 (x := a + 1) (by omega) (by omega), fold_is (by rw [Int.tmod_eq_emod_of_nonneg (by omega)]; omega) hn, Option.bind_some]
    exact ⟨_, rfl, (hr _).1, (hr _).2⟩
theorem bytes_loop {n : Nat} {m : Int} (hm0 : 1 ≤ m) (hm : m ≤ 256) (hn : n ≤ 1000000) (d : Nat) : ∀ (k : Nat) (x : List Int) (i : Nat) (a : Int), i ≤ n → n - i = d → d < k → x.length ≤ i → 0 ≤ a → a + d ≤ 1000000000000 →
    ∃ bs, stockyardmake_Tape_Bytes.l0 k (n : Int) m x (i : Int) l a = some (x ++ bs, a + d) ∧ bs.length = d ∧ IsBytes bs := by
  induction d with
  | zero =>
    intro k x i a hi hd hk hx ha hb
    obtain ⟨k, rfl⟩ : ∃ m, k = m + 1 := ⟨k - 1, by omega⟩
    refine ⟨[], ?_, rfl, fun y hy => by cases hy⟩
    simp only [stockyardmake_Tape_Bytes.l0]
    rw [if_neg (by omega)]
    simp
  | succ d ih =>
    intro k x i a hi hd hk hx ha hb
    obtain ⟨k, rfl⟩ : ∃ m, k = m + 1 := ⟨k - 1, by omega⟩
    obtain ⟨r, hr, r0, r1⟩ := next_is hl (a := a) (n := m) ha (by omega) (by omega)
    have hr1 := r1 hm0
    obtain ⟨bs, h1, h2, h3⟩ := ih k (x ++ [r % 256]) (i + 1) (a + 1) (by omega) (by omega) (by omega) (by simp; omega) (by omega) (by omega)
    refine ⟨r % 256 :: bs, ?_, by simp [h2], ?_⟩
    · simp only [stockyardmake_Tape_Bytes.l0]
      rw [if_pos (by omega), hr, Option.bind_some, if_pos (by omega), show wrap64 ((i : Int) + 1) = ((i + 1 : Nat) : Int) by unfold wrap64; omega]
      show stockyardmake_Tape_Bytes.l0 k n m (x ++ [r % 256]) ((i + 1 : Nat) : Int) l (a + 1) = _
      rw [h1, List.append_assoc]
      simp only [Option.some.injEq, Prod.mk.injEq]
      exact ⟨rfl, by omega⟩
    · intro y hy
      rcases List.mem_cons.1 hy with rfl | hy
      · omega
      · exact h3 y hy
theorem bytes_is {n : Nat} {m a : Int} (hm0 : 1 ≤ m) (hm : m ≤ 256) (hn : n ≤ 1000000) (ha : 0 ≤ a) (hb : a ≤ 900000000000) {k : Nat} (hk : n < k) : ∃ bs, stockyardmake_Tape_Bytes.f k l a (n : Int) m = some (bs, a + n) ∧ bs.length = n ∧ IsBytes bs := by
  obtain ⟨bs, h1, h2, h3⟩ := bytes_loop hl hm0 hm hn n k [] 0 a (by omega) (by omega) hk (by simp) ha (by omega)
  have e : mx (n : Int) 0 = n := by unfold mx; split <;> omega
  refine ⟨bs, ?_, h2, h3⟩
  unfold stockyardmake_Tape_Bytes.f
  rw [e, if_pos (by omega), if_pos (by omega)]
  simpa using h1
theorem text_is {n a : Int} (hn0 : 0 ≤ n) (hn : n ≤ 10000) (ha : 0 ≤ a) (hb : a ≤ 800000000000) {k : Nat} (hk : 10001 ≤ k) : ∃ bs a', stockyardlaw24_text.f k l a n = some (bs, a') ∧ (bs.length : Int) ≤ n ∧ IsBytes bs ∧ a ≤ a' ∧ a' ≤ a + 10002 := by
  obtain ⟨r, hr, r0, r1⟩ := next_is hl (a := a) (n := 5) ha (by omega) (by omega)
  have r1 := r1 (by omega)
  obtain ⟨s, hs, s0, s1⟩ := next_is hl (a := a + 1) (n := n + 1) (by omega) (by omega) (by omega)
  have s1 := s1 (by omega)
  obtain ⟨m, rfl⟩ := Int.eq_ofNat_of_zero_le s0
  obtain ⟨bs, h1, h2, h3⟩ := bytes_is hl (n := m) (m := 1 + r) (a := a + 1 + 1) (by omega) (by omega) (by omega) (by omega) (by omega) (k := k) (by omega)
  refine ⟨bs, a + 1 + 1 + m, ?_, by omega, h3, by omega, by omega⟩
  unfold stockyardlaw24_text.f
  rw [hr, Option.bind_some, w64 (x := n + 1) (by omega) (by omega)]
  simp only
  rw [hs, Option.bind_some, w64 (x := 1 + r) (by omega) (by omega)]
  simp only
  rw [h1, Option.bind_some]
theorem made_is {a : Int} (ha : 0 ≤ a) (hb : a ≤ 800000000000) : ∃ (mn mx wd j : Nat), stockyardlaw24_made.f l a = some ((mn : Int), (mx : Int), (wd : Int), (2 ^ j - 1 : Int), a + 4) ∧ Okp mn mx wd (2 ^ j - 1) ∧ j < 5 ∧ mx ≤ 40 := by
  obtain ⟨r, hr, r0, r1⟩ := next_is hl (a := a) (n := 6) ha (by omega) (by omega)
  have r1 := r1 (by omega)
  obtain ⟨s, hs, s0, s1⟩ := next_is hl (a := a + 1) (n := 6) (by omega) (by omega) (by omega)
  have s1 := s1 (by omega)
  obtain ⟨t, ht, t0, t1⟩ := next_is hl (a := a + 1 + 1) (n := 20) (by omega) (by omega) (by omega)
  have t1 := t1 (by omega)
  obtain ⟨j, hj, j0, j1⟩ := next_is hl (a := a + 1 + 1 + 1) (n := 5) (by omega) (by omega) (by omega)
  have j1 := j1 (by omega)
  have hp : (1 : Int) ≤ 2 ^ j.toNat ∧ (2 : Int) ^ j.toNat ≤ 16 := by
    have : j = 0 ∨ j = 1 ∨ j = 2 ∨ j = 3 ∨ j = 4 := by omega
    rcases this with rfl | rfl | rfl | rfl | rfl <;> decide
  refine ⟨(1 + r + s).toNat, (1 + r + s + t).toNat, (1 + r).toNat, j.toNat, ?_, ⟨by omega, by omega, by omega, by omega, by omega, by omega, by omega⟩, by omega, by omega⟩
  unfold stockyardlaw24_made.f
  rw [hr, Option.bind_some]
  simp only
  rw [hs, Option.bind_some]
  simp only
  rw [ht, Option.bind_some]
  simp only
  rw [hj, Option.bind_some]
  simp only
  rw [if_pos j0, shl_one j0 j1, w64 (x := 1 + r) (by omega) (by omega), w64 (x := 1 + r + s) (by omega) (by omega), w64 (x := 1 + r + s + t) (by omega) (by omega)]
  simp only [Option.some.injEq, Prod.mk.injEq]
  refine ⟨by omega, by omega, by omega, trivial, by omega⟩
end
section
variable {mn mx wd : Nat} {ms : Int} {b : List Int} (hO : Okp mn mx wd ms) (hb : IsBytes b) (hl : b.length ≤ 1048576)
include hO hb hl
theorem cEnds_is : chunker_Ends.f mn mx wd ms b = some (endsI mn mx wd ms b, 0) := by
  unfold chunker_Ends.f endsS
  rw [if_pos hO.okq, if_pos ⟨hO.s0, hO.s1⟩, if_neg (by omega), if_pos hb]
  simp only [Int.toNat_natCast]
theorem lEnds_is : stockyardlaw24_ends.f mn mx wd ms b = some (endsI mn mx wd ms b, true) := by
  unfold stockyardlaw24_ends.f
  rw [cEnds_is hO hb hl, Option.bind_some]
  rfl
end
theorem same_loop (l : List Int) (hn : l.length ≤ 140737488351232) (d : Nat) : ∀ (k n : Nat), n ≤ l.length → l.length - n = d → d < k → stockyardmake_SameInts.l0 k l l (n : Int) = some true := by
  induction d with
  | zero =>
    intro k n h0 h1 hk
    obtain ⟨k, rfl⟩ : ∃ m, k = m + 1 := ⟨k - 1, by omega⟩
    simp only [stockyardmake_SameInts.l0]
    rw [if_neg (by omega)]
  | succ d ih =>
    intro k n h0 h1 hk
    obtain ⟨k, rfl⟩ : ∃ m, k = m + 1 := ⟨k - 1, by omega⟩
    simp only [stockyardmake_SameInts.l0]
    rw [if_pos (by omega), if_pos (by omega), if_pos (by omega), if_pos trivial, show wrap64 ((n : Int) + 1) = ((n + 1 : Nat) : Int) by unfold wrap64; omega]
    exact ih k (n + 1) (by omega) (by omega) (by omega)
theorem same_is {l : List Int} (hn : l.length ≤ 140737488351232) {k : Nat} (hk : l.length < k) : stockyardmake_SameInts.f k l l = some true := by
  unfold stockyardmake_SameInts.f
  rw [if_pos rfl]
  exact same_loop l hn l.length k 0 (by omega) (by omega) hk
theorem texts_loop (l : List (List Int)) (hn : l.length ≤ 140737488351232) (d : Nat) : ∀ (k n : Nat), n ≤ l.length → l.length - n = d → d < k → stockyardmake_SameTexts.l0 k l l (n : Int) = some true := by
  induction d with
  | zero =>
    intro k n h0 h1 hk
    obtain ⟨k, rfl⟩ : ∃ m, k = m + 1 := ⟨k - 1, by omega⟩
    simp only [stockyardmake_SameTexts.l0]
    rw [if_neg (by omega)]
  | succ d ih =>
    intro k n h0 h1 hk
    obtain ⟨k, rfl⟩ : ∃ m, k = m + 1 := ⟨k - 1, by omega⟩
    simp only [stockyardmake_SameTexts.l0]
    rw [if_pos (by omega), if_pos (by omega), if_pos (by omega), if_pos trivial, show wrap64 ((n : Int) + 1) = ((n + 1 : Nat) : Int) by unfold wrap64; omega]
    exact ih k (n + 1) (by omega) (by omega) (by omega)
theorem texts_is {l : List (List Int)} (hn : l.length ≤ 140737488351232) {k : Nat} (hk : l.length < k) : stockyardmake_SameTexts.f k l l = some true := by
  unfold stockyardmake_SameTexts.f
  rw [if_pos rfl]
  exact texts_loop l hn l.length k 0 (by omega) (by omega) hk
theorem endsI_known : endsI 2 4 1 1 [1, 1, 0, 0, 0, 0, 3, 5] = [2, 6, 8] := by decide
theorem known_is {k : Nat} (hk : 4 ≤ k) : stockyardlaw24_known.f k = some true := by
  have hb : IsBytes [1, 1, 0, 0, 0, 0, 3, 5] := by intro x hx; simp at hx; omega
  have h := cEnds_is (mn := 2) (mx := 4) (wd := 1) (ms := 1) (b := [1, 1, 0, 0, 0, 0, 3, 5]) ⟨by omega, by omega, by omega, by omega, by omega, by omega, by omega⟩ hb (by simp)
  unfold stockyardlaw24_known.f
  rw [show chunker_Ends.f 2 4 1 1 [1, 1, 0, 0, 0, 0, 3, 5] = _ from h, Option.bind_some]
  simp only
  rw [if_pos trivial, endsI_known, same_is (by simp) (by simp; omega), Option.bind_some]
/-- Ascending, and within n. -/
def Asc (n : Nat) : Nat → List Nat → Prop
  | _, [] => True
  | s, e :: r => s < e ∧ e ≤ n ∧ Asc n e r
theorem ends_asc {mn mx wd : Nat} {ms : Int} (l : List Int) : Asc l.length 0 (ends mn mx wd ms l) := by
  have : ∀ f p, Asc l.length p (endsN mn mx wd ms l f p) := by
    intro f
    induction f with
    | zero => intro p; exact trivial
    | succ f ih =>
      intro p
      rw [endsN_succ]
      by_cases hp : p < l.length
      · rw [if_pos hp]
        have := step_lt (mn := mn) (mx := mx) (wd := wd) (ms := ms) hp
        exact ⟨this.1, this.2, ih _⟩
      · rw [if_neg hp]
        exact trivial
  exact this _ _
theorem asc_length {n : Nat} : ∀ {s : Nat} {r : List Nat}, Asc n s r → r.length + s ≤ max n s
  | s, [], _ => by simp; omega
  | s, e :: r, h => by have := asc_length h.2.2; have := h.1; have := h.2.1; simp only [List.length_cons]; omega
theorem ends_length_le {mn mx wd : Nat} {ms : Int} (l : List Int) : (ends mn mx wd ms l).length ≤ l.length := by
  have := asc_length (ends_asc (mn := mn) (mx := mx) (wd := wd) (ms := ms) l)
  omega
theorem endsI_length {mn mx wd : Nat} {ms : Int} (l : List Int) : (endsI mn mx wd ms l).length = (ends mn mx wd ms l).length := by simp [endsI]
theorem rd_endsI {mn mx wd : Nat} {ms : Int} (l : List Int) {i : Nat} (h : i < (ends mn mx wd ms l).length) : rd (endsI mn mx wd ms l) (i : Int) = ((ends mn mx wd ms l).getD i 0 : Nat) := by
  simp [rd, endsI, List.getD_eq_getElem?_getD, h]
/-- The parts of b that end at the given places. -/
def cutL (b : List Int) : Nat → List Nat → List (List Int)
  | _, [] => []
  | s, e :: r => (b.take e).drop s :: cutL b e r
theorem cutL_length (b : List Int) : ∀ s r, (cutL b s r).length = r.length
  | _, [] => rfl
  | s, e :: r => by simp [cutL, cutL_length b e r]
theorem rd_map {E r : List Nat} {i : Nat} {e : Nat} (h : E.drop i = e :: r) : rd (E.map Int.ofNat) (i : Int) = (e : Int) := by
  have : E[i]? = some e := by have := congrArg List.head? h; simpa using this
  simp [rd, List.getD_eq_getElem?_getD, this]
theorem drop_lt {E r : List Nat} {i e : Nat} (h : E.drop i = e :: r) : i < E.length ∧ E.drop (i + 1) = r := by
  have h1 := congrArg List.length h
  rw [List.length_drop, List.length_cons] at h1
  refine ⟨by omega, ?_⟩
  rw [← List.tail_drop, h, List.tail_cons]
theorem split_loop (b : List Int) (hb : b.length ≤ 1048576) (E : List Nat) (hE : E.length ≤ 1048576) (r : List Nat) : ∀ (k i s : Nat) (x : List (List Int)), E.drop i = r → i ≤ E.length → Asc b.length s r → s ≤ b.length → x.length ≤ i → r.length < k →
    chunker_Split.l0 k b x (s : Int) (E.map Int.ofNat) (E.length : Int) (i : Int) = some (x ++ cutL b s r, 0) := by
  induction r with
  | nil =>
    intro k i s x h hi ha hs hx hk
    obtain ⟨k, rfl⟩ : ∃ m, k = m + 1 := ⟨k - 1, by omega⟩
    have := congrArg List.length h
    simp at this
    simp only [chunker_Split.l0]
    rw [if_neg (by omega)]
    simp [cutL]
  | cons e r ih =>
    intro k i s x h hi ha hs hx hk
    obtain ⟨k, rfl⟩ : ∃ m, k = m + 1 := ⟨k - 1, by omega⟩
    obtain ⟨h1, h2⟩ := drop_lt h
    have he := rd_map h
    have ha1 := ha.1
    have ha2 := ha.2.1
    have hk' : r.length + 1 < k + 1 := by simpa using hk
    simp only [chunker_Split.l0]
    rw [if_pos (by omega), if_pos (by omega), if_pos (by rw [List.length_map]; omega), he, if_pos (by omega), if_pos (by omega), if_pos (by omega)]
    simp only [Int.toNat_natCast, List.nil_append, List.length_nil, Nat.zero_add]
    rw [if_pos (by rw [List.length_drop, List.length_take]; omega), if_pos (by omega), show wrap64 ((i : Int) + 1) = ((i + 1 : Nat) : Int) by unfold wrap64; omega]
    rw [ih k (i + 1) e _ h2 (by omega) ha.2.2 ha2 (by simp; omega) (by omega)]
    simp [cutL]
theorem split_is {mn mx wd : Nat} {ms : Int} {b : List Int} (hO : Okp mn mx wd ms) (hb : IsBytes b) (hl : b.length ≤ 1048576) {k : Nat} (hk : b.length < k) : chunker_Split.f k mn mx wd ms b = some (cutL b 0 (ends mn mx wd ms b), 0) := by
  have hle := ends_length_le (mn := mn) (mx := mx) (wd := wd) (ms := ms) b
  unfold chunker_Split.f
  rw [cEnds_is hO hb hl, Option.bind_some]
  simp only
  rw [if_pos trivial, endsI_length]
  exact split_loop b hl _ (by omega) _ k 0 0 [] rfl (by omega) (ends_asc b) (by omega) (by simp) (by omega)
theorem cuts_loop (b : List Int) (hb : b.length ≤ 1048576) (E : List Nat) (hE : E.length ≤ 1048576) (r : List Nat) : ∀ (k i s : Nat) (x : List (List Int)), E.drop i = r → i ≤ E.length → Asc b.length s r → s ≤ b.length → x.length ≤ i → r.length < k →
    stockyardref24_Cuts.l0 k b (E.map Int.ofNat) x (s : Int) (i : Int) = some (x ++ cutL b s r) := by
  induction r with
  | nil =>
    intro k i s x h hi ha hs hx hk
    obtain ⟨k, rfl⟩ : ∃ m, k = m + 1 := ⟨k - 1, by omega⟩
    have := congrArg List.length h
    simp at this
    simp only [stockyardref24_Cuts.l0]
    rw [if_neg (by rw [List.length_map]; omega)]
    simp [cutL]
  | cons e r ih =>
    intro k i s x h hi ha hs hx hk
    obtain ⟨k, rfl⟩ : ∃ m, k = m + 1 := ⟨k - 1, by omega⟩
    obtain ⟨h1, h2⟩ := drop_lt h
    have he := rd_map h
    have ha1 := ha.1
    have ha2 := ha.2.1
    have hk' : r.length + 1 < k + 1 := by simpa using hk
    simp only [stockyardref24_Cuts.l0]
    rw [if_pos (by rw [List.length_map]; omega), if_pos (by omega), he, if_pos (by omega), if_pos (by omega), if_pos (by omega)]
    simp only [Int.toNat_natCast, List.nil_append, List.length_nil, Nat.zero_add]
    rw [if_pos (by rw [List.length_drop, List.length_take]; omega), if_pos (by omega), show wrap64 ((i : Int) + 1) = ((i + 1 : Nat) : Int) by unfold wrap64; omega]
    rw [ih k (i + 1) e _ h2 (by omega) ha.2.2 ha2 (by simp; omega) (by omega)]
    simp [cutL]
theorem cuts_is {mn mx wd : Nat} {ms : Int} {b : List Int} (hl : b.length ≤ 1048576) {k : Nat} (hk : b.length < k) : stockyardref24_Cuts.f k b (endsI mn mx wd ms b) = some (cutL b 0 (ends mn mx wd ms b)) := by
  have hle := ends_length_le (mn := mn) (mx := mx) (wd := wd) (ms := ms) b
  exact cuts_loop b hl _ (by omega) _ k 0 0 [] rfl (by omega) (ends_asc b) (by omega) (by simp) (by omega)
theorem rends_loop {mn mx wd : Nat} {ms : Int} {b : List Int} (hO : Okp mn mx wd ms) (hb : IsBytes b) (hl : b.length ≤ 1048576) (d : Nat) : ∀ (k s : Nat) (x : List Int), s ≤ b.length → b.length - s ≤ d → d < k → x.length ≤ s →
    stockyardref24_Ends.l0 k b x (s : Int) mn mx wd ms = some (x ++ (endsN mn mx wd ms b d s).map Int.ofNat, 0) := by
  induction d with
  | zero =>
    intro k s x h1 h2 hk hx
    obtain ⟨k, rfl⟩ : ∃ m, k = m + 1 := ⟨k - 1, by omega⟩
    simp only [stockyardref24_Ends.l0]
    rw [if_neg (by omega)]
    simp [endsN]
  | succ d ih =>
    intro k s x h1 h2 hk hx
    obtain ⟨k, rfl⟩ : ∃ m, k = m + 1 := ⟨k - 1, by omega⟩
    simp only [stockyardref24_Ends.l0]
    rw [endsN_succ]
    by_cases hs : s < b.length
    · have hst := step_lt (mn := mn) (mx := mx) (wd := wd) (ms := ms) hs
      have hend : stockyardref24_End.f mn mx wd ms b (s : Int) = some (((s + (endF mn mx wd ms (b.drop s)).1 : Nat) : Int), (endF mn mx wd ms (b.drop s)).2) := by
        unfold stockyardref24_End.f endS
        rw [if_pos ⟨hO.okq, hO.s0, hO.s1, hb, by omega, by omega, hl⟩]
        simp only [Int.toNat_natCast, Int.natCast_add]
      rw [if_pos (by omega), hend, Option.bind_some]
      simp only
      rw [if_pos (by omega), ih k _ _ hst.2 (by omega) (by omega) (by simp; omega), if_pos hs]
      simp
    · rw [if_neg (by omega), if_neg hs]
      simp
theorem rEnds_is {mn mx wd : Nat} {ms : Int} {b : List Int} (hO : Okp mn mx wd ms) (hb : IsBytes b) (hl : b.length ≤ 1048576) {k : Nat} (hk : b.length < k) : stockyardref24_Ends.f k mn mx wd ms b = some (endsI mn mx wd ms b, 0) := by
  have hc : stockyardref24_Check.f mn mx wd ms = some 0 := by
    have := hO.w1
    have := hO.w2
    have := hO.wm
    have := hO.mm
    have := hO.mc
    unfold stockyardref24_Check.f
    rw [if_neg (by omega), if_neg (by omega), if_neg (by omega), if_neg (by omega), if_neg (by omega)]
  unfold stockyardref24_Ends.f
  rw [hc, Option.bind_some, if_pos rfl, if_neg (by omega)]
  exact rends_loop hO hb hl b.length k 0 [] (by omega) (by omega) hk (by simp)
end Go.Proofs.Ytgfodmpdnhebjaa.Cp
