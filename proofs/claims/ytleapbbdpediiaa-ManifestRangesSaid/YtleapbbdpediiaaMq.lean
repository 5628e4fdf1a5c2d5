-- What this claim does not use is left out (shake.py).
import Derived.Test.YtleapbbdpediiaaDs
import Derived.Test.YtleapbbdpediiaaRf
import Derived.Test.YtleapbbdpediiaaPxf24
import Derived.Test.YtleapbbdpediiaaPx0
import Derived.Test.YtleapbbdpediiaaPxf63
import Derived.Test.YtleapbbdpediiaaPxf30
import Derived.Test.YtleapbbdpediiaaPxf45
import Derived.Test.YtleapbbdpediiaaPxf55
/- What the printed helpers of chapter 25's statements compute: pieces, manifests, Check, Slice, the cuts of a content. -/
namespace Go.Proofs.Ytleapbbdpediiaa.Mq
open Go.RowKit Go.Proofs.Ytleapbbdpediiaa.P Go.Proofs.Ytleapbbdpediiaa.Fp Go.Proofs.Ytleapbbdpediiaa.FM Go.Proofs.Ytleapbbdpediiaa.Mp Go.Proofs.Ytleapbbdpediiaa.Mf Go.Proofs.Ytleapbbdpediiaa.Rg Go.Proofs.YtleapbbdpediiaaW.PrintWords Go.Proofs.YtleapbbdpediiaaW.PrintLast Go.Proofs.YtleapbbdpediiaaW.PrintMore
set_option linter.unusedVariables false
set_option linter.unusedSimpArgs false
/-- A list of Go's ints. -/
def Wf (l : List Int) : Prop := (∀ x ∈ l, -9223372036854775808 ≤ x ∧ x ≤ 9223372036854775807) ∧ l.length ≤ 17592186044416
theorem Wf.of {l : List Int} (h : l.length * 8 ≤ 140737488351232) (hw : ∀ x ∈ l, (Lit.int .i64 x).wf = true) : Wf l := ⟨fun x hx => wf_i64 (hw x hx), by omega⟩
theorem w64 {x : Int} (h0 : -9223372036854775808 ≤ x) (h1 : x ≤ 9223372036854775807) : wrap64 x = x := by unfold wrap64; omega
section
variable {l : List Int} (hl : Wf l)
include hl
theorem next_is {a n : Int} (ha : 0 ≤ a) (hb : a ≤ 1000000000000) (hn : n ≤ 9223372036854775807) : ∃ r, stockyardmake_Tape_Next.f l a n = some (r, a + 1) ∧ 0 ≤ r ∧ (1 ≤ n → r < n) := by
  unfold stockyardmake_Tape_Next.f
  have hr : ∀ v : Int, 0 ≤ foldS v n ∧ (1 ≤ n → foldS v n < n) := fun v => by
    by_cases h : 1 ≤ n
    · exact ⟨(foldS_range h).1, fun _ => (foldS_range h).2⟩
    · refine ⟨?_, fun h' => absurd h' h⟩
      unfold foldS
      rw [if_pos (by omega)]
      omega
  by_cases hc : a < (l.length : Int)
  · rw [if_pos hc, if_pos ha, fold_is (hl.1 _ (rd_mem ha hc)) hn, Option.bind_some, w64 (by omega) (by omega)]
    exact ⟨_, rfl, (hr _).1, (hr _).2⟩
  · rw [if_neg hc, w64 (x := a * 7) (by omega) (by omega), w64 (x := a + 1) (by omega) (by omega), fold_is (by rw [Int.tmod_eq_emod_of_nonneg (by omega)]; omega) hn, Option.bind_some]
    exact ⟨_, rfl, (hr _).1, (hr _).2⟩
theorem bytes_loop {n : Nat} {m : Int} (hm0 : 1 ≤ m) (hm : m ≤ 256) (hn : n ≤ 1000000) (d : Nat) : ∀ (k : Nat) (x : List Int) (i : Nat) (a : Int), i ≤ n → n - i = d → d < k → x.length ≤ i → 0 ≤ a → a + d ≤ 1000000000000 →
    ∃ bs, stockyardmake_Tape_Bytes.l0 k (n : Int) m x (i : Int) l a = some (x ++ bs, a + d) ∧ bs.length = d ∧ IsBytes bs := by
  induction d with
  | zero =>
    intro k x i a hi hd hk hx ha hb
    obtain ⟨k, rfl⟩ : ∃ m, k = m + 1 := ⟨k - 1, by omega⟩
    refine ⟨[], ?_, rfl, fun y hy => by cases hy⟩
    simp only [stockyardmake_Tape_Bytes.l0]
    rw [if_neg (by omega)]
    simp
  | succ d ih =>
    intro k x i a hi hd hk hx ha hb
    obtain ⟨k, rfl⟩ : ∃ m, k = m + 1 := ⟨k - 1, by omega⟩
    obtain ⟨r, hr, r0, r1⟩ := next_is hl (a := a) (n := m) ha (by omega) (by omega)
    have hr1 := r1 hm0
    obtain ⟨bs, h1, h2, h3⟩ := ih k (x ++ [r % 256]) (i + 1) (a + 1) (by omega) (by omega) (by omega) (by simp; omega) (by omega) (by omega)
    refine ⟨r % 256 :: bs, ?_, by simp [h2], ?_⟩
    · simp only [stockyardmake_Tape_Bytes.l0]
      rw [if_pos (by omega), hr, Option.bind_some, if_pos (by omega), show wrap64 ((i : Int) + 1) = ((i + 1 : Nat) : Int) by unfold wrap64; omega]
      show stockyardmake_Tape_Bytes.l0 k n m (x ++ [r % 256]) ((i + 1 : Nat) : Int) l (a + 1) = _
      rw [h1, List.append_assoc]
      simp only [Option.some.injEq, Prod.mk.injEq]
      exact ⟨rfl, by omega⟩
    · intro y hy
      rcases List.mem_cons.1 hy with rfl | hy
      · omega
      · exact h3 y hy
theorem bytes_is {n : Nat} {m a : Int} (hm0 : 1 ≤ m) (hm : m ≤ 256) (hn : n ≤ 1000000) (ha : 0 ≤ a) (hb : a ≤ 900000000000) {k : Nat} (hk : n < k) : ∃ bs, stockyardmake_Tape_Bytes.f k l a (n : Int) m = some (bs, a + n) ∧ bs.length = n ∧ IsBytes bs := by
  obtain ⟨bs, h1, h2, h3⟩ := bytes_loop hl hm0 hm hn n k [] 0 a (by omega) (by omega) hk (by simp) ha (by omega)
  have e : mx (n : Int) 0 = n := by unfold mx; split <;> omega
  refine ⟨bs, ?_, h2, h3⟩
  unfold stockyardmake_Tape_Bytes.f
  rw [e, if_pos (by omega), if_pos (by omega)]
  simpa using h1
/-- What pieces returns: byte strings of 1 to 9 bytes. -/
def Pcs (p : List (List Int)) : Prop := ∀ b ∈ p, IsBytes b ∧ 1 ≤ b.length ∧ b.length ≤ 9
theorem pieces_loop (d : Nat) : ∀ (k : Nat) (x : List (List Int)) (a : Int), d ≤ 1000 → d + 20 < k → x.length + d ≤ 1000 → 0 ≤ a → a + 20 * d ≤ 900000 → Pcs x →
    ∃ p a', stockyardlaw25_pieces.l0 k x (d : Int) l a = some (p, a') ∧ Pcs p ∧ p.length = x.length + d ∧ a ≤ a' ∧ a' ≤ a + 20 * d := by
  induction d with
  | zero =>
    intro k x a h0 hk hx ha hb hP
    obtain ⟨k, rfl⟩ : ∃ m, k = m + 1 := ⟨k - 1, by omega⟩
    refine ⟨x, a, ?_, hP, rfl, by omega, by omega⟩
    simp only [stockyardlaw25_pieces.l0]
    rw [if_neg (by omega)]
  | succ d ih =>
    intro k x a h0 hk hx ha hb hP
    obtain ⟨k, rfl⟩ : ∃ m, k = m + 1 := ⟨k - 1, by omega⟩
    obtain ⟨r, hr, r0, r1⟩ := next_is hl (a := a) (n := 9) ha (by omega) (by omega)
    have r1 := r1 (by omega)
    obtain ⟨s, hs, s0, s1⟩ := next_is hl (a := a + 1) (n := 3) (by omega) (by omega) (by omega)
    have s1 := s1 (by omega)
    obtain ⟨n, rfl⟩ := Int.eq_ofNat_of_zero_le r0
    obtain ⟨bs, h1, h2, h3⟩ := bytes_is hl (n := n + 1) (m := 1 + s) (a := a + 1 + 1) (by omega) (by omega) (by omega) (by omega) (by omega) (k := k) (by omega)
    obtain ⟨p, a', g1, g2, g3, g4, g5⟩ := ih k (x ++ [bs]) (a + 1 + 1 + (n + 1 : Nat)) (by omega) (by omega) (by simp; omega) (by omega) (by omega) (by
      intro b hb
      rcases List.mem_append.1 hb with h | h
      · exact hP b h
      · obtain rfl : b = bs := by simpa using h
        exact ⟨h3, by omega, by omega⟩)
    refine ⟨p, a', ?_, g2, by rw [g3]; simp; omega, by omega, by omega⟩
    simp only [stockyardlaw25_pieces.l0]
    rw [if_pos (by omega), hr, Option.bind_some]
    simp only
    rw [hs, Option.bind_some]
    simp only
    rw [w64 (x := 1 + (n : Int)) (by omega) (by omega), w64 (x := 1 + s) (by omega) (by omega), show (1 + (n : Int)) = ((n + 1 : Nat) : Int) by omega, h1, Option.bind_some]
    simp only
    rw [if_pos (by omega), w64 (by omega) (by omega), show ((d + 1 : Nat) : Int) - 1 = (d : Int) by omega]
    exact g1
theorem pieces_is {n : Nat} {a : Int} (hn : n ≤ 1000) (ha : 0 ≤ a) (hb : a ≤ 800000) {k : Nat} (hk : n + 20 < k) : ∃ p a', stockyardlaw25_pieces.f k l a (n : Int) = some (p, a') ∧ Pcs p ∧ p.length ≤ n ∧ a ≤ a' ∧ a' ≤ a + 20 * n + 1 := by
  obtain ⟨r, hr, r0, r1⟩ := next_is hl (a := a) (n := (n : Int) + 1) ha (by omega) (by omega)
  have r1 := r1 (by omega)
  obtain ⟨m, rfl⟩ := Int.eq_ofNat_of_zero_le r0
  obtain ⟨p, a', g1, g2, g3, g4, g5⟩ := pieces_loop hl m k [] (a + 1) (by omega) (by omega) (by simp; omega) (by omega) (by omega) (fun b hb => by cases hb)
  refine ⟨p, a', ?_, g2, by rw [g3]; simp; omega, by omega, by omega⟩
  unfold stockyardlaw25_pieces.f
  rw [w64 (by omega) (by omega), hr, Option.bind_some]
  exact g1
end
/-- The ID of a byte string; of a content: its size and its IDs. -/
def idO (b : List Int) : S51 := ⟨fp b, (b.length : Int)⟩
def ids (p : List (List Int)) : List S51 := p.map idO
def tot (p : List (List Int)) : Int := (p.flatten.length : Int)
theorem tot_cons (b : List Int) (p : List (List Int)) : tot (b :: p) = (b.length : Int) + tot p := by simp [tot]
/-- Byte strings that can be chunks. -/
def Ok (p : List (List Int)) : Prop := (∀ b ∈ p, IsBytes b ∧ 1 ≤ b.length ∧ b.length ≤ 8192) ∧ p.length ≤ 1024 ∧ p.flatten.length ≤ 1048576
theorem flatten_le {p : List (List Int)} {m : Nat} (h : ∀ b ∈ p, b.length ≤ m) : p.flatten.length ≤ m * p.length := by
  induction p with
  | nil => simp
  | cons b p ih =>
    have h1 := h b (List.mem_cons_self ..)
    have h2 := ih (fun c hc => h c (List.mem_cons_of_mem _ hc))
    rw [List.flatten_cons, List.length_append, List.length_cons, Nat.mul_succ]
    omega
theorem Pcs.ok {p : List (List Int)} (h : Pcs p) (hn : p.length ≤ 1000) : Ok p := by
  have := flatten_le (m := 9) (fun b hb => (h b hb).2.2)
  exact ⟨fun b hb => ⟨(h b hb).1, (h b hb).2.1, by have := (h b hb).2.2; omega⟩, by omega, by omega⟩
theorem rdL_of {p : List (List Int)} {i : Nat} (h : i < p.length) : rd_L2 p (i : Int) = p[i] := by simp [rd_L2, List.getD, h]
theorem refOf_loop {p : List (List Int)} (hp : ∀ b ∈ p, IsBytes b ∧ b.length ≤ 1048576) (hn : p.length ≤ 1048576) (d : Nat) : ∀ (k i : Nat), p.length - i = d → i ≤ p.length → d + 1048577 < k →
    stockyardref25_Of.l0 k p (i : Int) (tot (p.take i)) (ids (p.take i)) = some (tot p, ids p) := by
  induction d with
  | zero =>
    intro k i hd hi hk
    obtain ⟨k, rfl⟩ : ∃ m, k = m + 1 := ⟨k - 1, by omega⟩
    simp only [stockyardref25_Of.l0]
    rw [if_neg (by omega), List.take_of_length_le (by omega)]
  | succ d ih =>
    intro k i hd hi hk
    obtain ⟨k, rfl⟩ : ∃ m, k = m + 1 := ⟨k - 1, by omega⟩
    have hlt : i < p.length := by omega
    have hb := hp p[i] (List.getElem_mem hlt)
    have hfl := flatten_le (p := p.take i) (m := 1048576) (fun b hb => (hp b (List.mem_of_mem_take hb)).2)
    have hle : (p.take i).length ≤ 1048576 := by rw [List.length_take]; omega
    have ht : tot (p.take i) ≤ 1099511627776 := by
      unfold tot
      have : 1048576 * (p.take i).length ≤ 1048576 * 1048576 := Nat.mul_le_mul_left _ hle
      omega
    have ht0 : 0 ≤ tot (p.take i) := by unfold tot; omega
    simp only [stockyardref25_Of.l0]
    rw [if_pos (by omega), if_pos (by omega), rdL_of hlt, Of_is hb.1 (by omega) (by omega), Option.bind_some]
    simp only
    rw [if_pos (by simp [ids]; omega), w64 (by omega) (by omega), w64 (by omega) (by omega), show (i : Int) + 1 = ((i + 1 : Nat) : Int) by omega]
    have e1 : tot (p.take i) + (p[i].length : Int) = tot (p.take (i + 1)) := by
      rw [List.take_succ_eq_append_getElem hlt]
      simp only [tot, List.flatten_append, List.flatten_cons, List.flatten_nil, List.append_nil, List.length_append, Int.natCast_add]
    have e2 : ids (p.take i) ++ [(⟨fp p[i], (p[i].length : Int)⟩ : S51)] = ids (p.take (i + 1)) := by
      rw [List.take_succ_eq_append_getElem hlt]
      simp only [ids, List.map_append, List.map_cons, List.map_nil, idO]
    rw [e1, e2]
    exact ih k (i + 1) (by omega) (by omega) (by omega)
theorem refOf_is {p : List (List Int)} (hp : ∀ b ∈ p, IsBytes b ∧ b.length ≤ 1048576) (hn : p.length ≤ 1048576) {k : Nat} (hk : p.length + 1048577 < k) : stockyardref25_Of.f k p = some (tot p, ids p) := by
  have := refOf_loop hp hn p.length k 0 (by omega) (by omega) hk
  unfold stockyardref25_Of.f
  simpa [tot, ids] using this
/-! ### Check -/
def okID (x : S51) : Prop := vld x.f0 x.f1 = true ∧ 1 ≤ x.f1 ∧ x.f1 ≤ 8192
instance (x : S51) : Decidable (okID x) := inferInstanceAs (Decidable (_ ∧ _ ∧ _))
def chk (size : Int) : List S51 → Int → Int
  | [], s => if size = s then (if s > 1048576 then 252 else 0) else 252
  | x :: r, s => if okID x then chk size r (s + x.f1) else 250
def checkS (size : Int) (ch : List S51) : Int := if (ch.length : Int) > 1024 then 251 else chk size ch 0
theorem drop51 {l : List S51} {j : Nat} (h : j < l.length) : l.drop j = rd_T51 l (j : Int) :: l.drop (j + 1) := by
  rw [List.drop_eq_getElem_cons h]
  simp [rd_T51, List.getD_eq_getElem?_getD, h]
theorem check_loop {size : Int} {ch : List S51} (hn : ch.length ≤ 1024) (d : Nat) : ∀ (k i : Nat) (s : Int), ch.length - i = d → i ≤ ch.length → d < k → 0 ≤ s → s ≤ 8192 * i →
    manifest_Check.l0 k s ch (ch.length : Int) (i : Int) size ch = some (chk size (ch.drop i) s) := by
  induction d with
  | zero =>
    intro k i s hd hi hk h0 h1
    obtain ⟨k, rfl⟩ : ∃ m, k = m + 1 := ⟨k - 1, by omega⟩
    simp only [manifest_Check.l0]
    rw [if_neg (by omega), List.drop_eq_nil_of_le (by omega)]
    unfold chk
    split <;> (try split) <;> rfl
  | succ d ih =>
    intro k i s hd hi hk h0 h1
    obtain ⟨k, rfl⟩ : ∃ m, k = m + 1 := ⟨k - 1, by omega⟩
    simp only [manifest_Check.l0]
    rw [if_pos (by omega), if_pos (by omega), if_pos (by omega), valid_is, Option.bind_some, drop51 (by omega)]
    unfold chk
    generalize rd_T51 ch (i : Int) = x
    by_cases hv : vld x.f0 x.f1 = true
    · rw [if_pos hv]
      by_cases h2 : x.f1 < 1
      · rw [if_pos h2, if_neg (fun h => by have := h.2.1; omega)]
      · rw [if_neg h2]
        by_cases h3 : x.f1 > 8192
        · rw [if_pos h3, if_neg (fun h => by have := h.2.2; omega)]
        · rw [if_neg h3, if_pos ⟨hv, by omega, by omega⟩, w64 (by omega) (by omega), w64 (by omega) (by omega), show (i : Int) + 1 = ((i + 1 : Nat) : Int) by omega]
          exact ih k (i + 1) _ (by omega) (by omega) (by omega) (by omega) (by omega)
    · rw [if_neg hv, if_neg (fun h => hv h.1)]
theorem check_is {size : Int} {ch : List S51} {k : Nat} (hk : ch.length < k) : manifest_Check.f k size ch = some (checkS size ch) := by
  unfold manifest_Check.f checkS
  by_cases h : (ch.length : Int) > 1024
  · rw [if_pos h, if_pos h]
  · rw [if_neg h, if_neg h]
    exact check_loop (by omega) ch.length k 0 0 (by omega) (by omega) hk (by omega) (by omega)
/-- What a valid manifest is. -/
def sizes (ch : List S51) : Int := (ch.map (·.f1)).sum
theorem chk_zero {size : Int} : ∀ {ch : List S51} {s : Int}, chk size ch s = 0 ↔ (∀ x ∈ ch, okID x) ∧ size = s + sizes ch ∧ size ≤ 1048576
  | [], s => by
    unfold chk sizes
    simp only [List.not_mem_nil, false_implies, implies_true, true_and, List.map_nil, List.sum_nil, Int.add_zero]
    by_cases h : size = s
    · rw [if_pos h]
      by_cases h2 : s > 1048576
      · rw [if_pos h2]; omega
      · rw [if_neg h2]; omega
    · rw [if_neg h]; omega
  | x :: r, s => by
    unfold chk
    by_cases h : okID x
    · rw [if_pos h, chk_zero]
      simp only [List.mem_cons, forall_eq_or_imp, h, true_and, sizes, List.map_cons, List.sum_cons]
      constructor <;> rintro ⟨h1, h2, h3⟩ <;> exact ⟨h1, by omega, h3⟩
    · rw [if_neg h]
      refine ⟨fun he => absurd he (by decide), fun he => absurd (he.1 x (List.mem_cons_self ..)) h⟩
theorem checkS_zero {size : Int} {ch : List S51} (h : checkS size ch = 0) : ch.length ≤ 1024 ∧ (∀ x ∈ ch, okID x) ∧ size = sizes ch ∧ size ≤ 1048576 := by
  unfold checkS at h
  by_cases hn : (ch.length : Int) > 1024
  · rw [if_pos hn] at h; omega
  · rw [if_neg hn, chk_zero] at h
    exact ⟨by omega, h.1, by omega, h.2.2⟩
theorem checkS_of {size : Int} {ch : List S51} (hn : ch.length ≤ 1024) (h1 : ∀ x ∈ ch, okID x) (h2 : size = sizes ch) (h3 : size ≤ 1048576) : checkS size ch = 0 := by
  unfold checkS
  rw [if_neg (by omega), chk_zero]
  exact ⟨h1, by omega, h3⟩
theorem sizes_ids (p : List (List Int)) : sizes (ids p) = tot p := by
  induction p with
  | nil => rfl
  | cons b p ih =>
    rw [tot_cons, ← ih]
    simp [sizes, ids, idO]
theorem vld_of {b : List Int} (h : b.length ≤ 1048576) : vld (fp b) (b.length : Int) = true := by
  rw [vld_iff]
  have := fp_range b
  refine ⟨by omega, by omega, this.2, ?_⟩
  rcases Nat.eq_zero_or_pos b.length with h0 | h0
  · right
    rw [List.eq_nil_of_length_eq_zero h0]
    rfl
  · left; omega
theorem okID_idO {b : List Int} (h1 : 1 ≤ b.length) (h2 : b.length ≤ 8192) : okID (idO b) := ⟨vld_of (by omega), by simp [idO]; omega, by simp [idO]; omega⟩
theorem Ok.check {p : List (List Int)} (h : Ok p) : checkS (tot p) (ids p) = 0 := by
  refine checkS_of (by simp [ids]; exact h.2.1) (fun x hx => ?_) (sizes_ids p).symm (by unfold tot; have := h.2.2; omega)
  obtain ⟨b, hb, rfl⟩ := List.mem_map.1 hx
  exact okID_idO (h.1 b hb).2.1 (h.1 b hb).2.2
/-! ### Slice -/
def slc (a b : Int) : List S51 → Int → Int → List S48
  | [], _, _ => []
  | x :: r, i, s => if mx (a - s) 0 < mn (b - s) x.f1 then ⟨i, mx (a - s) 0, mn (b - s) x.f1⟩ :: slc a b r (i + 1) (s + x.f1) else slc a b r (i + 1) (s + x.f1)
def sliceS (size : Int) (ch : List S51) (a b : Int) : List S48 × Int := if checkS size ch = 0 then (if a < 0 ∨ a > b ∨ b > size then ([], 253) else (slc a b ch 0 0, 0)) else ([], checkS size ch)
theorem slc_length (a b : Int) : ∀ (r : List S51) (i s : Int), (slc a b r i s).length ≤ r.length
  | [], _, _ => Nat.le_refl _
  | x :: r, i, s => by
    unfold slc
    have := slc_length a b r (i + 1) (s + x.f1)
    split <;> simp <;> omega
theorem slice_loop {ch : List S51} {a b : Int} (hn : ch.length ≤ 1024) (hok : ∀ x ∈ ch, okID x) (ha : 0 ≤ a ∧ a ≤ 1048576) (hb : 0 ≤ b ∧ b ≤ 1048576) (d : Nat) : ∀ (k i : Nat) (s : Int) (out : List S48), ch.length - i = d → i ≤ ch.length → d < k → 0 ≤ s → s ≤ 8192 * i → out.length ≤ i →
    manifest_Slice.l0 k a b out s ch (ch.length : Int) (i : Int) = some (out ++ slc a b (ch.drop i) i s, 0) := by
  induction d with
  | zero =>
    intro k i s out hd hi hk h0 h1 ho
    obtain ⟨k, rfl⟩ : ∃ m, k = m + 1 := ⟨k - 1, by omega⟩
    simp only [manifest_Slice.l0]
    rw [if_neg (by omega), List.drop_eq_nil_of_le (by omega)]
    simp [slc]
  | succ d ih =>
    intro k i s out hd hi hk h0 h1 ho
    obtain ⟨k, rfl⟩ : ∃ m, k = m + 1 := ⟨k - 1, by omega⟩
    have hx : okID (rd_T51 ch (i : Int)) := hok _ (by simp [rd_T51, List.getD_eq_getElem?_getD, show i < ch.length by omega])
    simp only [manifest_Slice.l0]
    rw [if_pos (by omega), if_pos (by omega), if_pos (by omega), drop51 (by omega)]
    generalize rd_T51 ch (i : Int) = x at *
    obtain ⟨_, hx1, hx2⟩ := hx
    unfold slc
    rw [w64 (x := a - s) (by omega) (by omega), w64 (x := b - s) (by omega) (by omega), w64 (x := s + x.f1) (by omega) (by omega), w64 (x := (i : Int) + 1) (by omega) (by omega), show (i : Int) + 1 = ((i + 1 : Nat) : Int) by omega]
    by_cases hc : mx (a - s) 0 < mn (b - s) x.f1
    · rw [if_pos hc, if_pos hc, if_pos (by omega), ih k (i + 1) _ _ (by omega) (by omega) (by omega) (by omega) (by omega) (by simp; omega)]
      simp
    · rw [if_neg hc, if_neg hc, ih k (i + 1) _ _ (by omega) (by omega) (by omega) (by omega) (by omega) (by omega)]
theorem slice_is {size a b : Int} {ch : List S51} {k : Nat} (hk : ch.length + 1 < k) : manifest_Slice.f k size ch a b = some (sliceS size ch a b) := by
  unfold manifest_Slice.f sliceS
  rw [check_is (by omega), Option.bind_some]
  obtain ⟨k, rfl⟩ : ∃ m, k = m + 1 := ⟨k - 1, by omega⟩
  by_cases he : checkS size ch = 0
  · obtain ⟨g1, g2, g3, g4⟩ := checkS_zero he
    rw [if_pos he, if_pos he]
    by_cases h1 : a < 0
    · rw [if_pos h1, if_pos (.inl h1)]
      simp [manifest_Slice.j0]
    · rw [if_neg h1]
      by_cases h2 : a > b
      · rw [if_pos h2, if_pos (.inr (.inl h2))]
        simp [manifest_Slice.j0]
      · rw [if_neg h2]
        simp only [manifest_Slice.j0]
        by_cases h3 : b > size
        · rw [if_pos (by simpa using h3), if_pos (.inr (.inr h3))]
        · rw [if_neg (by simpa using h3), if_neg (by omega)]
          have := slice_loop (a := a) (b := b) g1 g2 (by omega) (by omega) ch.length k 0 0 [] (by omega) (by omega) (by omega) (by omega) (by omega) (by simp)
          simpa using this
  · rw [if_neg he, if_neg he]
end Go.Proofs.Ytleapbbdpediiaa.Mq
