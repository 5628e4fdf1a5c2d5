-- What this claim does not use is left out (shake.py).
import Derived.Test.YtleapbbdpediiaaDs
import Derived.Test.YtleapbbdpediiaaRf
import Derived.Test.YtleapbbdpediiaaPx0
import Derived.Test.YtleapbbdpediiaaPxf55
import Derived.Test.YtleapbbdpediiaaPxf63
import Derived.Test.YtleapbbdpediiaaPxf30
import Derived.Test.YtleapbbdpediiaaPxf45
import Derived.Test.YtleapbbdpediiaaPu
import Derived.Test.YtleapbbdpediiaaPxf18
import Derived.Test.YtleapbbdpediiaaPxf23
import Derived.Test.YtleapbbdpediiaaPxf28
/- What the printed helpers of chapter 25's statements compute: pieces, manifests, Check, Slice, the cuts of a content. -/
namespace Go.Proofs.Ytleapbbdpediiaa.Mq
open Go.RowKit Go.Proofs.Ytleapbbdpediiaa.P Go.Proofs.Ytleapbbdpediiaa.Fp Go.Proofs.Ytleapbbdpediiaa.FM Go.Proofs.Ytleapbbdpediiaa.Mp Go.Proofs.Ytleapbbdpediiaa.Mf Go.Proofs.Ytleapbbdpediiaa.Rg Go.Proofs.YtleapbbdpediiaaW.PrintWords Go.Proofs.YtleapbbdpediiaaW.PrintLast Go.Proofs.YtleapbbdpediiaaW.PrintMore
set_option linter.unusedVariables false
set_option linter.unusedSimpArgs false
/-- A list of Go's ints. -/
def Wf (l : List Int) : Prop := (∀ x ∈ l, -9223372036854775808 ≤ x ∧ x ≤ 9223372036854775807) ∧ l.length ≤ 17592186044416
theorem Wf.of {l : List Int} (h : l.length * 8 ≤ 140737488351232) (hw : ∀ x ∈ l, (Lit.int .i64 x).wf = true) : Wf l := ⟨fun x hx => wf_i64 (hw x hx), by omega⟩
theorem w64 {x : Int} (h0 : -9223372036854775808 ≤ x) (h1 : x ≤ 9223372036854775807) : wrap64 x = x := by unfold wrap64; omega
theorem shl_one {j : Int} (h0 : 0 ≤ j) (h1 : j < 5) : IntKind.u64.wrap (shl .u64 1 j - 1) = 2 ^ j.toNat - 1 := by
  have : j = 0 ∨ j = 1 ∨ j = 2 ∨ j = 3 ∨ j = 4 := by omega
  rcases this with rfl | rfl | rfl | rfl | rfl <;> decide
section
variable {l : List Int} (hl : Wf l)
include hl
theorem next_is {a n : Int} (ha : 0 ≤ a) (hb : a ≤ 1000000000000) (hn : n ≤ 9223372036854775807) : ∃ r, stockyardmake_Tape_Next.f l a n = some (r, a + 1) ∧ 0 ≤ r ∧ (1 ≤ n → r < n) := by
  unfold stockyardmake_Tape_Next.f
  have hr : ∀ v : Int, 0 ≤ foldS v n ∧ (1 ≤ n → foldS v n < n) := fun v => by
    by_cases h : 1 ≤ n
    · exact ⟨(foldS_range h).1, fun _ => (foldS_range h).2⟩
    · refine ⟨?_, fun h' => absurd h' h⟩
      unfold foldS
      rw [if_pos (by omega)]
      omega
  by_cases hc : a < (l.length : Int)
  · rw [if_pos hc, if_pos ha, fold_is (hl.1 _ (rd_mem ha hc)) hn, Option.bind_some, w64 (by omega) (by omega)]
    exact ⟨_, rfl, (hr _).1, (hr _).2⟩
  · rw [if_neg hc, w64 (x := a * 7) (by omega) (by omega), w64 (x := a + 1) (by omega) (by omega), fold_is (by rw [Int.tmod_eq_emod_of_nonneg (by omega)]; omega) hn, Option.bind_some]
    exact ⟨_, rfl, (hr _).1, (hr _).2⟩
theorem bytes_loop {n : Nat} {m : Int} (hm0 : 1 ≤ m) (hm : m ≤ 256) (hn : n ≤ 1000000) (d : Nat) : ∀ (k : Nat) (x : List Int) (i : Nat) (a : Int), i ≤ n → n - i = d → d < k → x.length ≤ i → 0 ≤ a → a + d ≤ 1000000000000 →
    ∃ bs, stockyardmake_Tape_Bytes.l0 k (n : Int) m x (i : Int) l a = some (x ++ bs, a + d) ∧ bs.length = d ∧ IsBytes bs := by
  induction d with
  | zero =>
    intro k x i a hi hd hk hx ha hb
    obtain ⟨k, rfl⟩ : ∃ m, k = m + 1 := ⟨k - 1, by omega⟩
    refine ⟨[], ?_, rfl, fun y hy => by cases hy⟩
    simp only [stockyardmake_Tape_Bytes.l0]
    rw [if_neg (by omega)]
    simp
  | succ d ih =>
    intro k x i a hi hd hk hx ha hb
    obtain ⟨k, rfl⟩ : ∃ m, k = m + 1 := ⟨k - 1, by omega⟩
    obtain ⟨r, hr, r0, r1⟩ := next_is hl (a := a) (n := m) ha (by omega) (by omega)
    have hr1 := r1 hm0
    obtain ⟨bs, h1, h2, h3⟩ := ih k (x ++ [r % 256]) (i + 1) (a + 1) (by omega) (by omega) (by omega) (by simp; omega) (by omega) (by omega)
    refine ⟨r % 256 :: bs, ?_, by simp [h2], ?_⟩
    · simp only [stockyardmake_Tape_Bytes.l0]
      rw [if_pos (by omega), hr, Option.bind_some, if_pos (by omega), show wrap64 ((i : Int) + 1) = ((i + 1 : Nat) : Int) by unfold wrap64; omega]
      show stockyardmake_Tape_Bytes.l0 k n m (x ++ [r % 256]) ((i + 1 : Nat) : Int) l (a + 1) = _
      rw [h1, List.append_assoc]
      simp only [Option.some.injEq, Prod.mk.injEq]
      exact ⟨rfl, by omega⟩
    · intro y hy
      rcases List.mem_cons.1 hy with rfl | hy
      · omega
      · exact h3 y hy
theorem bytes_is {n : Nat} {m a : Int} (hm0 : 1 ≤ m) (hm : m ≤ 256) (hn : n ≤ 1000000) (ha : 0 ≤ a) (hb : a ≤ 900000000000) {k : Nat} (hk : n < k) : ∃ bs, stockyardmake_Tape_Bytes.f k l a (n : Int) m = some (bs, a + n) ∧ bs.length = n ∧ IsBytes bs := by
  obtain ⟨bs, h1, h2, h3⟩ := bytes_loop hl hm0 hm hn n k [] 0 a (by omega) (by omega) hk (by simp) ha (by omega)
  have e : mx (n : Int) 0 = n := by unfold mx; split <;> omega
  refine ⟨bs, ?_, h2, h3⟩
  unfold stockyardmake_Tape_Bytes.f
  rw [e, if_pos (by omega), if_pos (by omega)]
  simpa using h1
end
/-- The ID of a byte string; of a content: its size and its IDs. -/
def idO (b : List Int) : S51 := ⟨fp b, (b.length : Int)⟩
def ids (p : List (List Int)) : List S51 := p.map idO
def tot (p : List (List Int)) : Int := (p.flatten.length : Int)
/-- Byte strings that can be chunks. -/
def Ok (p : List (List Int)) : Prop := (∀ b ∈ p, IsBytes b ∧ 1 ≤ b.length ∧ b.length ≤ 8192) ∧ p.length ≤ 1024 ∧ p.flatten.length ≤ 1048576
theorem flatten_le {p : List (List Int)} {m : Nat} (h : ∀ b ∈ p, b.length ≤ m) : p.flatten.length ≤ m * p.length := by
  induction p with
  | nil => simp
  | cons b p ih =>
    have h1 := h b (List.mem_cons_self ..)
    have h2 := ih (fun c hc => h c (List.mem_cons_of_mem _ hc))
    rw [List.flatten_cons, List.length_append, List.length_cons, Nat.mul_succ]
    omega
theorem rdL_of {p : List (List Int)} {i : Nat} (h : i < p.length) : rd_L2 p (i : Int) = p[i] := by simp [rd_L2, List.getD, h]
theorem refOf_loop {p : List (List Int)} (hp : ∀ b ∈ p, IsBytes b ∧ b.length ≤ 1048576) (hn : p.length ≤ 1048576) (d : Nat) : ∀ (k i : Nat), p.length - i = d → i ≤ p.length → d + 1048577 < k →
    stockyardref25_Of.l0 k p (i : Int) (tot (p.take i)) (ids (p.take i)) = some (tot p, ids p) := by
  induction d with
  | zero =>
    intro k i hd hi hk
    obtain ⟨k, rfl⟩ : ∃ m, k = m + 1 := ⟨k - 1, by omega⟩
    simp only [stockyardref25_Of.l0]
    rw [if_neg (by omega), List.take_of_length_le (by omega)]
  | succ d ih =>
    intro k i hd hi hk
    obtain ⟨k, rfl⟩ : ∃ m, k = m + 1 := ⟨k - 1, by omega⟩
    have hlt : i < p.length := by omega
    have hb := hp p[i] (List.getElem_mem hlt)
    have hfl := flatten_le (p := p.take i) (m := 1048576) (fun b hb => (hp b (List.mem_of_mem_take hb)).2)
    have hle : (p.take i).length ≤ 1048576 := by rw [List.length_take]; omega
    have ht : tot (p.take i) ≤ 1099511627776 := by
      unfold tot
      have : 1048576 * (p.take i).length ≤ 1048576 * 1048576 := Nat.mul_le_mul_left _ hle
      omega
    have ht0 : 0 ≤ tot (p.take i) := by unfold tot; omega
    simp only [stockyardref25_Of.l0]
    rw [if_pos (by omega), if_pos (by omega), rdL_of hlt, Of_is hb.1 (by omega) (by omega), Option.bind_some]
    simp only
    rw [if_pos (by simp [ids]; omega), w64 (by omega) (by omega), w64 (by omega) (by omega), show (i : Int) + 1 = ((i + 1 : Nat) : Int) by omega]
    have e1 : tot (p.take i) + (p[i].length : Int) = tot (p.take (i + 1)) := by
      rw [List.take_succ_eq_append_getElem hlt]
      simp only [tot, List.flatten_append, List.flatten_cons, List.flatten_nil, List.append_nil, List.length_append, Int.natCast_add]
    have e2 : ids (p.take i) ++ [(⟨fp p[i], (p[i].length : Int)⟩ : S51)] = ids (p.take (i + 1)) := by
      rw [List.take_succ_eq_append_getElem hlt]
      simp only [ids, List.map_append, List.map_cons, List.map_nil, idO]
    rw [e1, e2]
    exact ih k (i + 1) (by omega) (by omega) (by omega)
theorem refOf_is {p : List (List Int)} (hp : ∀ b ∈ p, IsBytes b ∧ b.length ≤ 1048576) (hn : p.length ≤ 1048576) {k : Nat} (hk : p.length + 1048577 < k) : stockyardref25_Of.f k p = some (tot p, ids p) := by
  have := refOf_loop hp hn p.length k 0 (by omega) (by omega) hk
  unfold stockyardref25_Of.f
  simpa [tot, ids] using this
/-! ### Check -/
def okID (x : S51) : Prop := vld x.f0 x.f1 = true ∧ 1 ≤ x.f1 ∧ x.f1 ≤ 8192
instance (x : S51) : Decidable (okID x) := inferInstanceAs (Decidable (_ ∧ _ ∧ _))
def chk (size : Int) : List S51 → Int → Int
  | [], s => if size = s then (if s > 1048576 then 252 else 0) else 252
  | x :: r, s => if okID x then chk size r (s + x.f1) else 250
def checkS (size : Int) (ch : List S51) : Int := if (ch.length : Int) > 1024 then 251 else chk size ch 0
theorem drop51 {l : List S51} {j : Nat} (h : j < l.length) : l.drop j = rd_T51 l (j : Int) :: l.drop (j + 1) := by
  rw [List.drop_eq_getElem_cons h]
  simp [rd_T51, List.getD_eq_getElem?_getD, h]
theorem check_loop {size : Int} {ch : List S51} (hn : ch.length ≤ 1024) (d : Nat) : ∀ (k i : Nat) (s : Int), ch.length - i = d → i ≤ ch.length → d < k → 0 ≤ s → s ≤ 8192 * i →
    manifest_Check.l0 k s ch (ch.length : Int) (i : Int) size ch = some (chk size (ch.drop i) s) := by
  induction d with
  | zero =>
    intro k i s hd hi hk h0 h1
    obtain ⟨k, rfl⟩ : ∃ m, k = m + 1 := ⟨k - 1, by omega⟩
    simp only [manifest_Check.l0]
    rw [if_neg (by omega), List.drop_eq_nil_of_le (by omega)]
    unfold chk
    split <;> (try split) <;> rfl
  | succ d ih =>
    intro k i s hd hi hk h0 h1
    obtain ⟨k, rfl⟩ : ∃ m, k = m + 1 := ⟨k - 1, by omega⟩
    simp only [manifest_Check.l0]
    rw [if_pos (by omega), if_pos (by omega), if_pos (by omega), valid_is, Option.bind_some, drop51 (by omega)]
    unfold chk
    generalize rd_T51 ch (i : Int) = x
    by_cases hv : vld x.f0 x.f1 = true
    · rw [if_pos hv]
      by_cases h2 : x.f1 < 1
      · rw [if_pos h2, if_neg (fun h => by have := h.2.1; omega)]
      · rw [if_neg h2]
        by_cases h3 : x.f1 > 8192
        · rw [if_pos h3, if_neg (fun h => by have := h.2.2; omega)]
        · rw [if_neg h3, if_pos ⟨hv, by omega, by omega⟩, w64 (by omega) (by omega), w64 (by omega) (by omega), show (i : Int) + 1 = ((i + 1 : Nat) : Int) by omega]
          exact ih k (i + 1) _ (by omega) (by omega) (by omega) (by omega) (by omega)
    · rw [if_neg hv, if_neg (fun h => hv h.1)]
theorem check_is {size : Int} {ch : List S51} {k : Nat} (hk : ch.length < k) : manifest_Check.f k size ch = some (checkS size ch) := by
  unfold manifest_Check.f checkS
  by_cases h : (ch.length : Int) > 1024
  · rw [if_pos h, if_pos h]
  · rw [if_neg h, if_neg h]
    exact check_loop (by omega) ch.length k 0 0 (by omega) (by omega) hk (by omega) (by omega)
/-! ### Slice -/
end Go.Proofs.Ytleapbbdpediiaa.Mq
/- Locate, known and the bytes of a content, plainly. -/
namespace Go.Proofs.Ytleapbbdpediiaa.Mr
open Go.RowKit Go.Proofs.Ytleapbbdpediiaa.P Go.Proofs.Ytleapbbdpediiaa.Fp Go.Proofs.Ytleapbbdpediiaa.FM Go.Proofs.Ytleapbbdpediiaa.Mp Go.Proofs.Ytleapbbdpediiaa.Mf Go.Proofs.Ytleapbbdpediiaa.Rg Go.Proofs.Ytleapbbdpediiaa.Mq Go.Proofs.YtleapbbdpediiaaW.PrintWords Go.Proofs.YtleapbbdpediiaaW.PrintLast Go.Proofs.YtleapbbdpediiaaW.PrintMore
set_option linter.unusedVariables false
set_option linter.unusedSimpArgs false
theorem known_100 : stockyardlaw25_known.f 100 = some true := by decide +kernel
theorem known_is {k : Nat} (hk : 100 ≤ k) : stockyardlaw25_known.f k = some true := by
  obtain ⟨d, rfl⟩ := Nat.exists_eq_add_of_le hk
  induction d with
  | zero => exact known_100
  | succ d ih => exact stockyardlaw25_known.mono (100 + d) _ (ih (by omega))
theorem ids_len (p : List (List Int)) : (ids p).length = p.length := by simp [ids]
end Go.Proofs.Ytleapbbdpediiaa.Mr
