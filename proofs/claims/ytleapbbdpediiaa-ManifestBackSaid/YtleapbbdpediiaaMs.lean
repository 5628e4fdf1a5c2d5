-- What this claim does not use is left out (shake.py).
import Derived.Test.YtleapbbdpediiaaDs
import Derived.Test.YtleapbbdpediiaaRf
import Derived.Test.YtleapbbdpediiaaPx0
import Derived.Test.YtleapbbdpediiaaPxf55
import Derived.Test.YtleapbbdpediiaaPxf63
import Derived.Test.YtleapbbdpediiaaPxf30
import Derived.Test.YtleapbbdpediiaaPxf45
import Derived.Test.YtleapbbdpediiaaPu
import Derived.Test.YtleapbbdpediiaaPxf18
import Derived.Test.YtleapbbdpediiaaPxf23
import Derived.Test.YtleapbbdpediiaaPxe51
import Derived.Test.YtleapbbdpediiaaPxf21
/- What the printed helpers of chapter 25's statements compute: pieces, manifests, Check, Slice, the cuts of a content. -/
namespace Go.Proofs.Ytleapbbdpediiaa.Mq
open Go.RowKit Go.Proofs.Ytleapbbdpediiaa.P Go.Proofs.Ytleapbbdpediiaa.Fp Go.Proofs.Ytleapbbdpediiaa.FM Go.Proofs.Ytleapbbdpediiaa.Mp Go.Proofs.Ytleapbbdpediiaa.Mf Go.Proofs.Ytleapbbdpediiaa.Rg Go.Proofs.YtleapbbdpediiaaW.PrintWords Go.Proofs.YtleapbbdpediiaaW.PrintLast Go.Proofs.YtleapbbdpediiaaW.PrintMore
set_option linter.unusedVariables false
set_option linter.unusedSimpArgs false
/-- A list of Go's ints. -/
def Wf (l : List Int) : Prop := (∀ x ∈ l, -9223372036854775808 ≤ x ∧ x ≤ 9223372036854775807) ∧ l.length ≤ 17592186044416
theorem Wf.of {l : List Int} (h : l.length * 8 ≤ 140737488351232) (hw : ∀ x ∈ l, (Lit.int .i64 x).wf = true) : Wf l := ⟨fun x hx => wf_i64 (hw x hx), by omega⟩
theorem w64 {x : Int} (h0 : -9223372036854775808 ≤ x) (h1 : x ≤ 9223372036854775807) : wrap64 x = x := by unfold wrap64; omega
theorem shl_one {j : Int} (h0 : 0 ≤ j) (h1 : j < 5) : IntKind.u64.wrap (shl .u64 1 j - 1) = 2 ^ j.toNat - 1 := by
  have : j = 0 ∨ j = 1 ∨ j = 2 ∨ j = 3 ∨ j = 4 := by omega
  rcases this with rfl | rfl | rfl | rfl | rfl <;> decide
section
variable {l : List Int} (hl : Wf l)
include hl
theorem next_is {a n : Int} (ha : 0 ≤ a) (hb : a ≤ 1000000000000) (hn : n ≤ 9223372036854775807) : ∃ r, stockyardmake_Tape_Next.f l a n = some (r, a + 1) ∧ 0 ≤ r ∧ (1 ≤ n → r < n) := by
  unfold stockyardmake_Tape_Next.f
  have hr : ∀ v : Int, 0 ≤ foldS v n ∧ (1 ≤ n → foldS v n < n) := fun v => by
    by_cases h : 1 ≤ n
    · exact ⟨(foldS_range h).1, fun _ => (foldS_range h).2⟩
    · refine ⟨?_, fun h' => absurd h' h⟩
      unfold foldS
      rw [if_pos (by omega)]
      omega
  by_cases hc : a < (l.length : Int)
  · rw [if_pos hc, if_pos ha, fold_is (hl.1 _ (rd_mem ha hc)) hn, Option.bind_some, w64 (by omega) (by omega)]
    exact ⟨_, rfl, (hr _).1, (hr _).2⟩
  · rw [if_neg hc, w64 (x := a * 7) (by omega) (by omega), w64 (x := a + 1) (by omega) (by omega), fold_is (by rw [Int.tmod_eq_emod_of_nonneg (by omega)]; omega) hn, Option.bind_some]
    exact ⟨_, rfl, (hr _).1, (hr _).2⟩
theorem bytes_loop {n : Nat} {m : Int} (hm0 : 1 ≤ m) (hm : m ≤ 256) (hn : n ≤ 1000000) (d : Nat) : ∀ (k : Nat) (x : List Int) (i : Nat) (a : Int), i ≤ n → n - i = d → d < k → x.length ≤ i → 0 ≤ a → a + d ≤ 1000000000000 →
    ∃ bs, stockyardmake_Tape_Bytes.l0 k (n : Int) m x (i : Int) l a = some (x ++ bs, a + d) ∧ bs.length = d ∧ IsBytes bs := by
  induction d with
  | zero =>
    intro k x i a hi hd hk hx ha hb
    obtain ⟨k, rfl⟩ : ∃ m, k = m + 1 := ⟨k - 1, by omega⟩
    refine ⟨[], ?_, rfl, fun y hy => by cases hy⟩
    simp only [stockyardmake_Tape_Bytes.l0]
    rw [if_neg (by omega)]
    simp
  | succ d ih =>
    intro k x i a hi hd hk hx ha hb
    obtain ⟨k, rfl⟩ : ∃ m, k = m + 1 := ⟨k - 1, by omega⟩
    obtain ⟨r, hr, r0, r1⟩ := next_is hl (a := a) (n := m) ha (by omega) (by omega)
    have hr1 := r1 hm0
    obtain ⟨bs, h1, h2, h3⟩ := ih k (x ++ [r % 256]) (i + 1) (a + 1) (by omega) (by omega) (by omega) (by simp; omega) (by omega) (by omega)
    refine ⟨r % 256 :: bs, ?_, by simp [h2], ?_⟩
    · simp only [stockyardmake_Tape_Bytes.l0]
      rw [if_pos (by omega), hr, Option.bind_some, if_pos (by omega), show wrap64 ((i : Int) + 1) = ((i + 1 : Nat) : Int) by unfold wrap64; omega]
      show stockyardmake_Tape_Bytes.l0 k n m (x ++ [r % 256]) ((i + 1 : Nat) : Int) l (a + 1) = _
      rw [h1, List.append_assoc]
      simp only [Option.some.injEq, Prod.mk.injEq]
      exact ⟨rfl, by omega⟩
    · intro y hy
      rcases List.mem_cons.1 hy with rfl | hy
      · omega
      · exact h3 y hy
theorem bytes_is {n : Nat} {m a : Int} (hm0 : 1 ≤ m) (hm : m ≤ 256) (hn : n ≤ 1000000) (ha : 0 ≤ a) (hb : a ≤ 900000000000) {k : Nat} (hk : n < k) : ∃ bs, stockyardmake_Tape_Bytes.f k l a (n : Int) m = some (bs, a + n) ∧ bs.length = n ∧ IsBytes bs := by
  obtain ⟨bs, h1, h2, h3⟩ := bytes_loop hl hm0 hm hn n k [] 0 a (by omega) (by omega) hk (by simp) ha (by omega)
  have e : mx (n : Int) 0 = n := by unfold mx; split <;> omega
  refine ⟨bs, ?_, h2, h3⟩
  unfold stockyardmake_Tape_Bytes.f
  rw [e, if_pos (by omega), if_pos (by omega)]
  simpa using h1
end
/-- The ID of a byte string; of a content: its size and its IDs. -/
def idO (b : List Int) : S51 := ⟨fp b, (b.length : Int)⟩
def ids (p : List (List Int)) : List S51 := p.map idO
def tot (p : List (List Int)) : Int := (p.flatten.length : Int)
theorem tot_cons (b : List Int) (p : List (List Int)) : tot (b :: p) = (b.length : Int) + tot p := by simp [tot]
/-- Byte strings that can be chunks. -/
def Ok (p : List (List Int)) : Prop := (∀ b ∈ p, IsBytes b ∧ 1 ≤ b.length ∧ b.length ≤ 8192) ∧ p.length ≤ 1024 ∧ p.flatten.length ≤ 1048576
theorem rdL_of {p : List (List Int)} {i : Nat} (h : i < p.length) : rd_L2 p (i : Int) = p[i] := by simp [rd_L2, List.getD, h]
/-! ### Check -/
def okID (x : S51) : Prop := vld x.f0 x.f1 = true ∧ 1 ≤ x.f1 ∧ x.f1 ≤ 8192
instance (x : S51) : Decidable (okID x) := inferInstanceAs (Decidable (_ ∧ _ ∧ _))
def chk (size : Int) : List S51 → Int → Int
  | [], s => if size = s then (if s > 1048576 then 252 else 0) else 252
  | x :: r, s => if okID x then chk size r (s + x.f1) else 250
def checkS (size : Int) (ch : List S51) : Int := if (ch.length : Int) > 1024 then 251 else chk size ch 0
theorem drop51 {l : List S51} {j : Nat} (h : j < l.length) : l.drop j = rd_T51 l (j : Int) :: l.drop (j + 1) := by
  rw [List.drop_eq_getElem_cons h]
  simp [rd_T51, List.getD_eq_getElem?_getD, h]
theorem check_loop {size : Int} {ch : List S51} (hn : ch.length ≤ 1024) (d : Nat) : ∀ (k i : Nat) (s : Int), ch.length - i = d → i ≤ ch.length → d < k → 0 ≤ s → s ≤ 8192 * i →
    manifest_Check.l0 k s ch (ch.length : Int) (i : Int) size ch = some (chk size (ch.drop i) s) := by
  induction d with
  | zero =>
    intro k i s hd hi hk h0 h1
    obtain ⟨k, rfl⟩ : ∃ m, k = m + 1 := ⟨k - 1, by omega⟩
    simp only [manifest_Check.l0]
    rw [if_neg (by omega), List.drop_eq_nil_of_le (by omega)]
    unfold chk
    split <;> (try split) <;> rfl
  | succ d ih =>
    intro k i s hd hi hk h0 h1
    obtain ⟨k, rfl⟩ : ∃ m, k = m + 1 := ⟨k - 1, by omega⟩
    simp only [manifest_Check.l0]
    rw [if_pos (by omega), if_pos (by omega), if_pos (by omega), valid_is, Option.bind_some, drop51 (by omega)]
    unfold chk
    generalize rd_T51 ch (i : Int) = x
    by_cases hv : vld x.f0 x.f1 = true
    · rw [if_pos hv]
      by_cases h2 : x.f1 < 1
      · rw [if_pos h2, if_neg (fun h => by have := h.2.1; omega)]
      · rw [if_neg h2]
        by_cases h3 : x.f1 > 8192
        · rw [if_pos h3, if_neg (fun h => by have := h.2.2; omega)]
        · rw [if_neg h3, if_pos ⟨hv, by omega, by omega⟩, w64 (by omega) (by omega), w64 (by omega) (by omega), show (i : Int) + 1 = ((i + 1 : Nat) : Int) by omega]
          exact ih k (i + 1) _ (by omega) (by omega) (by omega) (by omega) (by omega)
    · rw [if_neg hv, if_neg (fun h => hv h.1)]
theorem check_is {size : Int} {ch : List S51} {k : Nat} (hk : ch.length < k) : manifest_Check.f k size ch = some (checkS size ch) := by
  unfold manifest_Check.f checkS
  by_cases h : (ch.length : Int) > 1024
  · rw [if_pos h, if_pos h]
  · rw [if_neg h, if_neg h]
    exact check_loop (by omega) ch.length k 0 0 (by omega) (by omega) hk (by omega) (by omega)
/-- What a valid manifest is. -/
def sizes (ch : List S51) : Int := (ch.map (·.f1)).sum
theorem chk_zero {size : Int} : ∀ {ch : List S51} {s : Int}, chk size ch s = 0 ↔ (∀ x ∈ ch, okID x) ∧ size = s + sizes ch ∧ size ≤ 1048576
  | [], s => by
    unfold chk sizes
    simp only [List.not_mem_nil, false_implies, implies_true, true_and, List.map_nil, List.sum_nil, Int.add_zero]
    by_cases h : size = s
    · rw [if_pos h]
      by_cases h2 : s > 1048576
      · rw [if_pos h2]; omega
      · rw [if_neg h2]; omega
    · rw [if_neg h]; omega
  | x :: r, s => by
    unfold chk
    by_cases h : okID x
    · rw [if_pos h, chk_zero]
      simp only [List.mem_cons, forall_eq_or_imp, h, true_and, sizes, List.map_cons, List.sum_cons]
      constructor <;> rintro ⟨h1, h2, h3⟩ <;> exact ⟨h1, by omega, h3⟩
    · rw [if_neg h]
      refine ⟨fun he => absurd he (by decide), fun he => absurd (he.1 x (List.mem_cons_self ..)) h⟩
theorem checkS_zero {size : Int} {ch : List S51} (h : checkS size ch = 0) : ch.length ≤ 1024 ∧ (∀ x ∈ ch, okID x) ∧ size = sizes ch ∧ size ≤ 1048576 := by
  unfold checkS at h
  by_cases hn : (ch.length : Int) > 1024
  · rw [if_pos hn] at h; omega
  · rw [if_neg hn, chk_zero] at h
    exact ⟨by omega, h.1, by omega, h.2.2⟩
theorem checkS_of {size : Int} {ch : List S51} (hn : ch.length ≤ 1024) (h1 : ∀ x ∈ ch, okID x) (h2 : size = sizes ch) (h3 : size ≤ 1048576) : checkS size ch = 0 := by
  unfold checkS
  rw [if_neg (by omega), chk_zero]
  exact ⟨h1, by omega, h3⟩
theorem sizes_ids (p : List (List Int)) : sizes (ids p) = tot p := by
  induction p with
  | nil => rfl
  | cons b p ih =>
    rw [tot_cons, ← ih]
    simp [sizes, ids, idO]
theorem vld_of {b : List Int} (h : b.length ≤ 1048576) : vld (fp b) (b.length : Int) = true := by
  rw [vld_iff]
  have := fp_range b
  refine ⟨by omega, by omega, this.2, ?_⟩
  rcases Nat.eq_zero_or_pos b.length with h0 | h0
  · right
    rw [List.eq_nil_of_length_eq_zero h0]
    rfl
  · left; omega
theorem okID_idO {b : List Int} (h1 : 1 ≤ b.length) (h2 : b.length ≤ 8192) : okID (idO b) := ⟨vld_of (by omega), by simp [idO]; omega, by simp [idO]; omega⟩
theorem Ok.check {p : List (List Int)} (h : Ok p) : checkS (tot p) (ids p) = 0 := by
  refine checkS_of (by simp [ids]; exact h.2.1) (fun x hx => ?_) (sizes_ids p).symm (by unfold tot; have := h.2.2; omega)
  obtain ⟨b, hb, rfl⟩ := List.mem_map.1 hx
  exact okID_idO (h.1 b hb).2.1 (h.1 b hb).2.2
/-! ### Slice -/
def slc (a b : Int) : List S51 → Int → Int → List S48
  | [], _, _ => []
  | x :: r, i, s => if mx (a - s) 0 < mn (b - s) x.f1 then ⟨i, mx (a - s) 0, mn (b - s) x.f1⟩ :: slc a b r (i + 1) (s + x.f1) else slc a b r (i + 1) (s + x.f1)
def sliceS (size : Int) (ch : List S51) (a b : Int) : List S48 × Int := if checkS size ch = 0 then (if a < 0 ∨ a > b ∨ b > size then ([], 253) else (slc a b ch 0 0, 0)) else ([], checkS size ch)
theorem slc_length (a b : Int) : ∀ (r : List S51) (i s : Int), (slc a b r i s).length ≤ r.length
  | [], _, _ => Nat.le_refl _
  | x :: r, i, s => by
    unfold slc
    have := slc_length a b r (i + 1) (s + x.f1)
    split <;> simp <;> omega
theorem slice_loop {ch : List S51} {a b : Int} (hn : ch.length ≤ 1024) (hok : ∀ x ∈ ch, okID x) (ha : 0 ≤ a ∧ a ≤ 1048576) (hb : 0 ≤ b ∧ b ≤ 1048576) (d : Nat) : ∀ (k i : Nat) (s : Int) (out : List S48), ch.length - i = d → i ≤ ch.length → d < k → 0 ≤ s → s ≤ 8192 * i → out.length ≤ i →
    manifest_Slice.l0 k a b out s ch (ch.length : Int) (i : Int) = some (out ++ slc a b (ch.drop i) i s, 0) := by
  induction d with
  | zero =>
    intro k i s out hd hi hk h0 h1 ho
    obtain ⟨k, rfl⟩ : ∃ m, k = m + 1 := ⟨k - 1, by omega⟩
    simp only [manifest_Slice.l0]
    rw [if_neg (by omega), List.drop_eq_nil_of_le (by omega)]
    simp [slc]
  | succ d ih =>
    intro k i s out hd hi hk h0 h1 ho
    obtain ⟨k, rfl⟩ : ∃ m, k = m + 1 := ⟨k - 1, by omega⟩
    have hx : okID (rd_T51 ch (i : Int)) := hok _ (by simp [rd_T51, List.getD_eq_getElem?_getD, show i < ch.length by omega])
    simp only [manifest_Slice.l0]
    rw [if_pos (by omega), if_pos (by omega), if_pos (by omega), drop51 (by omega)]
    generalize rd_T51 ch (i : Int) = x at *
    obtain ⟨_, hx1, hx2⟩ := hx
    unfold slc
    rw [w64 (x := a - s) (by omega) (by omega), w64 (x := b - s) (by omega) (by omega), w64 (x := s + x.f1) (by omega) (by omega), w64 (x := (i : Int) + 1) (by omega) (by omega), show (i : Int) + 1 = ((i + 1 : Nat) : Int) by omega]
    by_cases hc : mx (a - s) 0 < mn (b - s) x.f1
    · rw [if_pos hc, if_pos hc, if_pos (by omega), ih k (i + 1) _ _ (by omega) (by omega) (by omega) (by omega) (by omega) (by simp; omega)]
      simp
    · rw [if_neg hc, if_neg hc, ih k (i + 1) _ _ (by omega) (by omega) (by omega) (by omega) (by omega) (by omega)]
theorem slice_is {size a b : Int} {ch : List S51} {k : Nat} (hk : ch.length + 1 < k) : manifest_Slice.f k size ch a b = some (sliceS size ch a b) := by
  unfold manifest_Slice.f sliceS
  rw [check_is (by omega), Option.bind_some]
  obtain ⟨k, rfl⟩ : ∃ m, k = m + 1 := ⟨k - 1, by omega⟩
  by_cases he : checkS size ch = 0
  · obtain ⟨g1, g2, g3, g4⟩ := checkS_zero he
    rw [if_pos he, if_pos he]
    by_cases h1 : a < 0
    · rw [if_pos h1, if_pos (.inl h1)]
      simp [manifest_Slice.j0]
    · rw [if_neg h1]
      by_cases h2 : a > b
      · rw [if_pos h2, if_pos (.inr (.inl h2))]
        simp [manifest_Slice.j0]
      · rw [if_neg h2]
        simp only [manifest_Slice.j0]
        by_cases h3 : b > size
        · rw [if_pos (by simpa using h3), if_pos (.inr (.inr h3))]
        · rw [if_neg (by simpa using h3), if_neg (by omega)]
          have := slice_loop (a := a) (b := b) g1 g2 (by omega) (by omega) ch.length k 0 0 [] (by omega) (by omega) (by omega) (by omega) (by omega) (by simp)
          simpa using this
  · rw [if_neg he, if_neg he]
end Go.Proofs.Ytleapbbdpediiaa.Mq
/- Locate, known and the bytes of a content, plainly. -/
namespace Go.Proofs.Ytleapbbdpediiaa.Mr
open Go.RowKit Go.Proofs.Ytleapbbdpediiaa.P Go.Proofs.Ytleapbbdpediiaa.Fp Go.Proofs.Ytleapbbdpediiaa.FM Go.Proofs.Ytleapbbdpediiaa.Mp Go.Proofs.Ytleapbbdpediiaa.Mf Go.Proofs.Ytleapbbdpediiaa.Rg Go.Proofs.Ytleapbbdpediiaa.Mq Go.Proofs.YtleapbbdpediiaaW.PrintWords Go.Proofs.YtleapbbdpediiaaW.PrintLast Go.Proofs.YtleapbbdpediiaaW.PrintMore
set_option linter.unusedVariables false
set_option linter.unusedSimpArgs false
theorem known_100 : stockyardlaw25_known.f 100 = some true := by decide +kernel
theorem known_is {k : Nat} (hk : 100 ≤ k) : stockyardlaw25_known.f k = some true := by
  obtain ⟨d, rfl⟩ := Nat.exists_eq_add_of_le hk
  induction d with
  | zero => exact known_100
  | succ d ih => exact stockyardlaw25_known.mono (100 + d) _ (ih (by omega))
theorem ids_rd {p : List (List Int)} {i : Nat} (h : i < p.length) : rd_T51 (ids p) (i : Int) = idO p[i] := by simp [rd_T51, ids, List.getD, h]
theorem ids_len (p : List (List Int)) : (ids p).length = p.length := by simp [ids]
theorem tot_take {p : List (List Int)} {i : Nat} (h : i < p.length) : tot (p.take (i + 1)) = tot (p.take i) + (p[i].length : Int) := by
  rw [List.take_succ_eq_append_getElem h]
  simp only [tot, List.flatten_append, List.flatten_cons, List.flatten_nil, List.append_nil, List.length_append, Int.natCast_add]
theorem tot_nn (p : List (List Int)) : 0 ≤ tot p := by unfold tot; omega
theorem tot_take_le (p : List (List Int)) (i : Nat) : tot (p.take i) ≤ tot p := by
  have := flatten_take_le p i
  unfold tot
  omega
end Go.Proofs.Ytleapbbdpediiaa.Mr
/- Range and Assemble over chunks with right IDs, plainly. -/
namespace Go.Proofs.Ytleapbbdpediiaa.Ms
open Go.RowKit Go.Proofs.Ytleapbbdpediiaa.P Go.Proofs.Ytleapbbdpediiaa.Fp Go.Proofs.Ytleapbbdpediiaa.FM Go.Proofs.Ytleapbbdpediiaa.Mp Go.Proofs.Ytleapbbdpediiaa.Mf Go.Proofs.Ytleapbbdpediiaa.Rg Go.Proofs.Ytleapbbdpediiaa.Mq Go.Proofs.Ytleapbbdpediiaa.Mr Go.Proofs.YtleapbbdpediiaaW.PrintWords Go.Proofs.YtleapbbdpediiaaW.PrintLast Go.Proofs.YtleapbbdpediiaaW.PrintMore
set_option linter.unusedVariables false
set_option linter.unusedSimpArgs false
/-- A byte string with its ID. -/
def stk (b : List Int) : S53 := ⟨idO b, b⟩
/-- Equal IDs, equal bytes. -/
def Dist (p : List (List Int)) : Prop := ∀ b ∈ p, ∀ c ∈ p, Rg.ofP b = Rg.ofP c → b = c
theorem dist_of {p : List (List Int)} (h : Ds.distB p = true) : Dist p := by
  rw [Ds.distB_iff] at h
  intro b hb c hc e
  obtain ⟨i, hi, rfl⟩ := List.mem_iff_getElem.1 hb
  obtain ⟨j, hj, rfl⟩ := List.mem_iff_getElem.1 hc
  have e1 : ∀ n (hn : n < p.length), Ds.rdl p n = p[n] := fun n hn => by simp [Ds.rdl, List.getD, hn]
  rcases Nat.lt_trichotomy i j with hl | hl | hl
  · have := h j hj i hl
    rw [e1 _ hi, e1 _ hj] at this
    exact (this e.symm).symm
  · subst hl; rfl
  · have := h i hi j hl
    rw [e1 _ hi, e1 _ hj] at this
    exact this e
theorem fnd_has {p : List (List Int)} (hD : Dist p) {b : List Int} (hb : b ∈ p) : ∀ {l : List S53}, (∀ c ∈ l, ∃ b ∈ p, c = stk b) → stk b ∈ l → ∃ i : Nat, fnd l (Rg.ofP b) = some i ∧ (rd_T53 l (i : Int)).f1 = b
  | [], _, hm => by cases hm
  | c :: r, hl, hm => by
    unfold fnd
    by_cases hc : pr c.f0 = Rg.ofP b
    · obtain ⟨b', hb', rfl⟩ := hl c (List.mem_cons_self ..)
      refine ⟨0, by rw [if_pos hc], ?_⟩
      have := hD b' hb' b hb hc
      subst this
      rfl
    · rw [if_neg hc]
      rcases List.mem_cons.1 hm with he | hm
      · exact absurd (by rw [← he]; rfl) hc
      · obtain ⟨i, hi, he⟩ := fnd_has hD hb (fun c hc => hl c (List.mem_cons_of_mem _ hc)) hm
        refine ⟨i + 1, by rw [hi]; rfl, ?_⟩
        rw [← he]
        simp [rd_T53]
theorem part_nil {x : List Int} {a b s : Int} (h : ¬ mx (a - s) 0 < mn (b - s) (x.length : Int)) : (x.take (b - s).toNat).drop (a - s).toNat = [] := by
  refine List.drop_eq_nil_of_le ?_
  rw [List.length_take]
  unfold mx mn at h
  split at h <;> split at h <;> omega
theorem part_some {x : List Int} {a b s : Int} (h : mx (a - s) 0 < mn (b - s) (x.length : Int)) : (x.take (mn (b - s) (x.length : Int)).toNat).drop (mx (a - s) 0).toNat = (x.take (b - s).toNat).drop (a - s).toNat ∧ 0 ≤ mx (a - s) 0 ∧ mn (b - s) (x.length : Int) ≤ (x.length : Int) := by
  have e1 : (mx (a - s) 0).toNat = (a - s).toNat := by unfold mx; split <;> omega
  have e2 : x.take (mn (b - s) (x.length : Int)).toNat = x.take (b - s).toNat := by
    unfold mn
    split
    · rw [List.take_of_length_le (by omega), List.take_of_length_le (by omega)]
    · rfl
  refine ⟨by rw [e1, e2], ?_, ?_⟩
  · unfold mx; split <;> omega
  · unfold mn; split <;> omega
theorem part_cons {x y : List Int} {a b s : Int} : ((x ++ y).take (b - s).toNat).drop (a - s).toNat = (x.take (b - s).toNat).drop (a - s).toNat ++ (y.take (b - (s + (x.length : Int))).toNat).drop (a - (s + (x.length : Int))).toNat := by
  rw [List.take_append, List.drop_append, List.length_take]
  congr 1
  by_cases h : (b - s).toNat ≤ x.length
  · rw [show (b - (s + (x.length : Int))).toNat = 0 by omega, show (b - s).toNat - x.length = 0 by omega]
    simp
  · rw [show (b - (s + (x.length : Int))).toNat = (b - s).toNat - x.length by omega, show (a - s).toNat - min (b - s).toNat x.length = (a - (s + (x.length : Int))).toNat by omega]
theorem rg_slc {p : List (List Int)} (hp : Ok p) (hD : Dist p) {l : List S53} (hl : ∀ c ∈ l, ∃ b ∈ p, c = stk b) {a b : Int} : ∀ (q : List (List Int)) (i : Nat) (s : Int) (out : List Int), p.drop i = q → i ≤ p.length → out.length ≤ 8192 * i →
    (∀ c ∈ slc a b (ids q) i s, ∀ x, p[c.f0.toNat]? = some x → stk x ∈ l) →
    rg l (ids p) (slc a b (ids q) i s) out = some (out ++ (q.flatten.take (b - s).toNat).drop (a - s).toNat, 0)
  | [], i, s, out, hq, hi, ho, hn => by simp [ids, slc, rg]
  | x :: r, i, s, out, hq, hi, ho, hn => by
    have hlt : i < p.length := by
      rcases Nat.lt_or_ge i p.length with h | h
      · exact h
      · rw [List.drop_eq_nil_of_le h] at hq; cases hq
    rw [List.drop_eq_getElem_cons hlt] at hq
    obtain ⟨hx, hr⟩ := List.cons.inj hq
    have hok := hp.1 _ (List.getElem_mem hlt)
    have hpn := hp.2.1
    rw [hx] at hok
    have hxm : x ∈ p := hx ▸ List.getElem_mem hlt
    rw [List.flatten_cons, part_cons]
    simp only [ids, List.map_cons, slc] at hn ⊢
    have e1 : (idO x).f1 = (x.length : Int) := rfl
    rw [e1] at hn ⊢
    by_cases hc : mx (a - s) 0 < mn (b - s) (x.length : Int)
    · rw [if_pos hc] at hn ⊢
      obtain ⟨h1, h2, h3⟩ := part_some hc
      have hin := hn _ (List.mem_cons_self ..) x (by simp [hlt, hx])
      obtain ⟨j, hj, he⟩ := fnd_has hD hxm hl hin
      have hrd : rd_T51 (List.map idO p) (i : Int) = idO x := by rw [show List.map idO p = ids p from rfl, ids_rd hlt, hx]
      have hpr : pr (idO x) = Rg.ofP x := rfl
      unfold rg
      simp only
      rw [if_pos ⟨by omega, by simp; omega⟩, hrd, hpr, hj]
      simp only
      rw [he, if_pos rfl, if_pos ⟨h2, by omega, h3, by omega⟩, h1]
      have := rg_slc hp hD hl (a := a) (b := b) r (i + 1) (s + (x.length : Int)) (out ++ (x.take (b - s).toNat).drop (a - s).toNat) hr (by omega) (by
        rw [List.length_append, List.length_drop, List.length_take]; omega) (fun c hc => hn c (List.mem_cons_of_mem _ hc))
      rw [← List.append_assoc]
      exact this
    · rw [if_neg hc] at hn ⊢
      rw [part_nil hc, List.nil_append]
      exact rg_slc hp hD hl (a := a) (b := b) r (i + 1) (s + (x.length : Int)) out hr (by omega) (by omega) hn
theorem u64wf {x : Int} (h0 : 0 ≤ x) (h1 : x ≤ 9223372036854775807) : (Lit.int .u64 x).wf = true := by simp [Lit.wf, IntKind.min, IntKind.max, IntKind.bits, IntKind.signed]; omega
theorem i64wf {x : Int} (h0 : 0 ≤ x) (h1 : x ≤ 9223372036854775807) : (Lit.int .i64 x).wf = true := by simp [Lit.wf, IntKind.min, IntKind.max, IntKind.bits, IntKind.signed]; omega
theorem idO_wf {b : List Int} (h : b.length ≤ 1048576) : WfI (pr (idO b)) := by
  have := fp_range b
  have hP : P = 2305843009213693951 := rfl
  exact ⟨u64wf this.1 (by show fp b ≤ _; omega), i64wf (by show 0 ≤ (b.length : Int); omega) (by show (b.length : Int) ≤ _; omega)⟩
theorem good_of {p : List (List Int)} (hp : Ok p) {l : List S53} (hl : ∀ c ∈ l, ∃ b ∈ p, c = stk b) (hn : l.length ≤ 140737488351232) : Rg.Good (ids p) l := by
  have hpn := hp.2.1
  refine ⟨fun x hx => ?_, fun c hc => ?_, hn, by rw [ids_len]; omega⟩
  · obtain ⟨b, hb, rfl⟩ := List.mem_map.1 hx
    exact idO_wf (by have := (hp.1 b hb).2.2; omega)
  · obtain ⟨b, hb, rfl⟩ := hl c hc
    have := hp.1 b hb
    exact ⟨idO_wf (by omega), this.1, by simp only [stk]; omega⟩
theorem range_is {p : List (List Int)} (hp : Ok p) (hD : Dist p) {l : List S53} (hl : ∀ c ∈ l, ∃ b ∈ p, c = stk b) (hn : l.length ≤ 140737488351232) {a b : Int} (ha : 0 ≤ a) (hab : a ≤ b) (hb : b ≤ tot p)
    (hm : ∀ c ∈ slc a b (ids p) 0 0, ∀ x, p[c.f0.toNat]? = some x → stk x ∈ l) : rangeF (tot p) (ids p) l a b = some ((p.flatten.take b.toNat).drop a.toNat, 0) := by
  unfold rangeF
  rw [if_pos (good_of hp hl hn), slice_is (show (ids p).length + 1 < (ids p).length + 2 by omega), Option.bind_some]
  unfold sliceS
  have hs := slc_length a b (ids p) 0 0
  have hpn := hp.2.1
  rw [ids_len] at hs
  rw [hp.check, if_pos rfl, if_neg (show ¬ (a < 0 ∨ a > b ∨ b > tot p) by omega)]
  rw [if_pos rfl, if_pos (show (slc a b (ids p) 0 0).length ≤ 140737488351232 by omega)]
  have := rg_slc hp hD hl (a := a) (b := b) p 0 0 [] rfl (by omega) (by simp) hm
  simpa using this
theorem assemble_is {p : List (List Int)} (hp : Ok p) (hD : Dist p) {l : List S53} (hl : ∀ c ∈ l, ∃ b ∈ p, c = stk b) (hn : l.length ≤ 140737488351232) (hm : ∀ x ∈ p, stk x ∈ l) : manifest_Assemble.f (tot p) (ids p) l = some (p.flatten, 0) := by
  unfold manifest_Assemble.f manifest_Range.f
  rw [range_is hp hD hl hn (by omega) (tot_nn p) (Int.le_refl _) (fun c hc x hx => hm x (List.mem_of_getElem? hx)), Option.bind_some]
  simp only [tot, Int.toNat_natCast, List.take_length, Int.toNat_zero, List.drop_zero]
theorem distinct_is {p : List (List Int)} (hp : ∀ b ∈ p, IsBytes b ∧ b.length ≤ 1048576) (hn : p.length ≤ 1048576) : Ds.distF p = some (Ds.distB p) := by
  unfold Ds.distF
  rw [if_pos (show Ds.GoodL p from ⟨fun b hb => ⟨(hp b hb).1, by have := (hp b hb).2; omega⟩, hn⟩)]
end Go.Proofs.Ytleapbbdpediiaa.Ms
