-- What this claim does not use is left out (shake.py).
import Derived.Test.YtleapbbdpediiaaFm
import Derived.Laws.BitsAllLaws
import Derived.Test.YtleapbbdpediiaaPxf30
import Derived.Test.YtleapbbdpediiaaPxf45
import Derived.Test.YtleapbbdpediiaaPxf63
/- What the printed functions of package fingerprint and of its reference compute, in the words of Fm. -/
namespace Go.Proofs.Ytleapbbdpediiaa.Fp
open Go.RowKit Go.Proofs.Ytleapbbdpediiaa.P Go.Proofs.Ytleapbbdpediiaa.FM Go.Proofs.YtleapbbdpediiaaW.PrintWords Go.Proofs.YtleapbbdpediiaaW.PrintLast Go.Proofs.YtleapbbdpediiaaW.PrintMore
set_option linter.unusedVariables false

theorem wrap_small {x : Int} (h0 : 0 ≤ x) (h1 : x < 18446744073709551616) : IntKind.u64.wrap x = x := by
  rw [IntKind.wrap_u64]; omega
theorem and32 {x : Int} (h0 : 0 ≤ x) (h1 : x < 18446744073709551616) : Go.bits .and .u64 x 4294967295 = x % 4294967296 := by
  rw [u64_and x _ h0 h1 (by decide) (by decide)]
  have e : (4294967295 : Int).toNat = 2 ^ 32 - 1 := by decide
  rw [e, Nat.and_two_pow_sub_one_eq_mod]
  omega
theorem and61 {x : Int} (h0 : 0 ≤ x) (h1 : x < 18446744073709551616) : Go.bits .and .u64 x 2305843009213693951 = x % 2305843009213693952 := by
  rw [u64_and x _ h0 h1 (by decide) (by decide)]
  have e : (2305843009213693951 : Int).toNat = 2 ^ 61 - 1 := by decide
  rw [e, Nat.and_two_pow_sub_one_eq_mod]
  omega
theorem or8 {x y : Int} (h0 : 0 ≤ x) (h1 : x < 2305843009213693952) (h2 : 0 ≤ y) (h3 : y < 8) : Go.bits .or .u64 (x * 8) y = x * 8 + y := by
  rw [u64_or _ _ (by omega) (by omega) h2 (by omega)]
  have e : (x * 8).toNat = x.toNat <<< 3 := by rw [Nat.shiftLeft_eq]; omega
  rw [e, ← Nat.shiftLeft_add_eq_or_of_lt (by omega) x.toNat, Nat.shiftLeft_eq]
  omega

theorem mul64 {a b : Int} (a0 : 0 ≤ a) (a1 : a < 18446744073709551616) (b0 : 0 ≤ b) (b1 : b < 18446744073709551616) : bits_Mul64.f a b = some (a * b / 18446744073709551616, a * b % 18446744073709551616) := by
  unfold bits_Mul64.f
  rw [and32 a0 a1, and32 b0 b1]
  obtain ⟨A0, A1, B0, B1, C0, C1, D0, D1, hX⟩ := mul64_hi (x := a) (y := b) (x0 := a % 4294967296) (x1 := a / 4294967296) (y0 := b % 4294967296) (y1 := b / 4294967296) (by omega) (by omega) (by omega) (by omega) (by omega) (by omega) (by omega) (by omega) (by omega) (by omega)
  generalize a % 4294967296 * (b % 4294967296) = A at *
  generalize a / 4294967296 * (b % 4294967296) = Bq at *
  generalize a % 4294967296 * (b / 4294967296) = C at *
  generalize a / 4294967296 * (b / 4294967296) = D at *
  rw [wrap_small A0 (by omega), wrap_small B0 (by omega), wrap_small C0 (by omega), wrap_small D0 (by omega)]
  rw [wrap_small (x := Bq + A / 4294967296) (by omega) (by omega)]
  rw [and32 (by omega) (by omega), wrap_small (x := _ % 4294967296 + C) (by omega) (by omega)]
  rw [wrap_small (x := D + _) (by omega) (by omega)]
  have h := mul64_div ⟨A0, A1⟩ ⟨B0, B1⟩ ⟨C0, C1⟩ ⟨D0, D1⟩ hX
  rw [h]
  generalize a * b = X at *
  rw [wrap_small (x := X / 18446744073709551616) (by omega) (by omega), IntKind.wrap_u64]

theorem P_lt : P < 18446744073709551616 := by decide
/-- What is below 2 P and 0 or more, folded once. -/
theorem fold_P {x : Int} (h0 : 0 ≤ x) (h1 : x < 2 * P) : x % P = if x < P then x else x - P := by
  split
  · exact emod_small h0 (by assumption)
  · rw [← emod_small (x := x - P) (by omega) (by omega)]
    exact emod_P_eq ⟨1, by omega⟩
theorem add_is {a b : Int} (a0 : 0 ≤ a) (b0 : 0 ≤ b) (h : a + b < 2 * P) : fingerprint_add.f a b = some ((a + b) % P) := by
  unfold fingerprint_add.f
  rw [P_def] at h
  rw [wrap_small (by omega) (by omega), fold_P (by omega) (by rw [P_def]; omega), P_def]
  split
  · rfl
  · rw [wrap_small (by omega) (by omega)]
theorem plus_is {a b : Int} (a0 : 0 ≤ a) (b0 : 0 ≤ b) (h : a + b < 2 * P) : stockyardref22_Plus.f a b = some ((a + b) % P) := by
  unfold stockyardref22_Plus.f
  rw [P_def] at h
  rw [wrap_small (by omega) (by omega), fold_P (by omega) (by rw [P_def]; omega), P_def]
  split
  · rw [wrap_small (by omega) (by omega), if_neg (by omega), if_neg (by omega)]
  · rw [if_pos (by omega)]

/-- The product's halves, folded: what they come to, and that they are small. -/
theorem halves {a b : Int} (a0 : 0 ≤ a) (a1 : a < P) (b0 : 0 ≤ b) (b1 : b < P) :
    Go.bits .and .u64 (a * b % 18446744073709551616) 2305843009213693951 = a * b % 2305843009213693952 ∧
    Go.bits .or .u64 (IntKind.u64.wrap (a * b / 18446744073709551616 * 8)) (a * b % 18446744073709551616 / 2305843009213693952) = a * b / 2305843009213693952 ∧
    0 ≤ a * b % 2305843009213693952 ∧ 0 ≤ a * b / 2305843009213693952 ∧ a * b % 2305843009213693952 + a * b / 2305843009213693952 < 2 * P ∧ (a * b % 2305843009213693952 + a * b / 2305843009213693952) % P = a * b % P := by
  have hb := FM.prod_bound (K := P - 1) a0 (by omega) b0 (by omega)
  rw [P_def] at hb ⊢
  generalize a * b = X at *
  have hX : X ≤ 5316911983139663482391856204266602500 := by
    refine Int.le_trans hb.2 (by decide)
  have h0 := hb.1
  clear hb
  refine ⟨by rw [and61 (by omega) (by omega)]; omega, ?_, by omega, by omega, ?_, ?_⟩
  · rw [wrap_small (by omega) (by omega), or8 (by omega) (by omega) (by omega) (by omega)]
    omega
  · omega
  · omega
theorem mul_eq {a b : Int} : fingerprint_mul.f a b = (bits_Mul64.f a b).bind fun p => ((fingerprint_add.f (Go.bits .and .u64 p.2 2305843009213693951) (Go.bits .or .u64 (IntKind.u64.wrap (p.1 * 8)) (p.2 / 2305843009213693952))).bind fun t => (some t)) := rfl
theorem mul_of {a b X Y u v z : Int} (h : bits_Mul64.f a b = some (X, Y)) (h1 : Go.bits .and .u64 Y 2305843009213693951 = u) (h2 : Go.bits .or .u64 (IntKind.u64.wrap (X * 8)) (Y / 2305843009213693952) = v) (h3 : fingerprint_add.f u v = some z) : fingerprint_mul.f a b = some z := by
  subst h1 h2
  rw [mul_eq, h, Option.bind_some, h3, Option.bind_some]
theorem mul_is {a b : Int} (a0 : 0 ≤ a) (a1 : a < P) (b0 : 0 ≤ b) (b1 : b < P) : fingerprint_mul.f a b = some (a * b % P) := by
  obtain ⟨h1, h2, h3, h4, h5, h6⟩ := halves a0 a1 b0 b1
  have ha := add_is h3 h4 h5
  rw [h6] at ha
  exact mul_of (mul64 a0 (Int.lt_trans a1 P_lt) b0 (Int.lt_trans b1 P_lt)) h1 h2 ha
theorem Mul_eq {a b : Int} : stockyardref22_Mul.f a b = (bits_Mul64.f a b).bind fun p => ((stockyardref22_Plus.f (Go.bits .and .u64 p.2 2305843009213693951) (Go.bits .or .u64 (IntKind.u64.wrap (p.1 * 8)) (p.2 / 2305843009213693952))).bind fun t => (some t)) := rfl
theorem Mul_of {a b X Y u v z : Int} (h : bits_Mul64.f a b = some (X, Y)) (h1 : Go.bits .and .u64 Y 2305843009213693951 = u) (h2 : Go.bits .or .u64 (IntKind.u64.wrap (X * 8)) (Y / 2305843009213693952) = v) (h3 : stockyardref22_Plus.f u v = some z) : stockyardref22_Mul.f a b = some z := by
  subst h1 h2
  rw [Mul_eq, h, Option.bind_some, h3, Option.bind_some]
theorem Mul_is {a b : Int} (a0 : 0 ≤ a) (a1 : a < P) (b0 : 0 ≤ b) (b1 : b < P) : stockyardref22_Mul.f a b = some (a * b % P) := by
  obtain ⟨h1, h2, h3, h4, h5, h6⟩ := halves a0 a1 b0 b1
  have ha := plus_is h3 h4 h5
  rw [h6] at ha
  exact Mul_of (mul64 a0 (Int.lt_trans a1 P_lt) b0 (Int.lt_trans b1 P_lt)) h1 h2 ha

/-- A list of bytes. -/
def IsBytes (l : List Int) : Prop := ∀ x ∈ l, 0 ≤ x ∧ x ≤ 255
theorem rd_mem {l : List Int} {i : Int} (h0 : 0 ≤ i) (h1 : i < l.length) : rd l i ∈ l := by
  unfold rd
  have h : i.toNat < l.length := by omega
  simp [List.getD, h]
theorem rd_byte {l : List Int} (hl : IsBytes l) {i : Int} (h0 : 0 ≤ i) (h1 : i < l.length) : 0 ≤ rd l i ∧ rd l i ≤ 255 := hl _ (rd_mem h0 h1)
theorem take_succ_rd {l : List Int} {n : Nat} (h : n < l.length) : l.take (n + 1) = l.take n ++ [rd l n] := by
  rw [List.take_succ_eq_append_getElem h]
  simp [rd, List.getD, h]

theorem st_step {s x : Int} (h0 : 0 ≤ s) (h1 : s < P) (x0 : 0 ≤ x) (x1 : x ≤ 255) {f : Int → Int → Option Int} (hf : ∀ {a b : Int}, 0 ≤ a → 0 ≤ b → a + b < 2 * P → f a b = some ((a + b) % P)) :
    f (s * B % P) (IntKind.u64.wrap (IntKind.u64.wrap x + 1)) = some (st s x) := by
  have := emod_nonneg (s * B)
  have := emod_lt (s * B)
  have hp := P_def
  rw [wrap_small (x := x) x0 (by omega), wrap_small (by omega) (by omega), hf (by omega) (by omega) (by omega)]
  unfold st
  rw [emod_P_eq (x := s * B % P + (x + 1)) (y := s * B + (x + 1))]
  obtain ⟨k, hk⟩ := ex_emod (s * B)
  exact ⟨-k, by rw [hk]; grind⟩
theorem B_range : 0 ≤ B ∧ B < P := by decide
theorem wrap64_succ {i : Int} {n : Nat} (h0 : 0 ≤ i) (h1 : i < n) (hn : n ≤ 140737488351232) : wrap64 (i + 1) = i + 1 := by unfold wrap64; omega

theorem sum_loop (l : List Int) (hl : IsBytes l) (hn : l.length ≤ 140737488351232) (d : Nat) : ∀ (k n : Nat), n ≤ l.length → l.length - n = d → d < k →
    fingerprint_Sum.l0 k (fp (l.take n)) l (l.length : Int) (n : Int) = some (fp l) := by
  induction d with
  | zero =>
    intro k n h0 h1 hk
    obtain ⟨k, rfl⟩ : ∃ m, k = m + 1 := ⟨k - 1, by omega⟩
    simp only [fingerprint_Sum.l0]
    rw [if_neg (by omega), List.take_of_length_le (by omega)]
  | succ d ih =>
    intro k n h0 h1 hk
    obtain ⟨k, rfl⟩ : ∃ m, k = m + 1 := ⟨k - 1, by omega⟩
    have hr := fp_range (l.take n)
    have hb := rd_byte hl (i := n) (by omega) (by omega)
    simp only [fingerprint_Sum.l0]
    rw [if_pos (by omega), if_pos (by omega), if_pos (by omega)]
    rw [show (747382712868975713 : Int) = B from rfl, mul_is hr.1 hr.2 B_range.1 B_range.2]
    simp only [Option.bind_some]
    rw [st_step hr.1 hr.2 hb.1 hb.2 add_is]
    simp only [Option.bind_some]
    rw [wrap64_succ (n := l.length) (by omega) (by omega) hn]
    have e : st (fp (l.take n)) (rd l (n : Int)) = fp (l.take (n + 1)) := by
      rw [take_succ_rd (by omega)]
      exact (fpF_snoc 0 _ _).symm
    rw [e]
    exact ih k (n + 1) (by omega) (by omega) (by omega)
theorem sum_is {l : List Int} (hl : IsBytes l) (hn : l.length ≤ 140737488351232) {k : Nat} (hk : l.length < k) : fingerprint_Sum.f k l = some (fp l) :=
  sum_loop l hl hn l.length k 0 (by omega) (by omega) hk
theorem Sum_loop (l : List Int) (hl : IsBytes l) (hn : l.length ≤ 140737488351232) (d : Nat) : ∀ (k n : Nat), n ≤ l.length → l.length - n = d → d < k →
    stockyardref22_Sum.l0 k l (fp (l.take n)) (n : Int) = some (fp l) := by
  induction d with
  | zero =>
    intro k n h0 h1 hk
    obtain ⟨k, rfl⟩ : ∃ m, k = m + 1 := ⟨k - 1, by omega⟩
    simp only [stockyardref22_Sum.l0]
    rw [if_neg (by omega), List.take_of_length_le (by omega)]
  | succ d ih =>
    intro k n h0 h1 hk
    obtain ⟨k, rfl⟩ : ∃ m, k = m + 1 := ⟨k - 1, by omega⟩
    have hr := fp_range (l.take n)
    have hb := rd_byte hl (i := n) (by omega) (by omega)
    simp only [stockyardref22_Sum.l0]
    rw [if_pos (by omega)]
    rw [show (747382712868975713 : Int) = B from rfl, Mul_is hr.1 hr.2 B_range.1 B_range.2]
    simp only [Option.bind_some]
    rw [if_pos (by omega), st_step hr.1 hr.2 hb.1 hb.2 plus_is]
    simp only [Option.bind_some]
    rw [wrap64_succ (n := l.length) (by omega) (by omega) hn]
    have e : st (fp (l.take n)) (rd l (n : Int)) = fp (l.take (n + 1)) := by
      rw [take_succ_rd (by omega)]
      exact (fpF_snoc 0 _ _).symm
    rw [e]
    exact ih k (n + 1) (by omega) (by omega) (by omega)
theorem Sum_is {l : List Int} (hl : IsBytes l) (hn : l.length ≤ 140737488351232) {k : Nat} (hk : l.length < k) : stockyardref22_Sum.f k l = some (fp l) :=
  Sum_loop l hl hn l.length k 0 (by omega) (by omega) hk
end Go.Proofs.Ytleapbbdpediiaa.Fp
