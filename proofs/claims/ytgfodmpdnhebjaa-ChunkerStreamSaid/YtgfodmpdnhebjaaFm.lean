/- Plain mathematics of the fingerprint: a polynomial in B modulo P. No program in it. -/
set_option linter.unusedVariables false
namespace Go.Proofs.Ytgfodmpdnhebjaa.FM
/-- The prime and the base. -/
def P : Int := 2305843009213693951
def B : Int := 747382712868975713
theorem P_pos : 0 < P := by decide
theorem P_def : P = 2305843009213693951 := rfl
theorem B_def : B = 747382712868975713 := rfl

theorem cg_iff {x y : Int} : x % P = y % P ↔ ∃ k, x - y = P * k := by
  rw [Int.emod_eq_emod_iff_emod_sub_eq_zero]
  constructor
  · intro h; exact ⟨(x - y) / P, by have := Int.mul_ediv_add_emod (x-y) P; omega⟩
  · rintro ⟨k, h⟩; rw [h]; exact Int.mul_emod_right ..

theorem emod_P_eq {x y : Int} (h : ∃ k, x - y = P * k) : x % P = y % P := cg_iff.2 h
theorem ex_emod (x : Int) : ∃ k, x % P = x - P * k := ⟨x / P, by have := Int.mul_ediv_add_emod x P; omega⟩
theorem emod_nonneg (x : Int) : 0 ≤ x % P := Int.emod_nonneg _ (by decide)
theorem emod_lt (x : Int) : x % P < P := Int.emod_lt_of_pos _ P_pos
theorem emod_small {x : Int} (h0 : 0 ≤ x) (h1 : x < P) : x % P = x := Int.emod_eq_of_lt h0 h1

/-- One step of the fingerprint. -/
def st (s x : Int) : Int := (s * B + (x + 1)) % P
/-- The fingerprint of a list of bytes, on from s. -/
def fpF (s : Int) (l : List Int) : Int := l.foldl st s
def fp (l : List Int) : Int := fpF 0 l
def pw (n : Nat) : Int := B ^ n % P

theorem st_cg (s t x : Int) (h : s % P = t % P) : st s x = st t x := by
  unfold st
  apply emod_P_eq
  obtain ⟨k, hk⟩ := cg_iff.1 h
  exact ⟨k * B, by grind⟩

theorem fpF_nil (s : Int) : fpF s [] = s := rfl
theorem fpF_cons (s x : Int) (l : List Int) : fpF s (x :: l) = fpF (st s x) l := rfl
theorem fpF_append (s : Int) (a b : List Int) : fpF s (a ++ b) = fpF (fpF s a) b := by simp [fpF]
theorem fpF_snoc (s x : Int) (a : List Int) : fpF s (a ++ [x]) = st (fpF s a) x := by simp [fpF]
theorem fpF_range (s : Int) (l : List Int) (h0 : 0 ≤ s) (h1 : s < P) : 0 ≤ fpF s l ∧ fpF s l < P := by
  induction l generalizing s with
  | nil => exact ⟨h0, h1⟩
  | cons x l ih => exact ih _ (emod_nonneg _) (emod_lt _)
theorem fp_range (l : List Int) : 0 ≤ fp l ∧ fp l < P := fpF_range 0 l (by decide) (by decide)
theorem st_range (s x : Int) : 0 ≤ st s x ∧ st s x < P := ⟨emod_nonneg _, emod_lt _⟩

/-- Seen as a congruence: linear in where it begins. -/
theorem fpF_lin (s t : Int) (l : List Int) : ∃ k, fpF s l - fpF t l = (s - t) * B ^ l.length + P * k := by
  induction l generalizing s t with
  | nil => exact ⟨0, by simp [fpF]⟩
  | cons x l ih =>
    obtain ⟨k, hk⟩ := ih (st s x) (st t x)
    obtain ⟨a, ha⟩ := ex_emod (s * B + (x + 1))
    obtain ⟨b, hb⟩ := ex_emod (t * B + (x + 1))
    rw [fpF_cons, fpF_cons, hk, List.length_cons, Int.pow_succ]
    refine ⟨k + (b - a) * B ^ l.length, ?_⟩
    unfold st
    rw [ha, hb]
    grind
theorem fp_append (a b : List Int) : fp (a ++ b) = (fp a * pw b.length + fp b) % P := by
  unfold fp
  rw [fpF_append]
  have hr := fpF_range (fpF 0 a) b (fp_range a).1 (fp_range a).2
  rw [← emod_small hr.1 hr.2]
  apply emod_P_eq
  obtain ⟨k, hk⟩ := fpF_lin (fpF 0 a) 0 b
  obtain ⟨j, hj⟩ := ex_emod (B ^ b.length)
  unfold pw
  rw [hj]
  exact ⟨k + fpF 0 a * j, by grind⟩
theorem pw_zero : pw 0 = 1 := by decide
theorem pw_range (n : Nat) : 0 ≤ pw n ∧ pw n < P := ⟨emod_nonneg _, emod_lt _⟩
theorem pw_succ (n : Nat) : pw (n + 1) = (pw n * B) % P := by
  unfold pw
  apply emod_P_eq
  obtain ⟨j, hj⟩ := ex_emod (B ^ n)
  rw [hj, Int.pow_succ]
  exact ⟨j * B, by grind⟩
theorem pw_add (m n : Nat) : pw (m + n) = (pw m * pw n) % P := by
  unfold pw
  apply emod_P_eq
  obtain ⟨j, hj⟩ := ex_emod (B ^ n)
  obtain ⟨i, hi⟩ := ex_emod (B ^ m)
  rw [hj, hi, Int.pow_add]
  exact ⟨i * B ^ n + B ^ m * j - P * i * j, by grind⟩


/-- The inverses of B and of B - 1 modulo P. -/
def Bi : Int := 331121832077419417
def Ci : Int := 474087743865645241
theorem B_inv : B * Bi = 1 + P * 107325057325805320 := by decide
theorem B1_inv : (B - 1) * Ci = 1 + P * 153663967031764641 := by decide
theorem pw_inv (n : Nat) : ∃ v k, B ^ n * v = 1 + P * k := by
  induction n with
  | zero => exact ⟨1, 0, by decide⟩
  | succ n ih =>
    obtain ⟨v, k, h⟩ := ih
    refine ⟨v * Bi, k + 107325057325805320 + P * k * 107325057325805320, ?_⟩
    have hB := B_inv
    rw [Int.pow_succ]
    grind
/-- What B's power, taken times, makes nothing of, is nothing. -/
theorem pw_cancel {x k : Int} {n : Nat} (h : x * B ^ n = P * k) : ∃ j, x = P * j := by
  obtain ⟨v, m, hv⟩ := pw_inv n
  exact ⟨k * v - x * m, by grind⟩
theorem small_zero {x j : Int} (h : x = P * j) (h0 : -P < x) (h1 : x < P) : x = 0 := by
  have hp := P_pos
  rcases Int.lt_trichotomy j 0 with hj | hj | hj
  · have : P * j ≤ P * (-1) := Int.mul_le_mul_of_nonneg_left (by omega) (by omega)
    omega
  · subst hj; simpa using h
  · have : P * 1 ≤ P * j := Int.mul_le_mul_of_nonneg_left (by omega) (by omega)
    omega
theorem B1_cancel {x k : Int} (h : x * (B - 1) = P * k) : ∃ j, x = P * j := by
  have hB := B1_inv
  exact ⟨k * Ci - x * 153663967031764641, by grind⟩

/-- Two strings that differ in one byte. -/
theorem fp_byte (a b : List Int) (x y : Int) (hx : 0 ≤ x ∧ x ≤ 255) (hy : 0 ≤ y ∧ y ≤ 255) : fp (a ++ x :: b) = fp (a ++ y :: b) ↔ x = y := by
  constructor
  · intro h
    unfold fp at h
    rw [fpF_append, fpF_append, fpF_cons, fpF_cons] at h
    obtain ⟨k, hk⟩ := fpF_lin (st (fpF 0 a) x) (st (fpF 0 a) y) b
    obtain ⟨c, hc⟩ := ex_emod (fpF 0 a * B + (x + 1))
    obtain ⟨d, hd⟩ := ex_emod (fpF 0 a * B + (y + 1))
    rw [h] at hk
    obtain ⟨j, hj⟩ := pw_cancel (x := st (fpF 0 a) x - st (fpF 0 a) y) (n := b.length) (k := -k) (by grind)
    unfold st at hj
    rw [hc, hd] at hj
    have := small_zero (x := x - y) (j := j + c - d) (by grind) (by rw [P_def]; omega) (by rw [P_def]; omega)
    omega
  · rintro rfl; rfl
/-- Two neighbours exchanged. -/
theorem fp_swap (a b : List Int) (x y : Int) (hx : 0 ≤ x ∧ x ≤ 255) (hy : 0 ≤ y ∧ y ≤ 255) : fp (a ++ x :: y :: b) = fp (a ++ y :: x :: b) ↔ x = y := by
  constructor
  · intro h
    unfold fp at h
    rw [fpF_append, fpF_append, fpF_cons, fpF_cons, fpF_cons, fpF_cons] at h
    obtain ⟨k, hk⟩ := fpF_lin (st (st (fpF 0 a) x) y) (st (st (fpF 0 a) y) x) b
    rw [h] at hk
    obtain ⟨j, hj⟩ := pw_cancel (x := st (st (fpF 0 a) x) y - st (st (fpF 0 a) y) x) (n := b.length) (k := -k) (by grind)
    obtain ⟨c, hc⟩ := ex_emod (fpF 0 a * B + (x + 1))
    obtain ⟨d, hd⟩ := ex_emod (fpF 0 a * B + (y + 1))
    unfold st at hj
    rw [hc, hd] at hj
    obtain ⟨e, he⟩ := ex_emod ((fpF 0 a * B + (x + 1) - P * c) * B + (y + 1))
    obtain ⟨f, hf⟩ := ex_emod ((fpF 0 a * B + (y + 1) - P * d) * B + (x + 1))
    rw [he, hf] at hj
    obtain ⟨m, hm⟩ := B1_cancel (x := x - y) (k := j + c * B + e - d * B - f) (by grind)
    have := small_zero hm (by rw [P_def]; omega) (by rw [P_def]; omega)
    omega
  · rintro rfl; rfl
theorem prod_bound {a b K : Int} (h0 : 0 ≤ a) (h1 : a ≤ K) (g0 : 0 ≤ b) (g1 : b ≤ K) : 0 ≤ a * b ∧ a * b ≤ K * K :=
  ⟨Int.mul_nonneg h0 g0, Int.mul_le_mul h1 g1 g0 (by omega)⟩
theorem mul64_hi {x y x0 x1 y0 y1 : Int} (hx : x = x1 * 4294967296 + x0) (hy : y = y1 * 4294967296 + y0) (a0 : 0 ≤ x0) (a1 : x0 < 4294967296) (b0 : 0 ≤ x1) (b1 : x1 < 4294967296)
    (c0 : 0 ≤ y0) (c1 : y0 < 4294967296) (d0 : 0 ≤ y1) (d1 : y1 < 4294967296) :
    0 ≤ x0 * y0 ∧ x0 * y0 ≤ 18446744065119617025 ∧ 0 ≤ x1 * y0 ∧ x1 * y0 ≤ 18446744065119617025 ∧ 0 ≤ x0 * y1 ∧ x0 * y1 ≤ 18446744065119617025 ∧ 0 ≤ x1 * y1 ∧ x1 * y1 ≤ 18446744065119617025 ∧
    x * y = x1 * y1 * 18446744073709551616 + (x1 * y0 + x0 * y1) * 4294967296 + x0 * y0 := by
  have h1 := prod_bound (K := 4294967295) a0 (by omega) c0 (by omega)
  have h2 := prod_bound (K := 4294967295) b0 (by omega) c0 (by omega)
  have h3 := prod_bound (K := 4294967295) a0 (by omega) d0 (by omega)
  have h4 := prod_bound (K := 4294967295) b0 (by omega) d0 (by omega)
  refine ⟨h1.1, by omega, h2.1, by omega, h3.1, by omega, h4.1, by omega, ?_⟩
  subst hx hy
  grind
theorem mul64_div {A Bq C D X : Int} (hA : 0 ≤ A ∧ A ≤ 18446744065119617025) (hB : 0 ≤ Bq ∧ Bq ≤ 18446744065119617025) (hC : 0 ≤ C ∧ C ≤ 18446744065119617025) (hD : 0 ≤ D ∧ D ≤ 18446744065119617025)
   (hX : X = D * 18446744073709551616 + (Bq + C) * 4294967296 + A) :
   D + (Bq + A / 4294967296) / 4294967296 + ((Bq + A / 4294967296) % 4294967296 + C) / 4294967296 = X / 18446744073709551616 := by omega

end Go.Proofs.Ytgfodmpdnhebjaa.FM
