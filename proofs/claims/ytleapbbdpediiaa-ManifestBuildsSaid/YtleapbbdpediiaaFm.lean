-- What this claim does not use is left out (shake.py).
/- Plain mathematics of the fingerprint: a polynomial in B modulo P. No program in it. -/
set_option linter.unusedVariables false
namespace Go.Proofs.Ytleapbbdpediiaa.FM
/-- The prime and the base. -/
def P : Int := 2305843009213693951
def B : Int := 747382712868975713
theorem P_pos : 0 < P := by decide
theorem P_def : P = 2305843009213693951 := rfl
theorem cg_iff {x y : Int} : x % P = y % P ↔ ∃ k, x - y = P * k := by
  rw [Int.emod_eq_emod_iff_emod_sub_eq_zero]
  constructor
  · intro h; exact ⟨(x - y) / P, by have := Int.mul_ediv_add_emod (x-y) P; omega⟩
  · rintro ⟨k, h⟩; rw [h]; exact Int.mul_emod_right ..

theorem emod_P_eq {x y : Int} (h : ∃ k, x - y = P * k) : x % P = y % P := cg_iff.2 h
theorem ex_emod (x : Int) : ∃ k, x % P = x - P * k := ⟨x / P, by have := Int.mul_ediv_add_emod x P; omega⟩
theorem emod_nonneg (x : Int) : 0 ≤ x % P := Int.emod_nonneg _ (by decide)
theorem emod_lt (x : Int) : x % P < P := Int.emod_lt_of_pos _ P_pos
theorem emod_small {x : Int} (h0 : 0 ≤ x) (h1 : x < P) : x % P = x := Int.emod_eq_of_lt h0 h1

/-- One step of the fingerprint. -/
def st (s x : Int) : Int := (s * B + (x + 1)) % P
/-- The fingerprint of a list of bytes, on from s. -/
def fpF (s : Int) (l : List Int) : Int := l.foldl st s
def fp (l : List Int) : Int := fpF 0 l
def pw (n : Nat) : Int := B ^ n % P

theorem fpF_cons (s x : Int) (l : List Int) : fpF s (x :: l) = fpF (st s x) l := rfl
theorem fpF_append (s : Int) (a b : List Int) : fpF s (a ++ b) = fpF (fpF s a) b := by simp [fpF]
theorem fpF_snoc (s x : Int) (a : List Int) : fpF s (a ++ [x]) = st (fpF s a) x := by simp [fpF]
theorem fpF_range (s : Int) (l : List Int) (h0 : 0 ≤ s) (h1 : s < P) : 0 ≤ fpF s l ∧ fpF s l < P := by
  induction l generalizing s with
  | nil => exact ⟨h0, h1⟩
  | cons x l ih => exact ih _ (emod_nonneg _) (emod_lt _)
theorem fp_range (l : List Int) : 0 ≤ fp l ∧ fp l < P := fpF_range 0 l (by decide) (by decide)
/-- Seen as a congruence: linear in where it begins. -/
theorem fpF_lin (s t : Int) (l : List Int) : ∃ k, fpF s l - fpF t l = (s - t) * B ^ l.length + P * k := by
  induction l generalizing s t with
  | nil => exact ⟨0, by simp [fpF]⟩
  | cons x l ih =>
    obtain ⟨k, hk⟩ := ih (st s x) (st t x)
    obtain ⟨a, ha⟩ := ex_emod (s * B + (x + 1))
    obtain ⟨b, hb⟩ := ex_emod (t * B + (x + 1))
    rw [fpF_cons, fpF_cons, hk, List.length_cons, Int.pow_succ]
    refine ⟨k + (b - a) * B ^ l.length, ?_⟩
    unfold st
    rw [ha, hb]
    grind
theorem fp_append (a b : List Int) : fp (a ++ b) = (fp a * pw b.length + fp b) % P := by
  unfold fp
  rw [fpF_append]
  have hr := fpF_range (fpF 0 a) b (fp_range a).1 (fp_range a).2
  rw [← emod_small hr.1 hr.2]
  apply emod_P_eq
  obtain ⟨k, hk⟩ := fpF_lin (fpF 0 a) 0 b
  obtain ⟨j, hj⟩ := ex_emod (B ^ b.length)
  unfold pw
  rw [hj]
  exact ⟨k + fpF 0 a * j, by grind⟩
theorem pw_zero : pw 0 = 1 := by decide
theorem pw_range (n : Nat) : 0 ≤ pw n ∧ pw n < P := ⟨emod_nonneg _, emod_lt _⟩
theorem pw_add (m n : Nat) : pw (m + n) = (pw m * pw n) % P := by
  unfold pw
  apply emod_P_eq
  obtain ⟨j, hj⟩ := ex_emod (B ^ n)
  obtain ⟨i, hi⟩ := ex_emod (B ^ m)
  rw [hj, hi, Int.pow_add]
  exact ⟨i * B ^ n + B ^ m * j - P * i * j, by grind⟩


theorem prod_bound {a b K : Int} (h0 : 0 ≤ a) (h1 : a ≤ K) (g0 : 0 ≤ b) (g1 : b ≤ K) : 0 ≤ a * b ∧ a * b ≤ K * K :=
  ⟨Int.mul_nonneg h0 g0, Int.mul_le_mul h1 g1 g0 (by omega)⟩
theorem mul64_hi {x y x0 x1 y0 y1 : Int} (hx : x = x1 * 4294967296 + x0) (hy : y = y1 * 4294967296 + y0) (a0 : 0 ≤ x0) (a1 : x0 < 4294967296) (b0 : 0 ≤ x1) (b1 : x1 < 4294967296)
    (c0 : 0 ≤ y0) (c1 : y0 < 4294967296) (d0 : 0 ≤ y1) (d1 : y1 < 4294967296) :
    0 ≤ x0 * y0 ∧ x0 * y0 ≤ 18446744065119617025 ∧ 0 ≤ x1 * y0 ∧ x1 * y0 ≤ 18446744065119617025 ∧ 0 ≤ x0 * y1 ∧ x0 * y1 ≤ 18446744065119617025 ∧ 0 ≤ x1 * y1 ∧ x1 * y1 ≤ 18446744065119617025 ∧
    x * y = x1 * y1 * 18446744073709551616 + (x1 * y0 + x0 * y1) * 4294967296 + x0 * y0 := by
  have h1 := prod_bound (K := 4294967295) a0 (by omega) c0 (by omega)
  have h2 := prod_bound (K := 4294967295) b0 (by omega) c0 (by omega)
  have h3 := prod_bound (K := 4294967295) a0 (by omega) d0 (by omega)
  have h4 := prod_bound (K := 4294967295) b0 (by omega) d0 (by omega)
  refine ⟨h1.1, by omega, h2.1, by omega, h3.1, by omega, h4.1, by omega, ?_⟩
  subst hx hy
  grind
theorem mul64_div {A Bq C D X : Int} (hA : 0 ≤ A ∧ A ≤ 18446744065119617025) (hB : 0 ≤ Bq ∧ Bq ≤ 18446744065119617025) (hC : 0 ≤ C ∧ C ≤ 18446744065119617025) (hD : 0 ≤ D ∧ D ≤ 18446744065119617025)
   (hX : X = D * 18446744073709551616 + (Bq + C) * 4294967296 + A) :
   D + (Bq + A / 4294967296) / 4294967296 + ((Bq + A / 4294967296) % 4294967296 + C) / 4294967296 = X / 18446744073709551616 := by omega

end Go.Proofs.Ytleapbbdpediiaa.FM
