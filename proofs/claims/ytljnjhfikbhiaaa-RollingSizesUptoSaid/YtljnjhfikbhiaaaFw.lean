/- Prefixes and Window: what both texts compute; their contracts. -/
import Derived.Test.YtljnjhfikbhiaaaFc
import Derived.Test.YtljnjhfikbhiaaaPxf24
import Derived.Test.YtljnjhfikbhiaaaPxf31
namespace Go.Proofs.Ytljnjhfikbhiaaa.Fp
open Go.RowKit Go.Proofs.Ytljnjhfikbhiaaa.P Go.Proofs.Ytljnjhfikbhiaaa.FM Go.Proofs.YtljnjhfikbhiaaaW.PrintWords Go.Proofs.YtljnjhfikbhiaaaW.PrintLast Go.Proofs.YtljnjhfikbhiaaaW.PrintMore
set_option linter.unusedVariables false
/-- The fingerprints of the prefixes. -/
def prefS (l : List Int) : List Int := (List.range (l.length + 1)).map fun i => fp (l.take i)
theorem prefS_length (l : List Int) : (prefS l).length = l.length + 1 := by simp [prefS]
theorem prefS_rd (l : List Int) (i : Nat) (h : i ≤ l.length) : rd (prefS l) (i : Int) = fp (l.take i) := by
  have : i < l.length + 1 := by omega
  simp [rd, prefS, List.getD, this]
theorem fp_take_succ (l : List Int) (i : Nat) (h : i < l.length) : fp (l.take (i + 1)) = st (fp (l.take i)) (rd l (i : Int)) := by
  rw [take_succ_rd h]
  exact fpF_snoc 0 _ _
/-- What stands in the list while the program fills it. -/
def part (l : List Int) (n : Nat) : List Int := (List.range (l.length + 1)).map fun i => if i ≤ n then fp (l.take i) else 0
theorem part_length (l : List Int) (n : Nat) : (part l n).length = l.length + 1 := by simp [part]
theorem part_rd (l : List Int) (n i : Nat) (h : i ≤ l.length) (hi : i ≤ n) : rd (part l n) (i : Int) = fp (l.take i) := by
  have : i < l.length + 1 := by omega
  simp [rd, part, List.getD, this, hi]
theorem part_all (l : List Int) : part l l.length = prefS l := by
  unfold part prefS
  apply List.map_congr_left
  intro i hi
  rw [List.mem_range] at hi
  rw [if_pos (by omega)]
theorem part_set (l : List Int) (n : Nat) (h : n < l.length) : (part l n).set (n + 1) (fp (l.take (n + 1))) = part l (n + 1) := by
  apply List.ext_getElem
  · simp [part]
  · intro i h1 h2
    rw [List.getElem_set]
    simp only [part, List.getElem_map, List.getElem_range]
    split
    · subst_vars; rw [if_pos (by omega)]
    · by_cases hc : i ≤ n
      · rw [if_pos hc, if_pos (by omega)]
      · rw [if_neg hc, if_neg (by omega)]
theorem part_zero (l : List Int) : part l 0 = List.replicate (l.length + 1) 0 := by
  apply List.ext_getElem
  · simp [part]
  · intro i h1 h2
    simp only [part, List.getElem_map, List.getElem_range, List.getElem_replicate]
    split
    · rw [show i = 0 by omega]; rfl
    · rfl
theorem prefixes_loop (l : List Int) (hl : IsBytes l) (hn : l.length ≤ 140737488351232) (d : Nat) : ∀ (k n : Nat), n ≤ l.length → l.length - n = d → d < k →
    fingerprint_Prefixes.l0 k (part l n) l (l.length : Int) (n : Int) = some (prefS l) := by
  induction d with
  | zero =>
    intro k n h0 h1 hk
    obtain ⟨k, rfl⟩ : ∃ m, k = m + 1 := ⟨k - 1, by omega⟩
    simp only [fingerprint_Prefixes.l0]
    rw [if_neg (by omega), show n = l.length by omega, part_all]
  | succ d ih =>
    intro k n h0 h1 hk
    obtain ⟨k, rfl⟩ : ∃ m, k = m + 1 := ⟨k - 1, by omega⟩
    have hr := fp_range (l.take n)
    have hb := rd_byte hl (i := n) (by omega) (by omega)
    simp only [fingerprint_Prefixes.l0]
    rw [if_pos (by omega), if_pos (by omega), if_pos (by omega), if_pos (by rw [part_length]; omega), part_rd l n n (by omega) (by omega)]
    rw [show (747382712868975713 : Int) = B from rfl, mul_is hr.1 hr.2 B_range.1 B_range.2, Option.bind_some, st_step hr.1 hr.2 hb.1 hb.2 add_is, Option.bind_some]
    rw [wrap64_succ (n := l.length) (by omega) (by omega) hn, if_pos (by omega), if_pos (by rw [part_length]; omega)]
    rw [← fp_take_succ l n (by omega), show ((n : Int) + 1).toNat = n + 1 by omega, part_set l n (by omega)]
    exact ih k (n + 1) (by omega) (by omega) (by omega)
theorem prefixes_is {l : List Int} (hl : IsBytes l) (hn : l.length < 35184372088832) {k : Nat} (hk : l.length < k) : fingerprint_Prefixes.f k l = some (prefS l) := by
  unfold fingerprint_Prefixes.f
  rw [show wrap64 ((l.length : Int) + 1) = (l.length : Int) + 1 by unfold wrap64; omega, if_pos (by omega), if_pos (by omega), show ((l.length : Int) + 1).toNat = l.length + 1 by omega, ← part_zero]
  exact prefixes_loop l hl (by omega) l.length k 0 (by omega) (by omega) hk
theorem prefS_take_succ (l : List Int) (n : Nat) (h : n < l.length) : (prefS l).take (n + 1) ++ [fp (l.take (n + 1))] = (prefS l).take (n + 2) := by
  have hn : n + 1 < (prefS l).length := by rw [prefS_length]; omega
  rw [show n + 2 = (n + 1) + 1 by omega, List.take_succ_eq_append_getElem hn]
  congr 2
  simp [prefS]

/-- What both Windows come to. -/
def winS (p : List Int) (i j : Int) : Int × Bool :=
  if 0 ≤ i ∧ i ≤ j ∧ j < p.length ∧ j - i ≤ 1048576 ∧ rd p i < P ∧ rd p j < P then ((rd p j - rd p i * pw (j - i).toNat) % P, true) else (0, false)
theorem win_sum {a b : Int} {n : Nat} : (a - b * pw n % P) % P = (a - b * pw n) % P := by
  apply emod_P_eq
  obtain ⟨k, hk⟩ := ex_emod (b * pw n)
  exact ⟨k, by rw [hk]; grind⟩
theorem window_is {p : List Int} (hp : ∀ x ∈ p, 0 ≤ x) (hn : p.length ≤ 140737488351232) (i j : Int) {k : Nat} (hk : 73 ≤ k) : fingerprint_Window.f k p i j = some (winS p i j) := by
  obtain ⟨k, rfl⟩ : ∃ m, k = m + 2 := ⟨k - 2, by omega⟩
  have hP := P_def
  have no0 : fingerprint_Window.j0 (k + 2) p i j true = some (0, false) := by simp [fingerprint_Window.j0]
  have no1 : fingerprint_Window.j1 (k + 1) p i j true = some (0, false) := by simp [fingerprint_Window.j1]
  unfold fingerprint_Window.f winS
  by_cases h1 : i < 0
  · rw [if_pos h1, no0, if_neg (by omega)]
  · rw [if_neg h1]
    by_cases h2 : i > j
    · rw [if_pos h2, no0, if_neg (by omega)]
    · rw [if_neg h2]
      by_cases h3 : j ≥ (p.length : Int)
      · rw [if_pos h3, no0, if_neg (by omega)]
      · rw [if_neg h3, show wrap64 (j - i) = j - i by unfold wrap64; omega]
        by_cases h4 : j - i > 1048576
        · rw [show decide (j - i > 1048576) = true by simp; omega, no0, if_neg (by omega)]
        · rw [show decide (j - i > 1048576) = false by simp; omega]
          simp only [fingerprint_Window.j0]
          rw [if_neg (by simp), if_pos (by omega), if_pos (by omega)]
          by_cases h5 : rd p i ≥ 2305843009213693951
          · rw [if_pos h5, no1, if_neg (by omega)]
          · rw [if_neg h5, if_pos (by omega), if_pos (by omega)]
            by_cases h6 : rd p j ≥ 2305843009213693951
            · rw [show decide (rd p j ≥ 2305843009213693951) = true by simp; omega, no1, if_neg (by omega)]
            · rw [show decide (rd p j ≥ 2305843009213693951) = false by simp; omega, if_pos (by omega)]
              have ha := hp _ (rd_mem (l := p) (i := i) (by omega) (by omega))
              have hb := hp _ (rd_mem (l := p) (i := j) (by omega) (by omega))
              have hw := pw_range (j - i).toNat
              have hq := emod_nonneg (rd p i * pw (j - i).toNat)
              have hq' := emod_lt (rd p i * pw (j - i).toNat)
              simp only [fingerprint_Window.j1]
              rw [if_neg (by simp), if_pos (by omega), if_pos (by omega), if_pos (by omega), if_pos (by omega), show wrap64 (j - i) = j - i by unfold wrap64; omega, power_is _ (by omega), powS_nat (by omega) (by omega), Option.bind_some, mul_is ha (by omega) hw.1 hw.2, Option.bind_some, sub_is hb (by omega) hq hq', win_sum, Option.bind_some]
theorem win_sub {X y : Int} (y0 : 0 ≤ y) (y1 : y < P) : ((X + y) % P - X) % P = y := by
  refine Eq.trans (emod_P_eq ?_) (emod_small y0 y1)
  obtain ⟨k, hk⟩ := ex_emod (X + y)
  exact ⟨-k, by rw [hk]; grind⟩
/-- A window over the prefixes is the fingerprint of the part. -/
theorem winS_part (l : List Int) (i j : Nat) (hij : i ≤ j) (hj : j ≤ l.length) (hm : l.length ≤ 1048576) : winS (prefS l) (i : Int) (j : Int) = (fp ((l.take j).drop i), true) := by
  unfold winS
  rw [prefS_rd l i (by omega), prefS_rd l j hj, if_pos ⟨by omega, by omega, by rw [prefS_length]; omega, by omega, (fp_range _).2, (fp_range _).2⟩]
  have e : l.take j = l.take i ++ (l.take j).drop i := by
    have := (List.take_append_drop i (l.take j)).symm
    rw [List.take_take, Nat.min_eq_left hij] at this
    exact this
  have hl : ((l.take j).drop i).length = j - i := by rw [List.length_drop, List.length_take]; omega
  have h := fp_append (l.take i) ((l.take j).drop i)
  rw [← e, hl] at h
  have hr := fp_range ((l.take j).drop i)
  rw [show ((j : Int) - (i : Int)).toNat = j - i by omega, h]
  congr 1
  exact win_sub hr.1 hr.2
theorem prefixes_r {A : Option Addr} {c : Nat} {l : List Int} (w : World) (hr : Kd.C (Kd.int .u8) w A l.length l) (hc : l.length ≤ c) (hl : IsBytes l) (hn : l.length < 35184372088832) :
    Calls Try.prog 30 #[.slice A l.length c] w fun e w' => ∃ (A' : Option Addr) (c' : Nat) (p : List Int), e = .returned (.slice A' p.length c') ∧ Hid (p = prefS l) ∧ p.length ≤ c' ∧ Kd.C (Kd.int .u64) w' A' p.length p ∧ Below w.heap.size w w' :=
  (fingerprint_Prefixes.calls _ A c l _ w hr hc (prefixes_is hl hn (Nat.lt_succ_self _))).mono fun e w' ⟨v, he, hR, hb⟩ => by
    obtain ⟨A', c', hv, h1, h2⟩ := Kd.R_reads hR
    exact ⟨A', c', _, by rw [he, hv], rfl, h1, h2, hb⟩
theorem window_c {A : Option Addr} {c : Nat} {p : List Int} {i j x : Int} {ok : Bool} (w : World) (hr : Kd.C (Kd.int .u64) w A p.length p) (hc : p.length ≤ c) (hp : ∀ x ∈ p, 0 ≤ x) (hn : p.length ≤ 140737488351232) (h : winS p i j = (x, ok)) :
    Calls Try.prog 31 #[.slice A p.length c, .int .i64 i, .int .i64 j] w fun e w' => e = .returned (.tuple #[.int .u64 x, .bool ok]) ∧ Drawn0 w w' :=
  fingerprint_Window.calls 73 A c p i j _ _ w hr hc (by rw [window_is hp hn i j (by omega), h])
theorem prefS_nonneg (l : List Int) : ∀ x ∈ prefS l, 0 ≤ x := by
  intro x hx
  unfold prefS at hx
  obtain ⟨i, _, rfl⟩ := List.mem_map.1 hx
  exact (fp_range _).1
end Go.Proofs.Ytljnjhfikbhiaaa.Fp
