/- ChunkerFew, plainly: how many chunks there are; a larger mask with the same lower bits adds no boundary ahead of the first one that differs. -/
import Derived.Test.YtgfodmpdnhebjaaCp
import Derived.Test.YtgfodmpdnhebjaaGChunkerFew
import Derived.Laws.Bits64b
import Derived.Test.YtgfodmpdnhebjaaPxf7
namespace Go.Proofs.Ytgfodmpdnhebjaa.Walk
open Go.RowKit Go.Proofs.Ytgfodmpdnhebjaa.P Go.Proofs.Ytgfodmpdnhebjaa.Fp Go.Proofs.Ytgfodmpdnhebjaa.FM Go.Proofs.Ytgfodmpdnhebjaa.Ck Go.Proofs.Ytgfodmpdnhebjaa.Chk Go.Proofs.Ytgfodmpdnhebjaa.Cp Go.Proofs.YtgfodmpdnhebjaaW.PrintWords Go.Proofs.YtgfodmpdnhebjaaW.PrintLast
set_option linter.unusedVariables false
theorem rd_nat (E : List Nat) {i : Nat} (h : i < E.length) : rd (E.map Int.ofNat) (i : Int) = ((E.getD i 0 : Nat) : Int) := by
  simp [rd, List.getD_eq_getElem?_getD, h]
/-- The wider mask has one bit more. -/
theorem wide_mask {j : Nat} (hj : j < 5) : bits .or .u64 (2 ^ j - 1) (bits .or .u64 (IntKind.u64.wrap ((2 ^ j - 1) * 2)) 1) = 2 ^ (j + 1) - 1 := by
  have : j = 0 ∨ j = 1 ∨ j = 2 ∨ j = 3 ∨ j = 4 := by omega
  rcases this with rfl | rfl | rfl | rfl | rfl <;> decide
theorem and_mask {x : Int} (h0 : 0 ≤ x) (h1 : x < 18446744073709551616) {j : Nat} (hj : j ≤ 5) : bits .and .u64 x (2 ^ j - 1) = x % 2 ^ j := by
  obtain ⟨n, rfl⟩ := Int.eq_ofNat_of_zero_le h0
  have hp : 1 ≤ 2 ^ j ∧ 2 ^ j ≤ 32 := by
    have : j = 0 ∨ j = 1 ∨ j = 2 ∨ j = 3 ∨ j = 4 ∨ j = 5 := by omega
    rcases this with rfl | rfl | rfl | rfl | rfl | rfl <;> decide
  have e : ((2 : Int) ^ j - 1) = ((2 ^ j - 1 : Nat) : Int) := by
    rw [Int.ofNat_sub hp.1]
    simp
  rw [e, bits_and_u64_nat n (2 ^ j - 1) (by omega) (by omega), Nat.and_two_pow_sub_one_eq_mod]
  simp
theorem hit_wide {mn mx wd j : Nat} (hj : j < 5) {l : List Int} {k : Nat} (h : hit mn mx wd (2 ^ (j + 1) - 1) l k = true) : hit mn mx wd (2 ^ j - 1) l k = true := by
  have hr := fp_range (Wn wd l k)
  unfold hit at h ⊢
  have hP : P = 2305843009213693951 := rfl
  rw [and_mask hr.1 (by omega) (by omega)] at h ⊢
  generalize fp (Wn wd l k) = x at *
  simp only [Bool.and_eq_true, Bool.or_eq_true, decide_eq_true_eq, beq_iff_eq] at h ⊢
  refine ⟨h.1, h.2.imp id fun h2 => ?_⟩
  have : j = 0 ∨ j = 1 ∨ j = 2 ∨ j = 3 ∨ j = 4 := by omega
  rcases this with rfl | rfl | rfl | rfl | rfl <;> (simp only [Nat.reduceAdd, Int.reducePow] at h2 ⊢; omega)
theorem few_loop (E F : List Nat) (hE : E.length ≤ 1048576) (hF : F.length ≤ 1048576) (hg : ∀ i, i < E.length → i < F.length → (∀ j, j < i → E.getD j 0 = F.getD j 0) → E.getD i 0 ≤ F.getD i 0) (d : Nat) : ∀ (k i : Nat), E.length - i = d → 2 * d + 1 < k → i ≤ E.length → (∀ j, j < i → E.getD j 0 = F.getD j 0) →
    stockyardlaw24_ChunkerFew.l0 k (E.map Int.ofNat) (F.map Int.ofNat) (i : Int) = some true := by
  have hlE : (E.map Int.ofNat).length = E.length := List.length_map ..
  have hlF : (F.map Int.ofNat).length = F.length := List.length_map ..
  induction d with
  | zero =>
    intro k i h0 hk hi hs
    obtain ⟨k, rfl⟩ : ∃ m, k = m + 2 := ⟨k - 2, by omega⟩
    simp only [stockyardlaw24_ChunkerFew.l0]
    rw [hlE, if_neg (by omega)]
    simp only [stockyardlaw24_ChunkerFew.j3]
    rw [if_neg (by simp)]
  | succ d ih =>
    intro k i h0 hk hi hs
    obtain ⟨k, rfl⟩ : ∃ m, k = m + 2 := ⟨k - 2, by omega⟩
    simp only [stockyardlaw24_ChunkerFew.l0]
    rw [hlE, if_pos (by omega)]
    simp only [stockyardlaw24_ChunkerFew.j3]
    rw [hlF]
    by_cases hc : i < F.length
    · have hle := hg i (by omega) hc hs
      have hn : E.getD i 0 = F.getD i 0 → stockyardlaw24_ChunkerFew.l0 k (E.map Int.ofNat) (F.map Int.ofNat) ((i + 1 : Nat) : Int) = some true := fun he =>
        ih k (i + 1) (by omega) (by omega) (by omega) (fun j hj => by
          rcases Nat.lt_or_ge j i with h | h
          · exact hs j h
          · rw [show j = i by omega]; exact he)
      rw [if_pos (by simp only [decide_eq_true_eq]; omega), if_pos (by omega), hlE, if_pos (by omega), if_pos (by omega), rd_nat E (by omega), rd_nat F hc, show wrap64 ((i : Int) + 1) = ((i + 1 : Nat) : Int) by unfold wrap64; omega]
      generalize E.getD i 0 = x at *
      generalize F.getD i 0 = y at *
      by_cases he : x = y
      · rw [if_pos (by omega)]
        exact hn he
      · rw [if_neg (by omega), decide_eq_true (by omega)]
    · rw [if_neg (by simp only [decide_eq_true_eq]; omega)]
theorem ceil_lo {n m x : Nat} (hx : x ≤ 1000) (hn : n ≤ 1000) (hm : 1 ≤ m) (hm' : m ≤ 1000) (h : n ≤ x * m) : ¬ (x : Int) < wrap64 (Int.tdiv (wrap64 (wrap64 ((n : Int) + (m : Int)) - 1)) (m : Int)) := by
  rw [w64 (x := (n : Int) + m) (by omega) (by omega), w64 (x := (n : Int) + m - 1) (by omega) (by omega), Int.tdiv_eq_ediv_of_nonneg (by omega), show (n : Int) + m - 1 = ((n + m - 1 : Nat) : Int) by omega, ← Int.natCast_ediv]
  have h1 : (n + m - 1) / m ≤ x := by
    rw [Nat.div_le_iff_le_mul_add_pred hm, Nat.mul_comm]
    omega
  generalize (n + m - 1) / m = q at *
  rw [w64 (by omega) (by omega)]
  omega
theorem ceil_hi {n m x : Nat} (hx : x ≤ 1000) (hn : n ≤ 1000) (hm : 1 ≤ m) (hm' : m ≤ 1000) (h : 0 < x → (x - 1) * m < n) : ¬ (x : Int) > wrap64 (Int.tdiv (wrap64 (wrap64 ((n : Int) + (m : Int)) - 1)) (m : Int)) := by
  rw [w64 (x := (n : Int) + m) (by omega) (by omega), w64 (x := (n : Int) + m - 1) (by omega) (by omega), Int.tdiv_eq_ediv_of_nonneg (by omega), show (n : Int) + m - 1 = ((n + m - 1 : Nat) : Int) by omega, ← Int.natCast_ediv]
  have h2 : (n + m - 1) / m ≤ n + m - 1 := Nat.div_le_self _ _
  have h1 : x ≤ (n + m - 1) / m := by
    rcases Nat.eq_zero_or_pos x with h0 | h0
    · rw [h0]; exact Nat.zero_le _
    · have h3 := h h0
      rw [Nat.le_div_iff_mul_le hm]
      have : x * m = (x - 1) * m + m := by
        conv => lhs; rw [show x = x - 1 + 1 by omega, Nat.succ_mul]
      omega
  generalize (n + m - 1) / m = q at *
  rw [w64 (by omega) (by omega)]
  omega
theorem pureFew (l : List Int) (hl : Wf l) : stockyardlaw24_ChunkerFew.f 20000 l = some true := by
  obtain ⟨mn, mx, wd, j, hm, hO, hj, hx⟩ := made_is hl (a := 0) (by omega) (by omega)
  obtain ⟨b, a, ht, hb, hB, ha, ha'⟩ := text_is hl (n := 120) (a := 0 + 4) (k := 20000) (by omega) (by omega) (by omega) (by omega) (by omega)
  have hbl : b.length ≤ 120 := by omega
  have hw1 := hO.w1
  have hwm := hO.wm
  have hmm := hO.mm
  have hp2 : (1 : Int) ≤ 2 ^ (j + 1) ∧ (2 : Int) ^ (j + 1) ≤ 32 := by
    have : j = 0 ∨ j = 1 ∨ j = 2 ∨ j = 3 ∨ j = 4 := by omega
    rcases this with rfl | rfl | rfl | rfl | rfl <;> decide
  have hO2 : Okp mn mx wd (2 ^ (j + 1) - 1) := ⟨hO.w1, hO.w2, hO.wm, hO.mm, hO.mc, by omega, by omega⟩
  have hle := ends_length_le (mn := mn) (mx := mx) (wd := wd) (ms := 2 ^ j - 1) b
  have hle2 := ends_length_le (mn := mn) (mx := mx) (wd := wd) (ms := 2 ^ (j + 1) - 1) b
  have hfew := ends_few (mn := mn) (mx := mx) (wd := wd) (ms := 2 ^ j - 1) (by omega) hmm b
  have hmono := ends_mono (mn := mn) (mx := mx) (wd := wd) (ms := 2 ^ j - 1) (ms' := 2 ^ (j + 1) - 1) (fun l k h => hit_wide hj h) b
  unfold stockyardlaw24_ChunkerFew.f
  rw [hm, Option.bind_some]
  simp only
  rw [ht, Option.bind_some]
  simp only
  rw [lEnds_is hO hB (by omega), Option.bind_some, wide_mask hj, lEnds_is hO2 hB (by omega), Option.bind_some, known_is (by omega), Option.bind_some]
  simp only
  rw [if_pos trivial, if_pos trivial]
  simp only [stockyardlaw24_ChunkerFew.j0, Bool.not_true]
  rw [if_neg (by simp), if_neg (by omega), endsI_length, if_neg (ceil_lo (by omega) (by omega) (by omega) (by omega) hfew.1), if_neg (by omega), decide_eq_false (ceil_hi (by omega) (by omega) (by omega) (by omega) (fun h0 => hfew.2 (by omega)))]
  simp only [stockyardlaw24_ChunkerFew.j1]
  rw [if_neg (by simp)]
  unfold endsI
  generalize ends mn mx wd (2 ^ j - 1) b = E at *
  generalize ends mn mx wd (2 ^ (j + 1) - 1) b = F at *
  exact few_loop E F (by omega) (by omega) hmono _ _ 0 rfl (by omega) (by omega) (fun j hj => absurd hj (by omega))
theorem ChunkerFew : Goal.ChunkerFew := by
  intro A c l w hr hc hn hw
  exact stockyardlaw24_ChunkerFew.calls 20000 A c l true w hr hc (pureFew l (Wf.of hn hw)) rfl
end Go.Proofs.Ytgfodmpdnhebjaa.Walk
