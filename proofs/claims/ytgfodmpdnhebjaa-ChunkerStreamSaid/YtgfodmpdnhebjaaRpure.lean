/- The rolling window, plainly: where the window's bytes lie in the ring, and what a push does to the fingerprint. -/
import Derived.Test.YtgfodmpdnhebjaaFrest
namespace Go.Proofs.Ytgfodmpdnhebjaa.Roll
open Go.RowKit Go.Proofs.Ytgfodmpdnhebjaa.P Go.Proofs.Ytgfodmpdnhebjaa.Fp Go.Proofs.Ytgfodmpdnhebjaa.FM Go.Proofs.YtgfodmpdnhebjaaW.PrintWords Go.Proofs.YtgfodmpdnhebjaaW.PrintLast Go.Proofs.YtgfodmpdnhebjaaW.PrintMore
set_option linter.unusedVariables false
set_option linter.unusedSimpArgs false
/-- Byte j of the window lies here in the ring (t: where the next byte is written). -/
def Pos (ring win : List Int) (n t : Nat) : Prop := ∀ j : Nat, j < win.length → rd win (j : Int) = rd ring ((if t + j < win.length then t + n - win.length + j else t + j - win.length : Nat) : Int)
theorem rd_set (l : List Int) (i t : Nat) (b : Int) (h : t < l.length) : rd (l.set t b) (i : Int) = if i = t then b else rd l (i : Int) := by
  unfold rd
  simp only [Int.toNat_natCast, List.getD_eq_getElem?_getD, List.getElem?_set]
  split
  · subst_vars; simp [h]
  · rename_i hc; rw [if_neg (by omega)]
theorem rd_snoc (l : List Int) (b : Int) (i : Nat) (h : i ≤ l.length) : rd (l ++ [b]) (i : Int) = if i = l.length then b else rd l (i : Int) := by
  unfold rd
  simp only [Int.toNat_natCast, List.getD_eq_getElem?_getD, List.getElem?_append]
  by_cases hc : i = l.length
  · subst hc; simp
  · rw [if_pos (by omega), if_neg hc]
theorem rd_tail (l : List Int) (i : Nat) : rd l.tail (i : Int) = rd l ((i + 1 : Nat) : Int) := by
  unfold rd
  simp only [Int.toNat_natCast, List.getD_eq_getElem?_getD, List.getElem?_tail]
/-- Where the next byte is written behind a push. -/
def nx (n t : Nat) : Nat := if t + 1 = n then 0 else t + 1
theorem nx_lt {n t : Nat} (h : t < n) : nx n t < n := by unfold nx; split <;> omega
theorem nx_mod {n t : Nat} (h : t < n) : ((t : Int) + 1) % (n : Int) = (nx n t : Int) := by
  unfold nx
  split
  · rename_i hc
    rw [show (t : Int) + 1 = n by omega, Int.emod_self]
    rfl
  · rw [Int.emod_eq_of_lt (by omega) (by omega)]
    omega
/-- What is left of the window when a byte comes. -/
def room (n : Nat) (win : List Int) : List Int := if win.length = n then win.tail else win
theorem room_length {n : Nat} {win : List Int} (h : win.length ≤ n) (hn : 1 ≤ n) : (room n win).length + 1 ≤ n ∧ ((room n win).length = if win.length = n then n - 1 else win.length) := by
  unfold room
  split
  · rw [List.length_tail]; omega
  · omega
theorem pos_push {ring win : List Int} {n t : Nat} {b : Int} (h : Pos ring win n t) (ht : t < n) (hr : n ≤ ring.length) (hl : win.length ≤ n) : Pos (ring.set t b) (room n win ++ [b]) n (nx n t) := by
  intro j hj
  have hlen := room_length hl (by omega)
  rw [List.length_append, List.length_singleton] at hj ⊢
  rw [rd_snoc _ _ _ (by omega), rd_set _ _ _ _ (by omega)]
  by_cases hc : j = (room n win).length
  · rw [if_pos hc, if_pos (by unfold nx; split <;> split <;> omega)]
  · rw [if_neg hc, if_neg (by unfold nx; split <;> split <;> omega)]
    unfold room at *
    by_cases hw : win.length = n
    · rw [if_pos hw] at hc hj hlen ⊢
      rw [if_pos hw] at hlen
      rw [rd_tail, h (j + 1) (by omega), hlen.2, hw]
      congr 2
      unfold nx
      split <;> split <;> split <;> omega
    · rw [if_neg hw] at hc hj hlen ⊢
      rw [h j (by omega)]
      congr 2
      unfold nx
      split <;> split <;> split <;> omega
theorem pos_nil (ring : List Int) (n t : Nat) : Pos ring [] n t := fun j hj => by simp at hj
theorem fp_one {b : Int} (hb : 0 ≤ b ∧ b ≤ 255) : fp [b] = b + 1 := by
  have : st 0 b = b + 1 := by
    unfold st
    rw [Int.zero_mul, Int.zero_add]
    exact emod_small (by omega) (by rw [P_def]; omega)
  exact this
theorem pw_1 : pw 1 = B := by decide
theorem fp_valid {l : List Int} (h : l.length ≤ 1048576) : vld (fp l) (l.length : Int) = true := by
  refine vld_iff.2 ⟨by omega, by omega, (fp_range l).2, ?_⟩
  cases l with
  | nil => exact .inr rfl
  | cons y x => exact .inl (by simp only [List.length_cons]; omega)
theorem byte_valid {b : Int} (hb : 0 ≤ b ∧ b ≤ 255) : vld (b + 1) 1 = true := by
  have hp := P_def
  exact vld_iff.2 ⟨by omega, by omega, by omega, .inl (by omega)⟩
theorem join_byte {l : List Int} {b : Int} (hl : l.length < 1048576) (hb : 0 ≤ b ∧ b ≤ 255) : joinS (fp l) (l.length : Int) (b + 1) 1 = (fp (l ++ [b]), (l.length : Int) + 1, 0) := by
  unfold joinS
  rw [if_pos ⟨fp_valid (by omega), byte_valid hb⟩, if_neg (by omega), fp_append, fp_one hb]
  rfl
theorem win_sub' {X y : Int} (y0 : 0 ≤ y) (y1 : y < P) : ((X + y) % P - X) % P = y := by
  refine Eq.trans (emod_P_eq ?_) (emod_small y0 y1)
  obtain ⟨k, hk⟩ := ex_emod (X + y)
  exact ⟨-k, by rw [hk]; grind⟩
theorem rest_byte {l : List Int} (h0 : 0 < l.length) (hl : l.length ≤ 1048576) (hb : IsBytes l) : restS (fp l) (l.length : Int) (rd l 0 + 1) 1 = (fp l.tail, (l.tail.length : Int), 0) := by
  cases l with
  | nil => simp at h0
  | cons x l =>
    have hx : 0 ≤ x ∧ x ≤ 255 := hb x (by simp)
    have e : rd (x :: l) 0 = x := rfl
    have hf : fp (x :: l) = (fp [x] * pw l.length + fp l) % P := fp_append [x] l
    have hr := fp_range l
    rw [e]
    unfold restS
    rw [if_pos ⟨fp_valid hl, byte_valid hx⟩, if_neg (by simp only [List.length_cons]; omega)]
    rw [fp_one hx] at hf
    have hlen : ((x :: l).length : Int) - 1 = (l.length : Int) := by simp only [List.length_cons]; omega
    rw [hlen, if_neg]
    · rw [Int.toNat_natCast, hf, win_sub' hr.1 hr.2]
      rfl
    · rintro ⟨h1, h2⟩
      apply h2
      have : l = [] := List.eq_nil_of_length_eq_zero (by omega)
      subst this
      exact fp_one hx
theorem room_fp {n : Nat} {win : List Int} (h : win.length ≤ n) : IsBytes win → IsBytes (room n win) := fun hb x hx => by
  unfold room at hx
  split at hx
  · exact hb x (List.mem_of_mem_tail hx)
  · exact hb x hx
theorem rest_v {a m b n x y z : Int} (w : World) (a0 : 0 ≤ a) (b0 : 0 ≤ b) (h : restS a m b n = (x, y, z)) : Calls Try.prog 47 #[.agg #[.int .u64 a, .int .i64 m], .agg #[.int .u64 b, .int .i64 n]] w fun e w' =>
    e = .returned (.tuple #[.agg #[.int .u64 x, .int .i64 y], .int .i64 z]) ∧ Below w.heap.size w w' :=
  (rest_c w a0 b0).mono fun e w' ⟨he, hb⟩ => ⟨by rw [he, h], hb⟩
theorem join_v {a m b n x y z : Int} (w : World) (a0 : 0 ≤ a) (b0 : 0 ≤ b) (h : joinS a m b n = (x, y, z)) : Calls Try.prog 49 #[.agg #[.int .u64 a, .int .i64 m], .agg #[.int .u64 b, .int .i64 n]] w fun e w' =>
    e = .returned (.tuple #[.agg #[.int .u64 x, .int .i64 y], .int .i64 z]) ∧ Below w.heap.size w w' :=
  (join_c w a0 b0).mono fun e w' ⟨he, hb⟩ => ⟨by rw [he, h], hb⟩
end Go.Proofs.Ytgfodmpdnhebjaa.Roll
