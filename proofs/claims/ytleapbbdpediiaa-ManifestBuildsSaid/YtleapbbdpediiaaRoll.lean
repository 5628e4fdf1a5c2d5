-- What this claim does not use is left out (shake.py).
import Derived.Test.YtleapbbdpediiaaFc
import Derived.Test.YtleapbbdpediiaaPxf92
import Derived.Test.YtleapbbdpediiaaFj
import Derived.Deep.RegionHeld3
import Derived.Deep.QuietTactic
import Derived.BigQuiet
import Derived.Lib.Hide
import Derived.Deep.DeepMust
import Derived.Outline
import Derived.Lib.BufferOwn
import Derived.Laws.CopyOwn
import Derived.Lib.HexFns2
import Derived.Lib.SmallJoins
import Derived.Deep.DeepCutAuto
/- Rest: what both texts compute; its contract. -/
namespace Go.Proofs.Ytleapbbdpediiaa.Fp
open Go.RowKit Go.Proofs.Ytleapbbdpediiaa.P Go.Proofs.Ytleapbbdpediiaa.FM Go.Proofs.YtleapbbdpediiaaW.PrintWords Go.Proofs.YtleapbbdpediiaaW.PrintLast Go.Proofs.YtleapbbdpediiaaW.PrintMore
set_option linter.unusedVariables false
/-- What both Rests come to: the ID, the error. -/
def restS (a m b n : Int) : Int × Int × Int :=
  if vld a m = true ∧ vld b n = true then (if m - n < 0 then (0, 0, 221) else if m - n = 0 ∧ a ≠ b then (0, 0, 220) else ((a - b * pw (m - n).toNat) % P, m - n, 0)) else (0, 0, 220)
theorem rest_sum {a b : Int} {n : Nat} : (a - b * pw n % P) % P = (a - b * pw n) % P := by
  apply emod_P_eq
  obtain ⟨k, hk⟩ := ex_emod (b * pw n)
  exact ⟨k, by rw [hk]; grind⟩
theorem rest_is {a m b n : Int} (a0 : 0 ≤ a) (b0 : 0 ≤ b) {k : Nat} (hk : 72 ≤ k) : fingerprint_Rest.f k a m b n = some (restS a m b n) := by
  obtain ⟨k, rfl⟩ : ∃ m, k = m + 2 := ⟨k - 2, by omega⟩
  unfold fingerprint_Rest.f restS
  rw [valid_is, Option.bind_some, valid_is, Option.bind_some]
  by_cases ha : vld a m = true
  · by_cases hb : vld b n = true
    · rw [if_pos ha, if_pos ⟨ha, hb⟩, hb]
      obtain ⟨m0, m1, a1, _⟩ := vld_iff.1 ha
      obtain ⟨n0, n1, b1, _⟩ := vld_iff.1 hb
      have hp := pw_range (m - n).toNat
      have hq := emod_nonneg (b * pw (m - n).toNat)
      have hq' := emod_lt (b * pw (m - n).toNat)
      rw [show wrap64 (m - n) = m - n by unfold wrap64; omega]
      simp only [fingerprint_Rest.j0]
      rw [if_neg (by simp)]
      split
      · rfl
      · rename_i h0
        have tail : fingerprint_Rest.j1 (k + 1) (m - n) false a m b n = some ((a - b * pw (m - n).toNat) % P, m - n, 0) := by
          simp only [fingerprint_Rest.j1]
          rw [if_neg (by simp), power_is _ (by omega), powS_nat (by omega) (by omega), Option.bind_some, mul_is b0 b1 hp.1 hp.2, Option.bind_some, sub_is a0 a1 hq hq', rest_sum, Option.bind_some]
        split
        · rename_i h1
          by_cases he : a = b
          · rw [if_neg (by simp [he]), show (a != b) = false by simp [he]]
            exact tail
          · rw [if_pos ⟨h1, he⟩, show (a != b) = true by simp [he]]
            simp only [fingerprint_Rest.j1]
            rw [if_pos trivial]
        · rename_i h1
          rw [if_neg (by simp [h1])]
          exact tail
    · rw [if_pos ha, if_neg (by simp [hb])]
      simp only [fingerprint_Rest.j0]
      rw [if_pos (by simpa using hb)]
  · rw [if_neg ha, if_neg (by simp [ha])]
    simp only [fingerprint_Rest.j0]
    rw [if_pos trivial]
theorem rest_c {a m b n : Int} (w : World) (a0 : 0 ≤ a) (b0 : 0 ≤ b) : Calls Try.prog 92 #[.agg #[.int .u64 a, .int .i64 m], .agg #[.int .u64 b, .int .i64 n]] w fun e w' =>
    e = .returned (.tuple #[.agg #[.int .u64 (restS a m b n).1, .int .i64 (restS a m b n).2.1], .int .i64 (restS a m b n).2.2]) ∧ Below w.heap.size w w' :=
  fingerprint_Rest.calls 72 a m b n _ _ _ w (rest_is a0 b0 (by omega))
end Go.Proofs.Ytleapbbdpediiaa.Fp
/- The rolling window, plainly: where the window's bytes lie in the ring, and what a push does to the fingerprint. -/
namespace Go.Proofs.Ytleapbbdpediiaa.Roll
open Go.RowKit Go.Proofs.Ytleapbbdpediiaa.P Go.Proofs.Ytleapbbdpediiaa.Fp Go.Proofs.Ytleapbbdpediiaa.FM Go.Proofs.YtleapbbdpediiaaW.PrintWords Go.Proofs.YtleapbbdpediiaaW.PrintLast Go.Proofs.YtleapbbdpediiaaW.PrintMore
set_option linter.unusedVariables false
set_option linter.unusedSimpArgs false
/-- Byte j of the window lies here in the ring (t: where the next byte is written). -/
def Pos (ring win : List Int) (n t : Nat) : Prop := ∀ j : Nat, j < win.length → rd win (j : Int) = rd ring ((if t + j < win.length then t + n - win.length + j else t + j - win.length : Nat) : Int)
theorem rd_set (l : List Int) (i t : Nat) (b : Int) (h : t < l.length) : rd (l.set t b) (i : Int) = if i = t then b else rd l (i : Int) := by
  unfold rd
  simp only [Int.toNat_natCast, List.getD_eq_getElem?_getD, List.getElem?_set]
  split
  · subst_vars; simp [h]
  · rename_i hc; rw [if_neg (by omega)]
theorem rd_snoc (l : List Int) (b : Int) (i : Nat) (h : i ≤ l.length) : rd (l ++ [b]) (i : Int) = if i = l.length then b else rd l (i : Int) := by
  unfold rd
  simp only [Int.toNat_natCast, List.getD_eq_getElem?_getD, List.getElem?_append]
  by_cases hc : i = l.length
  · subst hc; simp
  · rw [if_pos (by omega), if_neg hc]
theorem rd_tail (l : List Int) (i : Nat) : rd l.tail (i : Int) = rd l ((i + 1 : Nat) : Int) := by
  unfold rd
  simp only [Int.toNat_natCast, List.getD_eq_getElem?_getD, List.getElem?_tail]
/-- Where the next byte is written behind a push. -/
def nx (n t : Nat) : Nat := if t + 1 = n then 0 else t + 1
theorem nx_lt {n t : Nat} (h : t < n) : nx n t < n := by unfold nx; split <;> omega
theorem nx_mod {n t : Nat} (h : t < n) : ((t : Int) + 1) % (n : Int) = (nx n t : Int) := by
  unfold nx
  split
  · rename_i hc
    rw [show (t : Int) + 1 = n by omega, Int.emod_self]
    rfl
  · rw [Int.emod_eq_of_lt (by omega) (by omega)]
    omega
/-- What is left of the window when a byte comes. -/
def room (n : Nat) (win : List Int) : List Int := if win.length = n then win.tail else win
theorem room_length {n : Nat} {win : List Int} (h : win.length ≤ n) (hn : 1 ≤ n) : (room n win).length + 1 ≤ n ∧ ((room n win).length = if win.length = n then n - 1 else win.length) := by
  unfold room
  split
  · rw [List.length_tail]; omega
  · omega
theorem pos_push {ring win : List Int} {n t : Nat} {b : Int} (h : Pos ring win n t) (ht : t < n) (hr : n ≤ ring.length) (hl : win.length ≤ n) : Pos (ring.set t b) (room n win ++ [b]) n (nx n t) := by
  intro j hj
  have hlen := room_length hl (by omega)
  rw [List.length_append, List.length_singleton] at hj ⊢
  rw [rd_snoc _ _ _ (by omega), rd_set _ _ _ _ (by omega)]
  by_cases hc : j = (room n win).length
  · rw [if_pos hc, if_pos (by unfold nx; split <;> split <;> omega)]
  · rw [if_neg hc, if_neg (by unfold nx; split <;> split <;> omega)]
    unfold room at *
    by_cases hw : win.length = n
    · rw [if_pos hw] at hc hj hlen ⊢
      rw [if_pos hw] at hlen
      rw [rd_tail, h (j + 1) (by omega), hlen.2, hw]
      congr 2
      unfold nx
      split <;> split <;> split <;> omega
    · rw [if_neg hw] at hc hj hlen ⊢
      rw [h j (by omega)]
      congr 2
      unfold nx
      split <;> split <;> split <;> omega
theorem pos_nil (ring : List Int) (n t : Nat) : Pos ring [] n t := fun j hj => by simp at hj
theorem fp_one {b : Int} (hb : 0 ≤ b ∧ b ≤ 255) : fp [b] = b + 1 := by
  have : st 0 b = b + 1 := by
    unfold st
    rw [Int.zero_mul, Int.zero_add]
    exact emod_small (by omega) (by rw [P_def]; omega)
  exact this
theorem fp_valid {l : List Int} (h : l.length ≤ 1048576) : vld (fp l) (l.length : Int) = true := by
  refine vld_iff.2 ⟨by omega, by omega, (fp_range l).2, ?_⟩
  cases l with
  | nil => exact .inr rfl
  | cons y x => exact .inl (by simp only [List.length_cons]; omega)
theorem byte_valid {b : Int} (hb : 0 ≤ b ∧ b ≤ 255) : vld (b + 1) 1 = true := by
  have hp := P_def
  exact vld_iff.2 ⟨by omega, by omega, by omega, .inl (by omega)⟩
theorem join_byte {l : List Int} {b : Int} (hl : l.length < 1048576) (hb : 0 ≤ b ∧ b ≤ 255) : joinS (fp l) (l.length : Int) (b + 1) 1 = (fp (l ++ [b]), (l.length : Int) + 1, 0) := by
  unfold joinS
  rw [if_pos ⟨fp_valid (by omega), byte_valid hb⟩, if_neg (by omega), fp_append, fp_one hb]
  rfl
theorem win_sub' {X y : Int} (y0 : 0 ≤ y) (y1 : y < P) : ((X + y) % P - X) % P = y := by
  refine Eq.trans (emod_P_eq ?_) (emod_small y0 y1)
  obtain ⟨k, hk⟩ := ex_emod (X + y)
  exact ⟨-k, by rw [hk]; grind⟩
theorem rest_byte {l : List Int} (h0 : 0 < l.length) (hl : l.length ≤ 1048576) (hb : IsBytes l) : restS (fp l) (l.length : Int) (rd l 0 + 1) 1 = (fp l.tail, (l.tail.length : Int), 0) := by
  cases l with
  | nil => simp at h0
  | cons x l =>
    have hx : 0 ≤ x ∧ x ≤ 255 := hb x (by simp)
    have e : rd (x :: l) 0 = x := rfl
    have hf : fp (x :: l) = (fp [x] * pw l.length + fp l) % P := fp_append [x] l
    have hr := fp_range l
    rw [e]
    unfold restS
    rw [if_pos ⟨fp_valid hl, byte_valid hx⟩, if_neg (by simp only [List.length_cons]; omega)]
    rw [fp_one hx] at hf
    have hlen : ((x :: l).length : Int) - 1 = (l.length : Int) := by simp only [List.length_cons]; omega
    rw [hlen, if_neg]
    · rw [Int.toNat_natCast, hf, win_sub' hr.1 hr.2]
      rfl
    · rintro ⟨h1, h2⟩
      apply h2
      have : l = [] := List.eq_nil_of_length_eq_zero (by omega)
      subst this
      exact fp_one hx
theorem rest_v {a m b n x y z : Int} (w : World) (a0 : 0 ≤ a) (b0 : 0 ≤ b) (h : restS a m b n = (x, y, z)) : Calls Try.prog 92 #[.agg #[.int .u64 a, .int .i64 m], .agg #[.int .u64 b, .int .i64 n]] w fun e w' =>
    e = .returned (.tuple #[.agg #[.int .u64 x, .int .i64 y], .int .i64 z]) ∧ Below w.heap.size w w' :=
  (rest_c w a0 b0).mono fun e w' ⟨he, hb⟩ => ⟨by rw [he, h], hb⟩
theorem join_v {a m b n x y z : Int} (w : World) (a0 : 0 ≤ a) (b0 : 0 ≤ b) (h : joinS a m b n = (x, y, z)) : Calls Try.prog 48 #[.agg #[.int .u64 a, .int .i64 m], .agg #[.int .u64 b, .int .i64 n]] w fun e w' =>
    e = .returned (.tuple #[.agg #[.int .u64 x, .int .i64 y], .int .i64 z]) ∧ Below w.heap.size w w' :=
  (join_c w a0 b0).mono fun e w' ⟨he, hb⟩ => ⟨by rw [he, h], hb⟩
end Go.Proofs.Ytleapbbdpediiaa.Roll
/- The rolling window: what the program's Roller is in memory, and the contracts of its functions. -/
namespace Go.Proofs.Ytleapbbdpediiaa.Roll
open Go.RowKit Go.Proofs.Ytleapbbdpediiaa.P Go.Proofs.Ytleapbbdpediiaa.Fp Go.Proofs.Ytleapbbdpediiaa.FM Go.Proofs.YtleapbbdpediiaaW.PrintWords Go.Proofs.YtleapbbdpediiaaW.PrintLast Go.Proofs.YtleapbbdpediiaaW.PrintMore
set_option linter.unusedVariables false
set_option linter.unusedSimpArgs false
/-- A roller's cells. -/
def RC (ring : List Int) (n t s m : Int) : Array Value := ⟨ring.map (Value.int .u8) ++ [.int .i64 n, .int .i64 t, .int .u64 s, .int .i64 m]⟩
section
variable {ring : List Int} {n t s m : Int} (h : ring.length = 64)
include h
theorem RC_ring (j : Nat) (hj : j < 64) : (RC ring n t s m)[j]? = some (.int .u8 (rd ring (j : Int))) := by
  simp [RC, rd, List.getD_eq_getElem?_getD, List.getElem?_append, h, hj]
theorem RC_n : (RC ring n t s m)[64]? = some (.int .i64 n) := by simp [RC, List.getElem?_append, h]
theorem RC_t : (RC ring n t s m)[65]? = some (.int .i64 t) := by simp [RC, List.getElem?_append, h]
theorem RC_s : (RC ring n t s m)[66]? = some (.int .u64 s) := by simp [RC, List.getElem?_append, h]
theorem RC_m : (RC ring n t s m)[67]? = some (.int .i64 m) := by simp [RC, List.getElem?_append, h]
theorem RC_set_ring (j : Nat) (hj : j < 64) (b : Int) : (RC ring n t s m).setIfInBounds j (.int .u8 b) = RC (ring.set j b) n t s m := by
  simp [RC, List.set_append, h, hj]
theorem RC_set_n (b : Int) : (RC ring n t s m).setIfInBounds 64 (.int .i64 b) = RC ring b t s m := by simp [RC, List.set_append, h]
theorem RC_set_t (b : Int) : (RC ring n t s m).setIfInBounds 65 (.int .i64 b) = RC ring n b s m := by simp [RC, List.set_append, h]
theorem RC_set_s (b : Int) : (RC ring n t s m).setIfInBounds 66 (.int .u64 b) = RC ring n t b m := by simp [RC, List.set_append, h]
theorem RC_set_m (b : Int) : (RC ring n t s m).setIfInBounds 67 (.int .i64 b) = RC ring n t s b := by simp [RC, List.set_append, h]
end
/-- Block g of w is a roller of size n whose window is win. -/
def Ro (w : World) (g n : Nat) (win : List Int) : Prop :=
  ∃ (ring : List Int) (t : Nat), ring.length = 64 ∧ w.heap[g]? = some (.cells (RC ring n t (fp win) win.length) 137 (0, 0)) ∧ IsBytes ring ∧ t < n ∧ 1 ≤ n ∧ n ≤ 64 ∧ win.length ≤ n ∧ IsBytes win ∧ Pos ring win n t
theorem Ro.lt {w : World} {g n : Nat} {win : List Int} (h : Ro w g n win) : g < w.heap.size := by
  obtain ⟨ring, t, _, hb, _⟩ := h
  exact blk_lt hb
theorem Ro.move {w w' : World} {g n : Nat} {win : List Int} (h : Ro w g n win) (hm : w'.heap[g]? = w.heap[g]?) : Ro w' g n win := by
  obtain ⟨ring, t, h1, hb, h2⟩ := h
  exact ⟨ring, t, h1, hm.trans hb, h2⟩
theorem Ro.below {w w' : World} {g n : Nat} {win : List Int} (h : Ro w g n win) (hb : Below w.heap.size w w') : Ro w' g n win := h.move (hb.block g h.lt)
/-- A roller's cells when it is made. -/
def Z : Array Value := ⟨List.replicate 64 (.int .u8 0) ++ [.int .i64 0, .int .i64 0, .int .u64 0, .int .i64 0]⟩
theorem zero_run (w : World) : (zeroValue 137).run Try.prog w = .ok (.agg Z) w := by kernel_rfl
theorem Z_is : Z = RC (List.replicate 64 0) 0 0 0 0 := by simp [Z, RC]
theorem isBytes_zero : IsBytes (List.replicate 64 0) := fun x hx => by rw [List.eq_of_mem_replicate hx]; omega
set_option maxHeartbeats 4000000 in
set_option maxRecDepth 100000 in
theorem new_ok (n : Nat) (w0 : World) (h1 : 1 ≤ n) (h2 : n ≤ 64) : Calls Try.prog 85 #[.int .i64 (n : Int)] w0 fun e w' => e = .returned (.tuple #[.pointer (some ⟨w0.heap.size, 0, none⟩), .int .i64 0]) ∧ Ro w' w0.heap.size n [] ∧ Below w0.heap.size w0 w' ∧ w'.heap.size = w0.heap.size + 1 := by
  have hz := zero_run
  have hs : ¬ Z.size < 65 := by decide
  go_enter Try.func85, Try.ntmps85
  go_wp2_with fail
  go_ret2
  refine ⟨rfl, ?_, (Below.refl _ _).alloc (Nat.le_refl _) _, by simp⟩
  refine ⟨List.replicate 64 0, 0, by simp, ?_, isBytes_zero, by omega, h1, h2, by simp, (fun x hx => by cases hx), pos_nil _ _ _⟩
  rw [heap_alloc_new, Z_is, RC_set_n (by simp)]
  rfl
set_option maxHeartbeats 4000000 in
set_option maxRecDepth 100000 in
theorem letter_c (b : Int) (w0 : World) (hb : 0 ≤ b ∧ b ≤ 255) : Calls Try.prog 93 #[.int .u8 b] w0 fun e w' => e = .returned (.agg #[.int .u64 (b + 1), .int .i64 1]) ∧ Below w0.heap.size w0 w' := by
  have e1 : IntKind.u64.wrap b = b := Go.Proofs.Ytleapbbdpediiaa.Fp.wrap_small hb.1 (by omega)
  have e2 : IntKind.u64.wrap (b + 1) = b + 1 := Go.Proofs.Ytleapbbdpediiaa.Fp.wrap_small (by omega) (by omega)
  go_enter Try.func93, Try.ntmps93
  go_wp2_with fail
  exact bodyPost_ret (v := .agg #[.int .u64 (b + 1), .int .i64 1]) (by simp [results, Try.results93, go_sem]) rfl ⟨rfl, (Below.refl _ _).alloc (Nat.le_refl _) _⟩
/-- Block g of w is this roller, and nothing else that was there in w0 has changed. -/
def At (w0 : World) (g : Nat) (ring : List Int) (n t s m : Int) (w : World) : Prop := w.heap[g]? = some (.cells (RC ring n t s m) 137 (0, 0)) ∧ w0.grownBy w (some g)
section
variable {w0 w w' : World} {g : Nat} {ring : List Int} {n t s m : Int}
theorem At.lt (h : At w0 g ring n t s m w) : g < w.heap.size := blk_lt h.1
theorem At.below (h : At w0 g ring n t s m w) (hb : Below w.heap.size w w') : At w0 g ring n t s m w' := ⟨(hb.block g h.lt).trans h.1, Go.Lib.grownBy_below h.2 hb⟩
theorem At.drew (h : At w0 g ring n t s m w) : At w0 g ring n t s m w.drew := ⟨h.1, Go.Lib.Hx.grownBy_drew h.2⟩
theorem At.drewN (h : At w0 g ring n t s m w) (k : Nat) : At w0 g ring n t s m (w.drewN k) := ⟨h.1, ⟨h.2.os, h.2.tape, h.2.output, h.2.size, h.2.block⟩⟩
theorem At.set (h : At w0 g ring n t s m w) (i : Nat) (v : Value) {ring' : List Int} {n' t' s' m' : Int} (e : (RC ring n t s m).setIfInBounds i v = RC ring' n' t' s' m') : At w0 g ring' n' t' s' m' (w.setCell ⟨g, i, none⟩ v) :=
  ⟨by rw [← e]; exact Go.Joins.block_setCell h.1 v, Go.Lib.grownBy_setB h.2 i v⟩
theorem At.n_ (h : At w0 g ring n t s m w) (hr : ring.length = 64) : w.cell? ⟨g, 64, none⟩ = some (.int .i64 n) := (blk_cell h.1 64).trans (RC_n hr)
theorem At.t_ (h : At w0 g ring n t s m w) (hr : ring.length = 64) : w.cell? ⟨g, 65, none⟩ = some (.int .i64 t) := (blk_cell h.1 65).trans (RC_t hr)
theorem At.s_ (h : At w0 g ring n t s m w) (hr : ring.length = 64) : w.cell? ⟨g, 66, none⟩ = some (.int .u64 s) := (blk_cell h.1 66).trans (RC_s hr)
theorem At.m_ (h : At w0 g ring n t s m w) (hr : ring.length = 64) : w.cell? ⟨g, 67, none⟩ = some (.int .i64 m) := (blk_cell h.1 67).trans (RC_m hr)
theorem At.r_ (h : At w0 g ring n t s m w) (hr : ring.length = 64) (j : Nat) (hj : j < 64) : w.cell? ⟨g, j, none⟩ = some (.int .u8 (rd ring (j : Int))) := (blk_cell h.1 j).trans (RC_ring hr j hj)
theorem At.f_ (h : At w0 g ring n t s m w) (o : Nat) : w.frozen? ⟨g, o, none⟩ = false := blk_frozen h.1 o
theorem Ro.at_ {n : Nat} {win : List Int} (h : Ro w0 g n win) : ∃ (ring : List Int) (t : Nat), ring.length = 64 ∧ At w0 g ring n t (fp win) win.length w0 ∧ IsBytes ring ∧ t < n ∧ 1 ≤ n ∧ n ≤ 64 ∧ win.length ≤ n ∧ IsBytes win ∧ Pos ring win n t := by
  obtain ⟨ring, t, h1, h2, h3⟩ := h
  exact ⟨ring, t, h1, ⟨h2, World.grownBy.refl _ _⟩, h3⟩
end
theorem room_bytes {n : Nat} {win : List Int} (h : IsBytes win) : IsBytes (room n win) := by
  unfold room
  split
  · exact fun x hx => h x (List.mem_of_mem_tail hx)
  · exact h
set_option maxHeartbeats 4000000 in
set_option maxRecDepth 100000 in
theorem push_c (b : Int) (g n : Nat) (win : List Int) (w0 : World) (hb : 0 ≤ b ∧ b ≤ 255) (hR : Ro w0 g n win) : Calls Try.prog 86 #[.pointer (some ⟨g, 0, none⟩), .int .u8 b] w0 fun e w' =>
    e = .returned (.int .u64 (fp (room n win ++ [b]))) ∧ Ro w' g n (room n win ++ [b]) ∧ w0.grownBy w' (some g) := by
  obtain ⟨ring, t, hr, hat, hrb, ht, hn1, hn2, hl, hwb, hpos⟩ := hR.at_
  clear hR
  have Hat := Lib.hid hat
  have Hrb := Lib.hid hrb
  have Hwb := Lib.hid hwb
  have Hpos := Lib.hid hpos
  have Hr := Lib.hid hr
  clear hat hrb hwb hpos hr
  have ht0 : (0 : Int) ≤ (t : Int) := by omega
  have ht64 : (t : Int) < 64 := by omega
  have hg := Hat.out.lt
  have hfw := (fp_range win).1
  go_enter Try.func86, Try.ntmps86
  have cn := Hat.out.n_ Hr.out
  have ct := Hat.out.t_ Hr.out
  have cs := Hat.out.s_ Hr.out
  have cm := Hat.out.m_ Hr.out
  have cr := Hat.out.r_ Hr.out t (by omega)
  have hfz := Hat.out.f_
  go_wp2_with fail
  go_quiet (fail)
  go_upto_if 14 with (fail)
  go_cut [] (fun wx => At w0 g ring n t (fp (room n win)) (room n win).length wx)
  case first =>
    by_cases hc : win.length = n
    · have hcb : ((win.length : Int) == (n : Int)) = true := by simp [hc]
      have Hc := Lib.hid hc
      clear hc
      have hrt : 0 ≤ rd ring (t : Int) ∧ rd ring (t : Int) ≤ 255 := rd_byte Hrb.out (by omega) (by rw [Hr.out]; omega)
      have hrest : restS (fp win) (win.length : Int) (rd ring (t : Int) + 1) 1 = (fp (room n win), ((room n win).length : Int), 0) := by
        have e0 := Hpos.out 0 (by rw [Hc.out]; omega)
        rw [if_pos (by rw [Hc.out]; omega), show t + n - win.length + 0 = t by rw [Hc.out]; omega] at e0
        rw [← e0]
        have := rest_byte (l := win) (by rw [Hc.out]; omega) (by rw [Hc.out]; omega) Hwb.out
        unfold room
        rw [if_pos Hc.out]
        exact this
      have Hrest := Lib.hid hrest
      clear hrest
      go_wp2_with fail
      go_region_with (first | (go_at_call 93; go_must (refine (letter_c _ _ hrt).mono ?_); rintro e w1 ⟨rfl, hb1⟩; obtain ⟨c1, f1⟩ := bcell hb1; have z1 := hb1.size; (try simp at z1); have hg1 : g < w1.heap.size := (by omega); have k1n : w1.cell? { block := g, off := 64 } = some (.int .i64 n) := (by rw [c1 g 64 (by first | exact hg | simpa using hg)]; first | exact cn | simpa using cn); have k1t : w1.cell? { block := g, off := 65 } = some (.int .i64 t) := (by rw [c1 g 65 (by first | exact hg | simpa using hg)]; first | exact ct | simpa using ct); have k1s : w1.cell? { block := g, off := 66 } = some (.int .u64 (fp win)) := (by rw [c1 g 66 (by first | exact hg | simpa using hg)]; first | exact cs | simpa using cs); have k1m : w1.cell? { block := g, off := 67 } = some (.int .i64 win.length) := (by rw [c1 g 67 (by first | exact hg | simpa using hg)]; first | exact cm | simpa using cm); have k1r : w1.cell? { block := g, off := t } = some (.int .u8 (rd ring t)) := (by rw [c1 g t (by first | exact hg | simpa using hg)]; first | exact cr | simpa using cr); have k1f : ∀ o, w1.frozen? { block := g, off := o } = false := (by intro o; rw [f1 g o (by first | exact hg | simpa using hg)]; first | exact hfz o | simpa using hfz o); clear c1 f1) | (go_at_call 92; go_must (refine (rest_v _ hfw (by omega) Hrest.out).mono ?_); rintro e w2 ⟨rfl, hb2⟩; obtain ⟨c2, f2⟩ := bcell hb2; have z2 := hb2.size; (try simp at z2); have hg2 : g < w2.heap.size := (by omega); have k2n : w2.cell? { block := g, off := 64 } = some (.int .i64 n) := (by rw [c2 g 64 hg1]; first | exact k1n | simpa using k1n); have k2t : w2.cell? { block := g, off := 65 } = some (.int .i64 t) := (by rw [c2 g 65 hg1]; first | exact k1t | simpa using k1t); have k2s : w2.cell? { block := g, off := 66 } = some (.int .u64 (fp win)) := (by rw [c2 g 66 hg1]; first | exact k1s | simpa using k1s); have k2m : w2.cell? { block := g, off := 67 } = some (.int .i64 win.length) := (by rw [c2 g 67 hg1]; first | exact k1m | simpa using k1m); have k2f : ∀ o, w2.frozen? { block := g, off := o } = false := (by intro o; rw [f2 g o hg1]; exact k1f o); clear c2 f2))
      all_goals (go_wp2_with fail; go_meet; exact (((((Hat.out.drewN _).below hb1).below hb2).set 66 _ (RC_set_s Hr.out _)).set 67 _ (RC_set_m Hr.out _)))
    · have hcb : ((win.length : Int) == (n : Int)) = false := by simp; omega
      have Hc := Lib.hid hc
      clear hc
      have e : room n win = win := if_neg Hc.out
      go_wp2_with fail
      go_meet
      rw [e]
      exact Hat.out.drewN _
  case rest =>
    clear cn ct cs cm cr hfz hg hfw
    have Hcut := Lib.hid hcut
    have hg := hcut.lt
    have cn := hcut.n_ Hr.out
    have ct := hcut.t_ Hr.out
    have cr := hcut.r_ Hr.out t (by omega)
    have hfz := hcut.f_
    clear hcut
    go_upto_region 3 with (fail)
    go_cut [] (fun wx => At w0 g (ring.set t b) n t (fp (room n win)) (room n win).length wx)
    case first =>
      go_region
      all_goals (go_wp2_with fail; go_meet; first | exact (Hcut.out.set t _ (RC_set_ring Hr.out t (by omega) b)).drew | exact Hcut.out.drew.set t _ (RC_set_ring Hr.out t (by omega) b) | exact (Hcut.out.drewN _).set t _ (RC_set_ring Hr.out t (by omega) b))
    case rest =>
      clear cn ct cr hfz hg Hcut
      have Hcut := Lib.hid hcut
      have hr' : (ring.set t b).length = 64 := by rw [List.length_set]; exact Hr.out
      have Hr' := Lib.hid hr'
      clear hr'
      have hg := hcut.lt
      have cn := hcut.n_ Hr'.out
      have ct := hcut.t_ Hr'.out
      have hfz := hcut.f_
      clear hcut
      go_upto_region 4 with (fail)
      go_cut [] (fun wx => At w0 g (ring.set t b) n (nx n t) (fp (room n win)) (room n win).length wx)
      case first =>
        have ew : IntKind.i64.wrap ((t : Int) + 1) = (t : Int) + 1 := IntWalk.i64_in _ (by omega)
        go_region
        all_goals (go_wp2_with fail; go_meet; rw [nx_mod (by omega)]; exact (Hcut.out.set 65 _ (RC_set_t Hr'.out _)).drew)
      case rest =>
        clear cn ct hfz hg Hcut
        have Hcut := Lib.hid hcut
        have hg := hcut.lt
        have cs := hcut.s_ Hr'.out
        have cm := hcut.m_ Hr'.out
        have hfz := hcut.f_
        clear hcut
        have hfw := (fp_range (room n win)).1
        have hrl := (room_length hl hn1).1
        have hrr : IsBytes (room n win) := room_bytes Hwb.out
        have hj := join_byte (l := room n win) (b := b) (by omega) hb
        have Hj := Lib.hid hj
        have Hrr := Lib.hid hrr
        clear hj hrr
        go_upto_region 5 with (fail)
        go_cut [] (fun wx => At w0 g (ring.set t b) n (nx n t) (fp (room n win ++ [b])) ((room n win).length + 1) wx)
        case first =>
          go_region_with (first | (go_at_call 93; go_must (refine (letter_c _ _ hb).mono ?_); rintro e w1 ⟨rfl, hb1⟩; obtain ⟨c1, f1⟩ := bcell hb1; have z1 := hb1.size; (try simp at z1); have hg1 : g < w1.heap.size := (by omega); have k1s : w1.cell? { block := g, off := 66 } = some (.int .u64 (fp (room n win))) := (by rw [c1 g 66 (by first | exact hg | simpa using hg)]; first | exact cs | simpa using cs); have k1m : w1.cell? { block := g, off := 67 } = some (.int .i64 (room n win).length) := (by rw [c1 g 67 (by first | exact hg | simpa using hg)]; first | exact cm | simpa using cm); have k1f : ∀ o, w1.frozen? { block := g, off := o } = false := (by intro o; rw [f1 g o (by first | exact hg | simpa using hg)]; first | exact hfz o | simpa using hfz o); clear c1 f1) | (go_at_call 48; go_must (refine (join_v _ hfw (by omega) Hj.out).mono ?_); rintro e w2 ⟨rfl, hb2⟩; obtain ⟨c2, f2⟩ := bcell hb2; have z2 := hb2.size; (try simp at z2); have hg2 : g < w2.heap.size := (by omega); have k2s : w2.cell? { block := g, off := 66 } = some (.int .u64 (fp (room n win))) := (by rw [c2 g 66 hg1]; first | exact k1s | simpa using k1s); have k2m : w2.cell? { block := g, off := 67 } = some (.int .i64 (room n win).length) := (by rw [c2 g 67 hg1]; first | exact k1m | simpa using k1m); have k2f : ∀ o, w2.frozen? { block := g, off := o } = false := (by intro o; rw [f2 g o hg1]; exact k1f o); clear c2 f2))
          all_goals (go_wp2_with fail; go_meet; exact (((Hcut.out.drew.below hb1).below hb2).set 66 _ (RC_set_s Hr'.out _)).set 67 _ (RC_set_m Hr'.out _))
        case rest =>
          clear cs cm hfz hg Hcut
          have Hcut := Lib.hid hcut
          have hg := hcut.lt
          have cs := hcut.s_ Hr'.out
          have hfz := hcut.f_
          clear hcut
          have hw' : IsBytes (room n win ++ [b]) := by
            intro x hx
            rcases List.mem_append.1 hx with hx | hx
            · exact Hrr.out x hx
            · rw [List.mem_singleton] at hx; omega
          have hrr : IsBytes (ring.set t b) := by
            intro x hx
            rcases List.mem_or_eq_of_mem_set hx with hx | hx
            · exact Hrb.out x hx
            · omega
          have hp := pos_push (b := b) Hpos.out ht (by rw [Hr.out]; omega) hl
          have Hw' := Lib.hid hw'
          have Hrr' := Lib.hid hrr
          have Hp := Lib.hid hp
          clear hw' hrr hp
          go_wp2_with fail
          go_ret
          refine ⟨rfl, ⟨ring.set t b, nx n t, Hr'.out, ?_, Hrr'.out, nx_lt ht, hn1, hn2, ?_, Hw'.out, Hp.out⟩, Hcut.out.2⟩
          · rw [List.length_append, List.length_singleton, Int.natCast_add]
            exact Hcut.out.1
          · rw [List.length_append, List.length_singleton]
            exact hrl
set_option maxHeartbeats 4000000 in
set_option maxRecDepth 100000 in
theorem reset_m (g n : Nat) (win : List Int) (w0 : World) (hR : Ro w0 g n win) : Calls Try.prog 94 #[.pointer (some ⟨g, 0, none⟩)] w0 fun e w' => e = .returned (.tuple #[]) ∧ Ro w' g n [] ∧ w0.grownBy w' (some g) := by
  obtain ⟨ring, t, hr, hat, hrb, ht, hn1, hn2, hl, hwb, hpos⟩ := hR.at_
  have Hat := Lib.hid hat
  have Hrb := Lib.hid hrb
  have Hr := Lib.hid hr
  have ct := hat.t_ hr
  have cs := hat.s_ hr
  have cm := hat.m_ hr
  have hfz := hat.f_
  have hg := hat.lt
  clear hR hrb hwb hpos hr hat
  go_enter Try.func94, Try.ntmps94
  go_wp2_with fail
  go_end0
  exact ⟨rfl, ⟨ring, 0, Hr.out, (((Hat.out.set 65 _ (RC_set_t Hr.out 0)).set 66 _ (RC_set_s Hr.out 0)).set 67 _ (RC_set_m Hr.out 0)).1, Hrb.out, by omega, hn1, hn2, by simp, (fun x hx => by cases hx), pos_nil _ _ _⟩, (((Hat.out.set 65 _ (RC_set_t Hr.out 0)).set 66 _ (RC_set_s Hr.out 0)).set 67 _ (RC_set_m Hr.out 0)).2⟩
end Go.Proofs.Ytleapbbdpediiaa.Roll
