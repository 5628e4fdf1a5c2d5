/- rolling.Sums: the fingerprints of the window behind each byte. -/
import Derived.Test.YtljnjhfikbhiaaaRoll
import Derived.Test.YtljnjhfikbhiaaaFw
import Derived.Maps.AppendAt
import Derived.OwnWalk
import Derived.LoopTactic
import Derived.Laws.MakeOwn
namespace Go.Proofs.Ytljnjhfikbhiaaa.Roll
open Go.RowKit Go.Proofs.Ytljnjhfikbhiaaa.P Go.Proofs.Ytljnjhfikbhiaaa.Fp Go.Proofs.Ytljnjhfikbhiaaa.FM Go.Proofs.YtljnjhfikbhiaaaW.PrintWords Go.Proofs.YtljnjhfikbhiaaaW.PrintLast Go.Proofs.YtljnjhfikbhiaaaW.PrintMore
set_option linter.unusedVariables false
set_option linter.unusedSimpArgs false
/-- The window behind the first i bytes. -/
def W (n : Nat) (b : List Int) (i : Nat) : List Int := (b.take i).drop (i - n)
theorem W_zero (n : Nat) (b : List Int) : W n b 0 = [] := by simp [W]
theorem W_length {n i : Nat} {b : List Int} (h : i ≤ b.length) : (W n b i).length = min n i := by simp [W]; omega
theorem W_succ {n i : Nat} {b : List Int} (hn : 1 ≤ n) (h : i < b.length) : room n (W n b i) ++ [rd b i] = W n b (i + 1) := by
  have hx : b.take (i + 1) = b.take i ++ [rd b i] := by
    rw [List.take_succ_eq_append_getElem h]
    congr 2
    simp [rd, List.getD_eq_getElem?_getD, h]
  unfold room
  rw [W_length (by omega)]
  by_cases hc : n ≤ i
  · rw [if_pos (by omega), W, W, hx, List.tail_drop, List.drop_append, show i + 1 - n = i - n + 1 by omega, show i - n + 1 - (b.take i).length = 0 by simp; omega]
    rfl
  · rw [if_neg (by omega), W, W, hx, show i - n = 0 by omega, show i + 1 - n = 0 by omega]
    rfl
theorem W_bytes {n i : Nat} {b : List Int} (h : IsBytes b) : IsBytes (W n b i) := fun x hx => h x (List.mem_of_mem_take (List.mem_of_mem_drop hx))
theorem W_wide {n i : Nat} {b : List Int} (h : i ≤ n) : W n b i = b.take i := by rw [W, show i - n = 0 by omega]; rfl
/-- The fingerprints of the windows behind the first k bytes. -/
def S (n : Nat) (b : List Int) (k : Nat) : List Int := (List.range k).map fun i => fp (W n b (i + 1))
theorem S_length (n : Nat) (b : List Int) (k : Nat) : (S n b k).length = k := by simp [S]
theorem S_succ (n : Nat) (b : List Int) (k : Nat) : S n b (k + 1) = S n b k ++ [fp (W n b (k + 1))] := by simp [S, List.range_succ]
theorem S_rd {n i k : Nat} {b : List Int} (h : i < k) : rd (S n b k) (i : Int) = fp (W n b (i + 1)) := by
  simp [S, rd, List.getD_eq_getElem?_getD, h]
theorem infoU : (Try.prog.info? 39).map (fun i => (i.zero, i.size, i.bytes)) = some (some (.int .u64 0), 1, 8) := by kernel_rfl
theorem own_at {w : World} {base : Nat} {e : TypeId} {v : Value} {n : Nat} {xs : List Value} (h : w.ownsRow base e 1 v n xs) (hn : 0 < n) : ∃ g c cur, v = .slice (some ⟨g, 0, none⟩) n c ∧ base ≤ g ∧ w.heap[g]? = some (.cells cur e (0, 0)) ∧ n ≤ cur.size ∧ n ≤ c := by
  rcases h.2 with ⟨_, h0⟩ | ⟨g, c, cur, hv, hb, hg, hc, _, hs, _⟩
  · omega
  · exact ⟨g, c, cur, hv, hb, hg, by omega, hc⟩
theorem own_set {w : World} {base : Nat} {e : TypeId} {g n c : Nat} {xs : List Value} (h : w.ownsRow base e 1 (.slice (some ⟨g, 0, none⟩) n c) n xs) (i : Nat) (u : Value) : (w.setCell ⟨g, i, none⟩ u).ownsRow base e 1 (.slice (some ⟨g, 0, none⟩) n c) n (xs.set i u) := by
  refine ⟨by rw [List.length_set]; exact h.1, ?_⟩
  rcases h.2 with ⟨hv, _⟩ | ⟨g', c', cur, hv, hb, hg, hc, hm, hs, ht⟩
  · cases hv
  · cases hv
    refine .inr ⟨g, c, cur.setIfInBounds i u, rfl, hb, Go.Joins.block_setCell hg u, hc, hm, by rw [Array.size_setIfInBounds]; exact hs, ?_⟩
    rw [Array.toList_setIfInBounds, ← ht, List.take_set]
theorem own_move {w w' : World} {base : Nat} {e : TypeId} {g n c : Nat} {xs : List Value} (h : w.ownsRow base e 1 (.slice (some ⟨g, 0, none⟩) n c) n xs) (hm : w'.heap[g]? = w.heap[g]?) : w'.ownsRow base e 1 (.slice (some ⟨g, 0, none⟩) n c) n xs := by
  refine ⟨h.1, ?_⟩
  rcases h.2 with ⟨hv, _⟩ | ⟨g', c', cur, hv, hb, hg, hrest⟩
  · cases hv
  · cases hv
    exact .inr ⟨g, c, cur, rfl, hb, hm.trans hg, hrest⟩
theorem own_cell {w : World} {base : Nat} {e : TypeId} {g n c : Nat} {xs : List Value} (h : w.ownsRow base e 1 (.slice (some ⟨g, 0, none⟩) n c) n xs) (i : Nat) (hi : i < n) : (∃ u, w.cell? ⟨g, i, none⟩ = some u) ∧ w.frozen? ⟨g, i, none⟩ = false ∧ g < w.heap.size := by
  obtain ⟨g', c', cur, hv, hb, hg, hs, _⟩ := own_at h (by omega)
  cases hv
  exact ⟨⟨cur[i], (blk_cell hg i).trans (by rw [Array.getElem?_eq_getElem])⟩, blk_frozen hg i, blk_lt hg⟩
theorem take_set_succ {α : Type} (xs : List α) (k : Nat) (u : α) (h : k < xs.length) : (xs.set k u).take (k + 1) = xs.take k ++ [u] := by
  rw [List.take_succ_eq_append_getElem (by rw [List.length_set]; exact h), List.take_set_of_le (Nat.le_refl _), List.getElem_set_self]
theorem nums_snoc (l : List Int) (x : Int) : nums .u64 (l ++ [x]) = nums .u64 l ++ [.int .u64 x] := by simp [nums]
theorem nums_set (l : List Int) (i : Nat) (x : Int) : nums .u64 (l.set i x) = (nums .u64 l).set i (.int .u64 x) := by simp [nums, List.map_set]
set_option maxHeartbeats 4000000 in
set_option maxRecDepth 100000 in
theorem sums_f (n : Nat) {A : Option Addr} {c : Nat} {b : List Int} (w0 : World) (hr : Kd.C (Kd.int .u8) w0 A b.length b) (hc : b.length ≤ c) (hb : IsBytes b) (hl : b.length ≤ 35184372088832) (hn1 : 1 ≤ n) (hn2 : n ≤ 64) :
    Calls Try.prog 11 #[.int .i64 (n : Int), .slice A b.length c] w0 fun e w' => ∃ (A' : Option Addr) (c' : Nat) (p : List Int), e = .returned (.tuple #[.slice A' p.length c', .int .i64 0]) ∧ Hid (p = S n b b.length) ∧ p.length ≤ c' ∧ Kd.C (Kd.int .u64) w' A' p.length p ∧ Below w0.heap.size w0 w' ∧ (∀ ad, A' = some ad → w0.heap.size ≤ ad.block) := by
  have Hb := Lib.hid hb
  clear hb
  obtain ⟨i0, hi, hz0, hz1, hz2⟩ : ∃ i0, Try.prog.info? 39 = some i0 ∧ i0.zero = some (.int .u64 0) ∧ i0.size = 1 ∧ i0.bytes = 8 := by
    have h := infoU
    cases e : Try.prog.info? 39 with
    | none => rw [e] at h; cases h
    | some i => rw [e] at h; simp at h; exact ⟨i, rfl, h.1, h.2.1, h.2.2⟩
  go_enter Try.func11, Try.ntmps11
  go_wp2_with fail
  refine (new_ok n _ hn1 hn2).mono ?_
  rintro e w1 ⟨rfl, hR1, hb1, hs1⟩
  have B1 := stepB (Below.refl _ _) hb1
  go_wp2_with (at_make; go_must (refine wpList_make_full _ rfl _ _ 23 rfl w0.heap.size 39 i0 (.int .u64 0) 1 Try.underlying23 hi hz0 hz1 .i64 .i64 _ _ b.length rfl rfl rfl rfl (by rw [hz2]; omega) (by unfold maxLen; omega) B1.size ?_); intro w3 hown3 hg3)
  rw [hs1] at hown3
  have B3 := B1.grown hg3 B1.size (fun k hk => by cases hk)
  have hR3 : Ro w3 w0.heap.size n (W n b 0) := by rw [W_zero]; exact hR1.grown hg3 (fun h => by cases h)
  have HR3 := Lib.hid hR3
  clear hR1 hR3
  go_loopw [27] (fun i wr => ∃ (k : Nat) (xs : List Value), k ≤ b.length ∧ i = .int .i64 k ∧ Ro wr w0.heap.size n (W n b k) ∧ wr.ownsRow w0.heap.size 39 1 (.slice (some ⟨w0.heap.size + 1, 0, none⟩) b.length b.length) b.length xs ∧ Hid (xs.take k = nums .u64 (S n b k)) ∧ Below w0.heap.size w0 wr) (fun i _ => b.length - (intOf i).toNat)
  case atStart => exact ⟨0, _, Nat.zero_le _, rfl, HR3.out, hown3, Lib.hid rfl, B3⟩
  case round =>
    obtain ⟨k, xs, hk, rfl, hR, hown, hxs, HB⟩ := hrel
    by_cases hlt : k < b.length
    · obtain ⟨ad, rfl, had, hcl⟩ := C_cells hr (by omega)
      have hload : wr.cell? (ad.add k) = some (.int .u8 (rd b k)) := by
        rw [HB.cell (p := ad.add k) (by rw [add_block]; exact had)]
        exact hcl k hlt
      clear hcl
      have hx := rd_byte Hb.out (i := (k : Int)) (by omega) (by omega)
      have hR := Lib.hid hR
      go_wp2_with (first | (go_at_call 23; go_must (refine (push_c _ _ _ _ _ hx hR.out).mono ?_); rintro e w4 ⟨rfl, hR4, hg4⟩; rw [W_succ hn1 hlt] at *; have hR4 := Lib.hid hR4; have hown4 := own_move hown (hg4.block (w0.heap.size + 1) (own_cell hown k hlt).2.2 (by simp)); obtain ⟨⟨u4, hc4⟩, hf4, hl4⟩ := own_cell hown4 k hlt))
      have hxl : k < xs.length := by rw [hown.1]; omega
      go_roundw
      case rel =>
        refine ⟨k + 1, xs.set k (.int .u64 (fp (W n b (k + 1)))), by omega, by go_num, hR4.out.move (Go.heap_setCell_other _ _ _ _ (by simp)), own_set hown4 k _, ?_, (HB.grown hg4 HB.size (fun g hg => by cases hg; exact Nat.le_refl _)).setCell (by simp) _⟩
        exact Lib.hid (by rw [take_set_succ _ _ _ hxl, S_succ, nums_snoc, hxs.out])
      case measure => simp [intOf]; omega
    · obtain rfl : k = b.length := by omega
      rw [List.take_of_length_le (by rw [hown.1]; omega)] at hxs
      obtain rfl := hxs.out
      obtain ⟨q, hq⟩ : ∃ q, q = S n b b.length := ⟨_, rfl⟩
      have hql : b.length = q.length := by rw [hq, S_length]
      rw [← hq, hql] at hown
      obtain ⟨A', c', hu, hc', hrq⟩ := Kd.R_reads (Kd.R_of_own (ok := fun _ => True) (enc := Value.int .u64) (h1 := fun _ => rfl) hown (fun _ _ => trivial))
      have Hq := Lib.hid hq
      have hu' : Value.slice (some ⟨w0.heap.size + 1, 0, none⟩) b.length b.length = .slice A' q.length c' := by rw [hql]; exact hu
      clear hq hxs hown hR hown3 HR3 hu
      injection hu' with h1 h2 h3
      subst h1
      subst h3
      have Hql := Lib.hid hql
      clear h2 hql
      go_wp2_with fail
      go_ret2
      refine ⟨some ⟨w0.heap.size + 1, 0, none⟩, b.length, q, ?_, Hq, hc', hrq, HB, (fun ad ha => by cases ha; exact Nat.le_succ _)⟩
      rw [← Hql.out]
      rfl
theorem sums_c (n : Nat) {A : Option Addr} {c : Nat} {b : List Int} (w0 : World) (hr : Kd.C (Kd.int .u8) w0 A b.length b) (hc : b.length ≤ c) (hb : IsBytes b) (hl : b.length ≤ 35184372088832) (hn1 : 1 ≤ n) (hn2 : n ≤ 64) :
    Calls Try.prog 11 #[.int .i64 (n : Int), .slice A b.length c] w0 fun e w' => ∃ (A' : Option Addr) (c' : Nat) (p : List Int), e = .returned (.tuple #[.slice A' p.length c', .int .i64 0]) ∧ Hid (p = S n b b.length) ∧ p.length ≤ c' ∧ Kd.C (Kd.int .u64) w' A' p.length p ∧ Below w0.heap.size w0 w' :=
  (sums_f n w0 hr hc hb hl hn1 hn2).mono fun e w' ⟨A', c', p, h1, h2, h3, h4, h5, _⟩ => ⟨A', c', p, h1, h2, h3, h4, h5⟩
set_option maxHeartbeats 4000000 in
theorem sums_no (n : Int) {A : Option Addr} {c : Nat} {l : Nat} (w0 : World) (h : n < 1 ∨ 64 < n) : Calls Try.prog 11 #[.int .i64 n, .slice A l c] w0 fun e w' => e = .returned (.tuple #[.slice none 0 0, .int .i64 230]) ∧ w0 = w' := by
  go_enter Try.func11, Try.ntmps11
  go_wp2_with fail
  refine (new_no n _ h).mono ?_
  rintro e w1 ⟨rfl, rfl⟩
  go_wp2_with fail
  go_ret2
  exact ⟨rfl, rfl⟩
end Go.Proofs.Ytljnjhfikbhiaaa.Roll
