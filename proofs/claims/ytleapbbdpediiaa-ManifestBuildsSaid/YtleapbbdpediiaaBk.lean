-- What this claim does not use is left out (shake.py).
import Derived.RangeFuncBox
import Derived.RangeFuncLeaves
import Derived.RangeFuncNested
import Derived.Shelf.Abstract
import Derived.WalkKit
import Derived.OwnWalkIn
import Derived.TacticsInMore
import Derived.LoopNIn
import Derived.LoopIn
import Derived.Test.YtleapbbdpediiaaFc
import Derived.Lib.Hide
/- slices.Backward over chunks: what its iterator hands on, the last one first. -/
namespace Go.Proofs.Ytleapbbdpediiaa.Bk
open Go.RowKit Go.Shelf Go.Proofs.Ytleapbbdpediiaa.P Go.Proofs.YtleapbbdpediiaaW.PrintWords Go.Proofs.YtleapbbdpediiaaW.PrintLast Go.Proofs.YtleapbbdpediiaaW.PrintMore
set_option linter.unusedVariables false
set_option linter.unusedSimpArgs false
attribute [local go_sem] Oper.semAt_some
/-- What has come when k rounds are over: the last k indices, the last one first. -/
def downs (len k : Nat) : List Nat := (List.range k).map (fun j => len - 1 - j)
theorem downs_succ (len k : Nat) : downs len (k + 1) = downs len k ++ [len - 1 - k] := by simp [downs, List.range_succ]
theorem downs_length (len k : Nat) : (downs len k).length = k := by simp [downs]
/-- What a round keeps: what lay below n₀, and the iterator's own box. -/
def KpB (n₀ Bs : Nat) (W W' : World) : Prop := Below n₀ W W' ∧ W'.heap[Bs]? = W.heap[Bs]?
theorem KpB.trans {n₀ Bs : Nat} {A B C : World} (h : KpB n₀ Bs A B) (k : KpB n₀ Bs B C) : KpB n₀ Bs A C := ⟨h.1.trans k.1, k.2.trans h.2⟩
theorem KpB.refl (n₀ Bs : Nat) (W : World) : KpB n₀ Bs W W := ⟨Below.refl _ _, rfl⟩
theorem kpB_b {n₀ Bs : Nat} {w : World} (hn : n₀ ≤ w.heap.size) (hb : Bs < w.heap.size) (W : World) (l : Nat) (o o' : Obj) (hl : w.heap.size ≤ l) (h : W.heap[l]? = some o) (h1 : o.isCells = false) (h2 : o.isWalk = false) : KpB n₀ Bs W (W.putObj l o') :=
  ⟨belowK_b hn W l o o' hl h h1 h2, World.putObj_heap_other (by omega)⟩
set_option maxRecDepth 100000 in
set_option maxHeartbeats 2000000 in
theorem back1_in (n : Nat) (hn : 1 ≤ n) (l Bs n₀ len cap : Nat) (ad : Addr) (val : Nat → Value) (hlen : len ≤ 140737488351232) (c0 c1 c2 : Nat → Value) (J Jx : List Nat → World → Prop)
    (hval : ∀ j, val j = .agg #[c0 j, c1 j, c2 j])
    (hY : ∀ (pre : List Nat) (x : Nat) (W : World), J pre W → pre.length < len → YieldAt Fence.wide (n - 1) Try.prog l #[.int .i64 (x : Int), val x] W fun e W' =>
      (e = .returned (.bool true) ∧ J (pre ++ [x]) W' ∧ KpB n₀ Bs W W') ∨ (e = .returned (.bool false) ∧ Jx (pre ++ [x]) W'))
    (W : World) (hBs : W.cell? ⟨Bs, 0, none⟩ = some (.slice (some ad) len cap)) (hb : ad.block < n₀)
    (hc : ∀ j, j < len → W.cell? (ad.add (j * 3)) = some (c0 j) ∧ W.cell? ⟨(ad.add (j * 3)).block, (ad.add (j * 3)).off + 1, none⟩ = some (c1 j) ∧ W.cell? ⟨(ad.add (j * 3)).block, (ad.add (j * 3)).off + 2, none⟩ = some (c2 j))
    (h0 : J [] W) :
    CallsIn Fence.wide n Try.prog 76 #[.func (.yield l) #[] #[], .pointer (some ⟨Bs, 0, none⟩)] W fun e W' => (∃ v, e = .returned v) ∧ ((∃ ys, ys = downs len len ∧ J ys W') ∨ (∃ pre, True ∧ Jx pre W')) := by
  have Hc := Lib.hid hc
  have Hval := Lib.hid hval
  clear hc hval
  refine callsIn_of_wp Try.func76 rfl trivial ?_ rfl
  simp only [Try.ntmps76, List.size_toArray, List.length_cons, List.length_nil, Nat.reduceAdd, Nat.reduceSub, Array.replicate_succ, Array.replicate_zero, List.push_toArray, List.append_toArray, List.nil_append, List.cons_append]
  gi_wp2
  gi_loopw [3] (fun i wr => ∃ k : Nat, k ≤ len ∧ i = .int .i64 ((len : Int) - 1 - k) ∧ J (downs len k) wr ∧ KpB n₀ Bs W wr)
    (fun i _ => (intOf i + 1).toNat)
  case atStart => exact ⟨0, Nat.zero_le _, by simp, h0, KpB.refl _ _ _⟩
  case round =>
    obtain ⟨k, hk, rfl, hJs, hnx⟩ := hrel
    by_cases hlt : k < len
    · obtain ⟨fn, tmps, assign, body, hy, hR⟩ := hY _ (len - 1 - k) wr hJs (by rw [downs_length]; exact hlt)
      obtain ⟨j, hj⟩ : ∃ j : Nat, (len : Int) - 1 - k = j := ⟨len - 1 - k, by omega⟩
      have hj1 : len - 1 - k = j := by omega
      have hjl : j < len := by omega
      rw [hj1] at hy hR
      rw [Hval.out j] at hy
      obtain ⟨d0, d1, d2⟩ := Hc.out j hjl
      have e0 : wr.cell? (ad.add (j * 3)) = some (c0 j) := (hnx.1.cell (p := ad.add (j * 3)) (by rw [add_block]; exact hb)).trans d0
      have e1 : wr.cell? ⟨(ad.add (j * 3)).block, (ad.add (j * 3)).off + 1, none⟩ = some (c1 j) := (hnx.1.cell (p := ⟨(ad.add (j * 3)).block, (ad.add (j * 3)).off + 1, none⟩) (by rw [add_block]; exact hb)).trans d1
      have e2 : wr.cell? ⟨(ad.add (j * 3)).block, (ad.add (j * 3)).off + 2, none⟩ = some (c2 j) := (hnx.1.cell (p := ⟨(ad.add (j * 3)).block, (ad.add (j * 3)).off + 2, none⟩) (by rw [add_block]; exact hb)).trans d2
      have e3 : wr.cell? ⟨Bs, 0, none⟩ = some (.slice (some ad) len cap) := (World.cell?_of_block (a := ⟨Bs, 0, none⟩) hnx.2).trans hBs
      clear d0 d1 d2
      have hj0 : (0 : Int) ≤ (j : Int) := by omega
      rw [hj]
      clear hj1
      have Hj := Lib.hid hj
      clear hj
      gi_wp2
      refine hR.mono ?_
      rintro e W3 (⟨rfl, hJ3, hk3⟩ | ⟨rfl, hJx3⟩)
      · gi_wp2
        go_roundw
        case rel => exact ⟨k + 1, by omega, by have := Hj.out; congr 1; omega, by rw [downs_succ, show len - 1 - k = j by have := Hj.out; omega]; exact hJ3, hnx.trans hk3⟩
        case measure => simp [intOf]
      · gi_wp2
        refine bodyPost_ret (results_none rfl _ _ _) rfl ?_
        exact ⟨⟨_, rfl⟩, .inr ⟨_, trivial, hJx3⟩⟩
    · obtain rfl : k = len := by omega
      gi_wp2
      go_end0
      exact ⟨⟨_, rfl⟩, .inl ⟨_, rfl, hJs⟩⟩
set_option maxRecDepth 100000 in
set_option maxHeartbeats 2000000 in
theorem back1_nil (n : Nat) (l Bs cap : Nat) (A : Option Addr) (J : List Nat → World → Prop) (W : World) (hBs : W.cell? ⟨Bs, 0, none⟩ = some (.slice A 0 cap)) (h0 : J [] W) :
    CallsIn Fence.wide n Try.prog 76 #[.func (.yield l) #[] #[], .pointer (some ⟨Bs, 0, none⟩)] W fun e W' => (∃ v, e = .returned v) ∧ J [] W' := by
  refine callsIn_of_wp Try.func76 rfl trivial ?_ rfl
  simp only [Try.ntmps76, List.size_toArray, List.length_cons, List.length_nil, Nat.reduceAdd, Nat.reduceSub, Array.replicate_succ, Array.replicate_zero, List.push_toArray, List.append_toArray, List.nil_append, List.cons_append]
  gi_wp2
  gi_loopw [3] (fun i wr => i = .int .i64 (-1) ∧ J [] wr) (fun _ _ => 0)
  case atStart => exact ⟨rfl, h0⟩
  case round =>
    obtain ⟨rfl, hJs⟩ := hrel
    gi_wp2
    go_end0
    exact ⟨⟨_, rfl⟩, hJs⟩
set_option maxHeartbeats 1000000 in
/-- slices.Backward(l): the slice is boxed; the function value captures the box. -/
theorem back_c (A : Option Addr) (len cap : Nat) (w : World) :
    Calls Try.prog 56 #[.slice A len cap] w fun e w' => e = .returned (.func (.func 76) #[] #[.pointer (some ⟨w.heap.size, 0, none⟩)]) ∧ w' = w.alloc (.cells #[.slice A len cap] 23) := by
  go_enter Try.func56, Try.ntmps56
  go_wp2
  go_ret
  exact ⟨rfl, rfl⟩
/-- The bytes of the chunk at an index, as they lie in memory. -/
def hdr (v : Option Value) : Option Addr × Nat × Nat := match v with
  | some (.slice a n c) => (a, n, c)
  | _ => (none, 0, 0)
def hdrD (W : World) (A : Option Addr) (j : Nat) : Option Addr × Nat × Nat := hdr (A.bind fun ad => W.cell? ⟨(ad.add (j * 3)).block, (ad.add (j * 3)).off + 2, none⟩)
def valD (xs : List S53) (W : World) (A : Option Addr) (j : Nat) : Value :=
  .agg #[.int .u64 (rd_T53 xs j).f0.f0, .int .i64 (rd_T53 xs j).f0.f1, .slice (hdrD W A j).1 (hdrD W A j).2.1 (hdrD W A j).2.2]
/-- What slices.Backward hands back: an iterator over all indices, from the last one to the first; its body keeps what lay when the function began. -/
theorem back_stops (n : Nat) (hn : 1 ≤ n) (Bs : Nat) (A : Option Addr) (c : Nat) (xs : List S53) (hlen : xs.length ≤ 140737488351232) (w0 w : World) (hr : Kd.C k53 w0 A xs.length xs) (hB : Below w0.heap.size w0 w) (hBs : Bs < w.heap.size)
    (hc : w.cell? ⟨Bs, 0, none⟩ = some (.slice A xs.length c)) :
    SeqStopsK Fence.wide n Try.prog 76 #[.pointer (some ⟨Bs, 0, none⟩)] (fun x : Nat => #[Value.int .i64 (x : Int), valD xs w0 A x]) (KpB w0.heap.size Bs) (fun ys => ys = downs xs.length xs.length) (fun _ => True) xs.length w := fun l J Jx W hW _ _ hY h0 => by
  have hc' := (hW.cell (p := ⟨Bs, 0, none⟩) hBs).trans hc
  rcases Nat.eq_zero_or_pos xs.length with hz | hp
  · rw [hz] at hc' ⊢
    exact (back1_nil n l Bs c A J W hc' h0).mono fun e W' ⟨he, hj⟩ => ⟨he, .inl ⟨_, rfl, hj⟩⟩
  · obtain ⟨ad, A0, c0, rfl, g0, g1, g2, _⟩ := at_T53 hr 0 (by omega) (by omega)
    have hbk : ad.block < w0.heap.size := by
      have := World.block_lt_of_cell? w0 _ g0
      rwa [add_block] at this
    have hsz := hB.size
    refine back1_in n hn l Bs w0.heap.size xs.length c ad (valD xs w0 (some ad)) hlen (fun j => .int .u64 (rd_T53 xs j).f0.f0) (fun j => .int .i64 (rd_T53 xs j).f0.f1) (fun j => .slice (hdrD w0 (some ad) j).1 (hdrD w0 (some ad) j).2.1 (hdrD w0 (some ad) j).2.2) J Jx (fun j => rfl) hY W hc' (by omega) (fun j hj => ?_) h0
    obtain ⟨ad', Aj, cj, had, h0, h1, h2, _⟩ := at_T53 hr (j : Int) (by omega) (by omega)
    cases had
    simp only [Int.toNat_natCast] at h0 h1 h2
    have mv : ∀ p : Addr, p.block = ad.block → ∀ v, w0.cell? p = some v → W.cell? p = some v := fun p hp v hv => ((hW.cell (p := p) (by rw [hp]; omega)).trans (hB.cell (p := p) (by rw [hp]; omega))).trans hv
    refine ⟨mv _ (add_block _ _) _ h0, mv ⟨(ad.add (j * 3)).block, (ad.add (j * 3)).off + 1, none⟩ (add_block _ _) _ h1, mv ⟨(ad.add (j * 3)).block, (ad.add (j * 3)).off + 2, none⟩ (add_block _ _) _ ?_⟩
    unfold hdrD
    rw [Option.bind_some, h2]
    rfl
end Go.Proofs.Ytleapbbdpediiaa.Bk
