-- What this claim does not use is left out (shake.py).
import Derived.Test.YtleapbbdpediiaaFc
import Derived.Test.YtleapbbdpediiaaPxf28
/- Joined: the concatenation of byte strings in new memory. -/
namespace Go.Proofs.Ytleapbbdpediiaa.Fp
open Go.RowKit Go.Proofs.Ytleapbbdpediiaa.P Go.Proofs.Ytleapbbdpediiaa.FM Go.Proofs.YtleapbbdpediiaaW.PrintWords Go.Proofs.YtleapbbdpediiaaW.PrintLast Go.Proofs.YtleapbbdpediiaaW.PrintMore
set_option linter.unusedVariables false
/-- 'xs[lo:hi]' of what is read: the part, under a new name. -/
theorem cut_r {P : Program} {α : Type} (k : Kd α) (t e : TypeId) {i : TypeInfo} (ht : P.underlying t = some (.slice e)) (hi : P.info? e = some i) (hsz : i.size = k.sz) (A : Option Addr) (c : Nat) (xs : List α) (lo hi' : Nat) (h1 : lo ≤ hi') (h2 : hi' ≤ xs.length) (hc : xs.length ≤ c) :
    ∃ (A' : Option Addr) (c' : Nat) (l : List α), Hid (l = (xs.take hi').drop lo) ∧ l.length ≤ c' ∧ (∀ w, k.C w A xs.length xs → k.C w A' l.length l) ∧
      ∀ W : World, (Instr.slice t (.slice A xs.length c) (some (.int .i64 (lo : Int))) (some (.int .i64 (hi' : Int))) none).run P W = .ok (.slice A' l.length c') W := by
  have hl : ((xs.take hi').drop lo).length = hi' - lo := by rw [List.length_drop, List.length_take]; omega
  refine ⟨if c = lo then A else A.map (·.add (lo * k.sz)), c - lo, (xs.take hi').drop lo, rfl, by omega, fun w h => Kd.C_mid h h1 h2 hc, fun W => ?_⟩
  rw [cut_mid t e .i64 .i64 ht hi k.sz hsz A xs.length c lo hi' (by omega) (by omega) (by omega) hc W]
  simp only [Int.toNat_natCast]
  rw [hl]
/-- At a call inside a region that only reads. -/
theorem quiet_d {P : Program} {f : FuncId} {args : Array Value} {W : World} {n : Nat} {v : Value} (h : Calls P f args (W.drewN n) fun e w' => e = .returned v ∧ Drawn0 (W.drewN n) w') :
    Calls P f args (W.drewN n) fun e w' => e = .returned v ∧ ∃ m, w' = W.drewN m :=
  h.mono fun e w' ⟨he, hd⟩ => by
    obtain ⟨k, hk⟩ := hd.out
    exact ⟨he, n + k, by rw [hk, World.drewN_drewN]⟩
theorem C_cells {k : IntKind} {w : World} {A : Option Addr} {l : List Int} (h : Kd.C (Kd.int k) w A l.length l) (h0 : 0 < l.length) : ∃ ad, A = some ad ∧ ad.block < w.heap.size ∧ ∀ j : Nat, j < l.length → w.cell? (ad.add j) = some (.int k (rd l j)) := by
  obtain ⟨ad, rfl, hc⟩ := h.2.2 h0
  have key : ∀ j : Nat, j < l.length → w.cell? (ad.add j) = some (.int k (rd l j)) := fun j hj => by
    obtain ⟨c, hs, hK, hcell⟩ := hc j _ (List.getElem?_eq_getElem hj)
    have hK' : c = [.int k l[j]] := hK
    subst hK'
    have := hcell 0 _ rfl
    simpa [rd, List.getD, hj, Kd.int, Kd.scalar] using this
  refine ⟨ad, rfl, ?_, key⟩
  have := World.block_lt_of_cell? w _ (key 0 h0)
  simpa [Addr.add] using this
end Go.Proofs.Ytleapbbdpediiaa.Fp
