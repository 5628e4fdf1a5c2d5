-- What this claim does not use is left out (shake.py).
import Derived.Test.YtleapbbdpediiaaFc
import Derived.Test.YtleapbbdpediiaaPxf28
/- Joined: the concatenation of byte strings in new memory. -/
namespace Go.Proofs.Ytleapbbdpediiaa.Fp
open Go.RowKit Go.Proofs.Ytleapbbdpediiaa.P Go.Proofs.Ytleapbbdpediiaa.FM Go.Proofs.YtleapbbdpediiaaW.PrintWords Go.Proofs.YtleapbbdpediiaaW.PrintLast Go.Proofs.YtleapbbdpediiaaW.PrintMore
set_option linter.unusedVariables false
theorem flatten_take_succ (L : List (List Int)) (n : Nat) (h : n < L.length) : (L.take (n + 1)).flatten = (L.take n).flatten ++ rd_L2 L n := by
  rw [List.take_succ_eq_append_getElem h, List.flatten_append]
  congr 1
  simp [rd_L2, List.getD, h]
theorem flatten_take_le (L : List (List Int)) (n : Nat) : (L.take n).flatten.length ≤ L.flatten.length := by
  have h := congrArg List.flatten (List.take_append_drop n L)
  rw [List.flatten_append] at h
  rw [← h, List.length_append]
  omega
theorem joined_loop (L : List (List Int)) (hL : L.flatten.length < 140737488355328) (hn : L.length ≤ 140737488351232) (d : Nat) : ∀ (k n : Nat), n ≤ L.length → L.length - n = d → d < k →
    stockyardmake_Joined.l0 k L (L.take n).flatten (n : Int) = some L.flatten := by
  induction d with
  | zero =>
    intro k n h0 h1 hk
    obtain ⟨k, rfl⟩ : ∃ m, k = m + 1 := ⟨k - 1, by omega⟩
    simp only [stockyardmake_Joined.l0]
    rw [if_neg (by omega), List.take_of_length_le (by omega)]
  | succ d ih =>
    intro k n h0 h1 hk
    obtain ⟨k, rfl⟩ : ∃ m, k = m + 1 := ⟨k - 1, by omega⟩
    have hl := flatten_take_le L (n + 1)
    have e := flatten_take_succ L n (by omega)
    have hl' := congrArg List.length e
    rw [List.length_append] at hl'
    simp only [stockyardmake_Joined.l0]
    rw [if_pos (by omega), if_pos (by omega), if_pos (by omega), ← e, show wrap64 ((n : Int) + 1) = ((n + 1 : Nat) : Int) by unfold wrap64; omega]
    exact ih k (n + 1) (by omega) (by omega) (by omega)
theorem joined_is {L : List (List Int)} (hL : L.flatten.length < 140737488355328) (hn : L.length ≤ 140737488351232) {k : Nat} (hk : L.length < k) : stockyardmake_Joined.f k L = some L.flatten :=
  joined_loop L hL hn L.length k 0 (by omega) (by omega) hk
/-- 'xs[lo:hi]' of what is read: the part, under a new name. -/
theorem cut_r {P : Program} {α : Type} (k : Kd α) (t e : TypeId) {i : TypeInfo} (ht : P.underlying t = some (.slice e)) (hi : P.info? e = some i) (hsz : i.size = k.sz) (A : Option Addr) (c : Nat) (xs : List α) (lo hi' : Nat) (h1 : lo ≤ hi') (h2 : hi' ≤ xs.length) (hc : xs.length ≤ c) :
    ∃ (A' : Option Addr) (c' : Nat) (l : List α), Hid (l = (xs.take hi').drop lo) ∧ l.length ≤ c' ∧ (∀ w, k.C w A xs.length xs → k.C w A' l.length l) ∧
      ∀ W : World, (Instr.slice t (.slice A xs.length c) (some (.int .i64 (lo : Int))) (some (.int .i64 (hi' : Int))) none).run P W = .ok (.slice A' l.length c') W := by
  have hl : ((xs.take hi').drop lo).length = hi' - lo := by rw [List.length_drop, List.length_take]; omega
  refine ⟨if c = lo then A else A.map (·.add (lo * k.sz)), c - lo, (xs.take hi').drop lo, rfl, by omega, fun w h => Kd.C_mid h h1 h2 hc, fun W => ?_⟩
  rw [cut_mid t e .i64 .i64 ht hi k.sz hsz A xs.length c lo hi' (by omega) (by omega) (by omega) hc W]
  simp only [Int.toNat_natCast]
  rw [hl]
end Go.Proofs.Ytleapbbdpediiaa.Fp
