/- The contracts of package fingerprint's functions and of the statements' helpers, with what they compute. -/
import Derived.Test.YtbjadpeolkpmcaaFq
import Derived.Test.YtbjadpeolkpmcaaPxf15
import Derived.Test.YtbjadpeolkpmcaaPxf21
namespace Go.Proofs.Ytbjadpeolkpmcaa.Fp
open Go.RowKit Go.Proofs.Ytbjadpeolkpmcaa.P Go.Proofs.Ytbjadpeolkpmcaa.FM Go.Proofs.YtbjadpeolkpmcaaW.PrintWords Go.Proofs.YtbjadpeolkpmcaaW.PrintLast Go.Proofs.YtbjadpeolkpmcaaW.PrintMore
set_option linter.unusedVariables false
/-- Behind a call: the old cells read as they did, none of them is frozen or let go. -/
theorem bcell {W w1 : World} (hb : Below W.heap.size W w1) : (∀ b o, b < W.heap.size → w1.cell? ⟨b, o, none⟩ = W.cell? ⟨b, o, none⟩) ∧ (∀ b o, b < W.heap.size → w1.frozen? ⟨b, o, none⟩ = W.frozen? ⟨b, o, none⟩) :=
  ⟨fun b o h => hb.cell (p := ⟨b, o, none⟩) h, fun b o h => hb.frozen (p := ⟨b, o, none⟩) h⟩
theorem stepB {w W w1 : World} (hW : Below w.heap.size w W) (hb : Below W.heap.size W w1) : Below w.heap.size w w1 := below_then hW hW.size hb
theorem known_is {k : Nat} (hk : 10 ≤ k) : stockyardlaw22_known.f k = some true := by
  unfold stockyardlaw22_known.f
  have b1 : IsBytes [] := by intro x hx; cases hx
  have b2 : IsBytes [0] := by intro x hx; simp at hx; omega
  have b3 : IsBytes [0, 0] := by intro x hx; simp at hx; omega
  have b4 : IsBytes [1, 0] := by intro x hx; simp at hx; omega
  rw [sum_is b1 (by decide) (by simp; omega), Option.bind_some, if_pos (by decide), sum_is b2 (by decide) (by simp; omega), Option.bind_some, if_pos (by decide), sum_is b3 (by decide) (by simp; omega), Option.bind_some, if_pos (by decide), sum_is b4 (by decide) (by simp; omega), Option.bind_some]
  decide
theorem known_c (w : World) : Calls Try.prog 18 #[] w fun e w' => e = .returned (.bool true) ∧ Below w.heap.size w w' :=
  stockyardlaw22_known.calls 10 true w (known_is (by omega))
theorem sum_c {A : Option Addr} {c : Nat} {l : List Int} (w : World) (hr : Kd.C (Kd.int .u8) w A l.length l) (hc : l.length ≤ c) (hl : IsBytes l) (hn : l.length ≤ 140737488351232) :
    Calls Try.prog 21 #[.slice A l.length c] w fun e w' => e = .returned (.int .u64 (fp l)) ∧ Drawn0 w w' :=
  fingerprint_Sum.calls _ A c l _ w hr hc (sum_is hl hn (Nat.lt_succ_self _))
theorem Sum_c {A : Option Addr} {c : Nat} {l : List Int} (w : World) (hr : Kd.C (Kd.int .u8) w A l.length l) (hc : l.length ≤ c) (hl : IsBytes l) (hn : l.length ≤ 140737488351232) :
    Calls Try.prog 22 #[.slice A l.length c] w fun e w' => e = .returned (.int .u64 (fp l)) ∧ Drawn0 w w' :=
  stockyardref22_Sum.calls _ A c l _ w hr hc (Sum_is hl hn (Nat.lt_succ_self _))
theorem of_is {l : List Int} (hl : IsBytes l) (hn : l.length ≤ 140737488351232) {k : Nat} (hk : l.length < k) : fingerprint_Of.f k l = some (fp l, (l.length : Int)) := by
  unfold fingerprint_Of.f
  rw [sum_is hl hn hk, Option.bind_some]
theorem of_c {A : Option Addr} {c : Nat} {l : List Int} (w : World) (hr : Kd.C (Kd.int .u8) w A l.length l) (hc : l.length ≤ c) (hl : IsBytes l) (hn : l.length ≤ 140737488351232) :
    Calls Try.prog 23 #[.slice A l.length c] w fun e w' => e = .returned (.agg #[.int .u64 (fp l), .int .i64 (l.length : Int)]) ∧ Below w.heap.size w w' :=
  fingerprint_Of.calls _ A c l _ _ w hr hc (of_is hl hn (Nat.lt_succ_self _))
theorem join_c {a m b n : Int} (w : World) (a0 : 0 ≤ a) (b0 : 0 ≤ b) : Calls Try.prog 26 #[.agg #[.int .u64 a, .int .i64 m], .agg #[.int .u64 b, .int .i64 n]] w fun e w' =>
    e = .returned (.tuple #[.agg #[.int .u64 (joinS a m b n).1, .int .i64 (joinS a m b n).2.1], .int .i64 (joinS a m b n).2.2]) ∧ Below w.heap.size w w' :=
  fingerprint_Join.calls 71 a m b n _ _ _ w (join_is a0 b0 (by omega))
theorem Join_c {a m b n : Int} (w : World) (a0 : 0 ≤ a) (b0 : 0 ≤ b) : Calls Try.prog 27 #[.agg #[.int .u64 a, .int .i64 m], .agg #[.int .u64 b, .int .i64 n]] w fun e w' =>
    e = .returned (.tuple #[.agg #[.int .u64 (joinS a m b n).1, .int .i64 (joinS a m b n).2.1], .int .i64 (joinS a m b n).2.2]) ∧ Below w.heap.size w w' :=
  stockyardref22_Join.calls 71 a m b n _ _ _ w (Join_is a0 b0 (by omega))
theorem wf_u64 {a : Int} (h : (Lit.int .u64 a).wf = true) : 0 ≤ a ∧ a ≤ 18446744073709551615 := by
  simp [Lit.wf, IntKind.min, IntKind.max, IntKind.bits, IntKind.signed] at h
  omega
theorem wf_i64 {a : Int} (h : (Lit.int .i64 a).wf = true) : -9223372036854775808 ≤ a ∧ a ≤ 9223372036854775807 := by
  simp [Lit.wf, IntKind.min, IntKind.max, IntKind.bits, IntKind.signed] at h
  omega
/-- What the statements' 'made' gives. -/
def madeN (n m : Int) : Int := foldS n (m + 1)
def madeS (s n m : Int) : Int := if foldS n (m + 1) = 0 then 0 else s % P
theorem made_is {s n m : Int} (hs : 0 ≤ s) (hn : -9223372036854775808 ≤ n ∧ n ≤ 9223372036854775807) (hm : 0 ≤ m ∧ m ≤ 1048576) :
    stockyardlaw22_made.f s n m = some (madeS s n m, madeN n m) := by
  unfold stockyardlaw22_made.f madeS madeN
  rw [show wrap64 (m + 1) = m + 1 by unfold wrap64; omega, fold_is hn (by omega), Option.bind_some]
  split
  · rfl
  · rw [Int.tmod_eq_emod_of_nonneg hs]
    rfl
theorem made_valid {s n m : Int} (hm : 0 ≤ m ∧ m ≤ 1048576) : vld (madeS s n m) (madeN n m) = true := by
  have h := foldS_range (v := n) (n := m + 1) (by omega)
  have hp := P_def
  unfold madeS madeN
  rw [vld_iff]
  split
  · refine ⟨by omega, by omega, by omega, .inr rfl⟩
  · exact ⟨by omega, by omega, emod_lt _, .inl (by omega)⟩
theorem madeN_range {n m : Int} (hm : 0 ≤ m) : 0 ≤ madeN n m ∧ madeN n m ≤ m := by
  have h := foldS_range (v := n) (n := m + 1) (by omega)
  unfold madeN
  omega
theorem madeS_range {s n m : Int} : 0 ≤ madeS s n m ∧ madeS s n m < P := by
  unfold madeS
  split
  · exact ⟨by omega, P_pos⟩
  · exact ⟨emod_nonneg _, emod_lt _⟩
theorem madeS_zero {s n m : Int} (h : madeN n m = 0) : madeS s n m = 0 := if_pos h
theorem made_c {s n m : Int} (w : World) (hs : 0 ≤ s) (hn : -9223372036854775808 ≤ n ∧ n ≤ 9223372036854775807) (hm : 0 ≤ m ∧ m ≤ 1048576) :
    Calls Try.prog 17 #[.int .u64 s, .int .i64 n, .int .i64 m] w fun e w' => e = .returned (.agg #[.int .u64 (madeS s n m), .int .i64 (madeN n m)]) ∧ Below w.heap.size w w' :=
  stockyardlaw22_made.calls s n m _ _ w (made_is hs hn hm)
end Go.Proofs.Ytbjadpeolkpmcaa.Fp
