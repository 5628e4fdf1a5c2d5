/- The helpers of chapter 23's statements. -/
import Derived.Test.YtljnjhfikbhiaaaRsums
import Derived.Test.YtljnjhfikbhiaaaFj
import Derived.Test.YtljnjhfikbhiaaaPxf25
namespace Go.Proofs.Ytljnjhfikbhiaaa.Roll
open Go.RowKit Go.Proofs.Ytljnjhfikbhiaaa.P Go.Proofs.Ytljnjhfikbhiaaa.Fp Go.Proofs.Ytljnjhfikbhiaaa.FM Go.Proofs.YtljnjhfikbhiaaaW.PrintWords Go.Proofs.YtljnjhfikbhiaaaW.PrintLast Go.Proofs.YtljnjhfikbhiaaaW.PrintMore
set_option linter.unusedVariables false
set_option linter.unusedSimpArgs false
/-- The size that a statement makes of its number. -/
def szN (n : Int) : Nat := (foldS n 64).toNat + 1
theorem szN_1 (n : Int) : 1 ≤ szN n := by unfold szN; omega
theorem szN_2 (n : Int) : szN n ≤ 64 := by
  have h := foldS_range (v := n) (n := 64) (by omega)
  unfold szN
  omega
theorem size_c (n : Int) (w : World) (hn : -9223372036854775808 ≤ n ∧ n ≤ 9223372036854775807) : Calls Try.prog 12 #[.int .i64 n] w fun e w' => e = .returned (.int .i64 (szN n : Int)) ∧ Drawn0 w w' := by
  refine stockyardlaw23_size.calls n _ w ?_
  have h := foldS_range (v := n) (n := 64) (by omega)
  unfold stockyardlaw23_size.f
  rw [fold_is hn (by omega), Option.bind_some]
  unfold szN
  congr 1
  unfold wrap64
  omega
theorem C_new (k : IntKind) (l : List Int) (w : World) {t : TypeId} (hn : l.length ≤ 9223372036854775807) : Kd.C (Kd.int k) (w.alloc (.cells ⟨l.map (Value.int k)⟩ t (0, 0))) (some ⟨w.heap.size, 0, none⟩) l.length l := by
  refine ⟨rfl, by simpa using hn, fun _ => ⟨⟨w.heap.size, 0, none⟩, rfl, fun j p hj => ?_⟩⟩
  refine ⟨[.int k p], rfl, rfl, fun i u hu => ?_⟩
  obtain ⟨hi, rfl⟩ := List.getElem?_eq_some_iff.1 hu
  have hi : i = 0 := by simpa using hi
  subst hi
  rw [add_plain]
  simp [Kd.int, Kd.scalar, hj]
theorem infoB : (Try.prog.info? 5).map (fun i => (i.zero, i.size, i.bytes)) = some (some (.int .u8 0), 1, 1) := by kernel_rfl
theorem cut_f {P : Program} {α : Type} (k : Kd α) (t e : TypeId) {i : TypeInfo} (ht : P.underlying t = some (.slice e)) (hi : P.info? e = some i) (hsz : i.size = k.sz) (A : Option Addr) (c : Nat) (xs : List α) (lo : Nat) (h1 : lo ≤ xs.length) (hc : xs.length ≤ c) :
    ∃ (A' : Option Addr) (c' : Nat) (l : List α), Hid (l = xs.drop lo) ∧ l.length ≤ c' ∧ (∀ w, k.C w A xs.length xs → k.C w A' l.length l) ∧
      ∀ W : World, (Instr.slice t (.slice A xs.length c) (some (.int .i64 (lo : Int))) none none).run P W = .ok (.slice A' l.length c') W := by
  refine ⟨if c = lo then A else A.map (·.add (lo * k.sz)), c - lo, xs.drop lo, Lib.hid rfl, by rw [List.length_drop]; omega, fun w h => ?_, fun W => ?_⟩
  · have := Kd.C_mid h (lo := lo) (hi := xs.length) h1 (Nat.le_refl _) hc
    rw [List.take_length] at this
    exact this
  · rw [cut_from t e .i64 ht hi k.sz hsz A xs.length c lo (by omega) (by omega) W]
    simp only [Int.toNat_natCast, List.length_drop]
set_option maxHeartbeats 4000000 in
set_option maxRecDepth 100000 in
theorem known_c (w0 : World) : Calls Try.prog 14 #[] w0 fun e w' => e = .returned (.bool true) ∧ Below w0.heap.size w0 w' := by
  go_enter Try.func14, Try.ntmps14
  go_wp2_with fail
  have hc0 : Kd.C (Kd.int .u8) (w0.alloc (.cells ⟨[0, 1, 0].map (Value.int .u8)⟩ 5 (0, 0))) (some ⟨w0.heap.size, 0, none⟩) [0, 1, 0].length [0, 1, 0] := C_new _ _ _ (by simp)
  refine (sums_c 2 (b := [0, 1, 0]) _ hc0 (Nat.le_refl _) (by intro x hx; simp at hx; omega) (by simp) (by omega) (by omega)).mono ?_
  rintro e w1 ⟨A1, c1, p1, rfl, hp1, hq1, hr1, hb1⟩
  have B1 := stepB ((Below.refl _ _).alloc (Nat.le_refl _) _) hb1
  have hp : p1 = [1, 747382712868975715, 1494765425737951427] := hp1.out.trans (by decide)
  subst hp
  obtain ⟨ad, rfl, had, hcl⟩ := C_cells hr1 (by simp)
  have l0 : w1.cell? ad = some (.int .u64 1) := by simpa [rd, Addr.add] using hcl 0 (by simp)
  have l1 : w1.cell? { block := ad.block, off := ad.off + 1 } = some (.int .u64 747382712868975715) := by simpa [rd, Addr.add] using hcl 1 (by simp)
  have l2 : w1.cell? { block := ad.block, off := ad.off + 2 } = some (.int .u64 1494765425737951427) := by simpa [rd, Addr.add] using hcl 2 (by simp)
  clear hcl
  have q1 : (0 : Int) < 3 := by omega
  go_wp2_with fail
  go_ret
  exact ⟨rfl, B1⟩
set_option maxHeartbeats 4000000 in
set_option maxRecDepth 100000 in
theorem pushed_c (n : Nat) {A : Option Addr} {c : Nat} {b : List Int} (w0 : World) (hr : Kd.C (Kd.int .u8) w0 A b.length b) (hc : b.length ≤ c) (hb : IsBytes b) (hl : b.length ≤ 140737488355328) (hn1 : 1 ≤ n) (hn2 : n ≤ 64) :
    Calls Try.prog 20 #[.int .i64 (n : Int), .slice A b.length c] w0 fun e w' => e = .returned (.pointer (some ⟨w0.heap.size, 0, none⟩)) ∧ Ro w' w0.heap.size n (W n b b.length) ∧ Below w0.heap.size w0 w' := by
  have Hb := Lib.hid hb
  clear hb
  go_enter Try.func20, Try.ntmps20
  go_wp2_with fail
  refine (new_ok n _ hn1 hn2).mono ?_
  rintro e w1 ⟨rfl, hR1, hb1, hs1⟩
  have B1 := stepB (Below.refl _ _) hb1
  have HR1 := Lib.hid hR1
  clear hR1
  go_wp2_with fail
  go_loopw [7] (fun i wr => ∃ k : Nat, k ≤ b.length ∧ i = .int .i64 k ∧ Ro wr w0.heap.size n (W n b k) ∧ Below w0.heap.size w0 wr) (fun i _ => b.length - (intOf i).toNat)
  case atStart => exact ⟨0, Nat.zero_le _, rfl, by rw [W_zero]; exact HR1.out, B1⟩
  case round =>
    obtain ⟨k, hk, rfl, hR, HB⟩ := hrel
    have hR := Lib.hid hR
    by_cases hlt : k < b.length
    · obtain ⟨ad, rfl, had, hcl⟩ := C_cells hr (by omega)
      have hload : wr.cell? (ad.add k) = some (.int .u8 (rd b k)) := by
        rw [HB.cell (p := ad.add k) (by rw [add_block]; exact had)]
        exact hcl k hlt
      clear hcl
      have hx := rd_byte Hb.out (i := (k : Int)) (by omega) (by omega)
      go_wp2_with (first | (go_at_call 23; go_must (refine (push_c _ _ _ _ _ hx hR.out).mono ?_); rintro e w4 ⟨rfl, hR4, hg4⟩; rw [W_succ hn1 hlt] at *; have hR4 := Lib.hid hR4))
      go_roundw
      case rel => exact ⟨k + 1, by omega, by go_num, hR4.out, HB.grown hg4 HB.size (fun g hg => by cases hg; exact Nat.le_refl _)⟩
      case measure => simp [intOf]; omega
    · obtain rfl : k = b.length := by omega
      go_wp2_with fail
      go_ret
      exact ⟨rfl, hR.out, HB⟩
end Go.Proofs.Ytljnjhfikbhiaaa.Roll
