/- The chunker's Ends, and the reference's End, in the print's form. -/
import Derived.Test.YtgfodmpdnhebjaaFin3
import Derived.Deep.DeepMust
namespace Go.Proofs.Ytgfodmpdnhebjaa.Chk
open Go.RowKit Go.Proofs.Ytgfodmpdnhebjaa.P Go.Proofs.Ytgfodmpdnhebjaa.Fp Go.Proofs.Ytgfodmpdnhebjaa.FM Go.Proofs.Ytgfodmpdnhebjaa.Roll Go.Proofs.Ytgfodmpdnhebjaa.Ck Go.Proofs.YtgfodmpdnhebjaaW.PrintWords Go.Proofs.YtgfodmpdnhebjaaW.PrintLast Go.Proofs.YtgfodmpdnhebjaaW.PrintMore
set_option linter.unusedVariables false
set_option linter.unusedSimpArgs false
instance (l : List Int) : Decidable (IsBytes l) := by unfold IsBytes; infer_instance
set_option maxHeartbeats 4000000 in
set_option maxRecDepth 100000 in
theorem ends_no {mn mx wd ms : Int} {l c : Nat} {A : Option Addr} (w0 : World) (h : ¬ Okq mn mx wd) :
    Calls Try.prog 27 #[.agg #[.int .i64 mn, .int .i64 mx, .int .i64 wd, .int .u64 ms], .slice A l c] w0 fun e w' => e = .returned (.tuple #[.slice none 0 0, .int .i64 240]) ∧ Below w0.heap.size w0 w' := by
  have H := Lib.hid h
  clear h
  go_enter Try.func27, Try.ntmps27
  go_wp2_with fail
  refine (newf_no _ H.out).mono ?_
  rintro e w1 ⟨rfl, hb1⟩
  have B1 : Below w0.heap.size w0 w1 := stepB ((Below.refl w0.heap.size w0).alloc (Nat.le_refl _) _) hb1
  go_wp2_with fail
  go_ret2
  exact ⟨rfl, B1⟩
set_option maxHeartbeats 4000000 in
set_option maxRecDepth 100000 in
theorem ends_long {mn mx wd : Nat} {ms : Int} {l c : Nat} {A : Option Addr} (w0 : World) (h : Okp mn mx wd ms) (hl : 1048576 < l) :
    Calls Try.prog 27 #[.agg #[.int .i64 mn, .int .i64 mx, .int .i64 wd, .int .u64 ms], .slice A l c] w0 fun e w' => e = .returned (.tuple #[.slice none 0 0, .int .i64 241]) ∧ Below w0.heap.size w0 w' := by
  have H := Lib.hid h
  clear h
  go_enter Try.func27, Try.ntmps27
  go_wp2_with fail
  refine (newf_ok _ H.out).mono ?_
  rintro e w1 ⟨f, g, rfl, hF1, hf, hg, hb1⟩
  have B1 : Below w0.heap.size w0 w1 := stepB ((Below.refl w0.heap.size w0).alloc (Nat.le_refl _) _) hb1
  clear hF1
  go_wp2_with fail
  go_ret2
  exact ⟨rfl, B1⟩
/-- What Ends comes to. -/
def endsS (mn mx wd ms : Int) (l : List Int) : Option (List Int × Int) :=
  if Okq mn mx wd then (if 0 ≤ ms ∧ ms < 18446744073709551616 then (if l.length > 1048576 then some ([], 241) else if IsBytes l then some (endsI mn.toNat mx.toNat wd.toNat ms l, 0) else none) else none) else some ([], 240)
theorem ends_calls (mn mx wd ms : Int) (A : Option Addr) (c : Nat) (l r1 : List Int) (r2 : Int) (w : World) (hr : Kd.C (Kd.int .u8) w A l.length l) (hc : l.length ≤ c) (h : endsS mn mx wd ms l = some (r1, r2)) :
    Calls Try.prog 27 #[.agg #[.int .i64 mn, .int .i64 mx, .int .i64 wd, .int .u64 ms], .slice A l.length c] w fun e w' => ∃ v0_ : Value, e = .returned (.tuple #[v0_, .int .i64 r2]) ∧ Kd.R (Kd.int .i64) 3 w' w.heap.size (fun _ => True) v0_ r1 ∧ Below w.heap.size w w' := by
  unfold endsS at h
  by_cases h1 : Okq mn mx wd
  · rw [if_pos h1] at h
    by_cases h2 : 0 ≤ ms ∧ ms < 18446744073709551616
    · rw [if_pos h2] at h
      have hO := h1.okp h2.1 h2.2
      obtain ⟨m, rfl⟩ := Int.eq_ofNat_of_zero_le (show 0 ≤ mn by have := h1; unfold Okq at this; omega)
      obtain ⟨x, rfl⟩ := Int.eq_ofNat_of_zero_le (show 0 ≤ mx by have := h1; unfold Okq at this; omega)
      obtain ⟨d, rfl⟩ := Int.eq_ofNat_of_zero_le (show 0 ≤ wd by have := h1; unfold Okq at this; omega)
      simp only [Int.toNat_natCast] at h hO
      by_cases h3 : l.length > 1048576
      · rw [if_pos h3] at h
        cases h
        exact (ends_long w hO h3).mono fun e w' ⟨he, hb⟩ => ⟨_, he, Kd.R_nil _ _ _ _ _, hb⟩
      · rw [if_neg h3] at h
        by_cases h4 : IsBytes l
        · rw [if_pos h4] at h
          cases h
          exact (ends_ok w hO hr hc h4 (by omega)).mono fun e w' ⟨v, he, hR, hb⟩ => ⟨v, he, hR, hb⟩
        · rw [if_neg h4] at h; cases h
    · rw [if_neg h2] at h; cases h
  · rw [if_neg h1] at h
    cases h
    exact (ends_no w h1).mono fun e w' ⟨he, hb⟩ => ⟨_, he, Kd.R_nil _ _ _ _ _, hb⟩
/-- What the reference's End comes to. -/
def endS (mn mx wd ms : Int) (l : List Int) (s : Int) : Option (Int × Bool) :=
  if Okq mn mx wd ∧ 0 ≤ ms ∧ ms < 18446744073709551616 ∧ IsBytes l ∧ 0 ≤ s ∧ s ≤ l.length ∧ l.length ≤ 1048576 then some (s + (endF mn.toNat mx.toNat wd.toNat ms (l.drop s.toNat)).1, (endF mn.toNat mx.toNat wd.toNat ms (l.drop s.toNat)).2) else none
def EndPost (mn mx wd : Nat) (ms : Int) (b : List Int) (s : Nat) (w0 : World) (e : Ending) (w' : World) : Prop := e = .returned (.tuple #[.int .i64 ((s + (endF mn mx wd ms (b.drop s)).1 : Nat) : Int), .bool (endF mn mx wd ms (b.drop s)).2]) ∧ Below w0.heap.size w0 w'
set_option maxHeartbeats 4000000 in
set_option maxRecDepth 100000 in
theorem end_ok {mn mx wd : Nat} {ms : Int} {b : List Int} {s : Nat} {A : Option Addr} {c : Nat} (w0 : World) (h : Okp mn mx wd ms) (hr : Kd.C (Kd.int .u8) w0 A b.length b) (hc : b.length ≤ c) (hb : IsBytes b) (hs : s ≤ b.length) (hl : b.length ≤ 1048576) :
    Calls Try.prog 36 #[.agg #[.int .i64 mn, .int .i64 mx, .int .i64 wd, .int .u64 ms], .slice A b.length c, .int .i64 s] w0 (EndPost mn mx wd ms b s w0) := by
  have H := Lib.hid h
  have Hb := Lib.hid hb
  have h1 := h.w1
  have h2 := h.w2
  have h3 := h.wm
  have h4 := h.mm
  have h5 := h.mc
  clear h hb
  obtain ⟨i5, hi5, _, hs5, _⟩ := info_parts infoB
  go_enter Try.func36, Try.ntmps36
  go_wp2_with fail
  have hW := heap_alloc_new w0 (.cells #[.int .i64 mn, .int .i64 mx, .int .i64 wd, .int .u64 ms] 28 (0, 0))
  have BW : Below w0.heap.size w0 (w0.alloc (.cells #[.int .i64 mn, .int .i64 mx, .int .i64 wd, .int .u64 ms] 28 (0, 0))) := (Below.refl w0.heap.size w0).alloc (Nat.le_refl _) _
  have hsz : w0.heap.size < (w0.alloc (.cells #[.int .i64 mn, .int .i64 mx, .int .i64 wd, .int .u64 ms] 28 (0, 0))).heap.size := by simp
  have hrW := Kd.C_below hr BW
  generalize w0.alloc (.cells #[.int .i64 mn, .int .i64 mx, .int .i64 wd, .int .u64 ms] 28 (0, 0)) = W1 at *
  have HW := Lib.hid hW
  have HBW := Lib.hid BW
  clear hW BW
  go_loopw [8] (fun e wr => ∃ k : Nat, mn ≤ k ∧ k ≤ mx ∧ e = .int .i64 ((s : Int) + k) ∧ Hid (∀ j, 0 < j → j < k → hit mn mx wd ms (b.drop s) j = false) ∧ Drawn0 W1 wr) (fun e _ => b.length + 1 - (intOf e).toNat)
  case atStart => exact ⟨mn, Nat.le_refl _, h4, rfl, Lib.hid (fun j g1 g2 => by simp [hit]; omega), Drawn0.refl _⟩
  case round =>
    obtain ⟨k, hk, hkx, rfl, hno, hD⟩ := hrel
    have hwr : wr.heap = W1.heap := by obtain ⟨n, rfl⟩ := hD.out; rfl
    have hbx : wr.heap[w0.heap.size]? = _ := (congrArg (fun h => h[w0.heap.size]?) hwr).trans HW.out
    have x0 := blk_cell hbx 0
    have x1 := blk_cell hbx 1
    have x2 := blk_cell hbx 2
    have x3 := blk_cell hbx 3
    simp at x0 x1 x2 x3
    have HD := Lib.hid hD
    have hrr := Kd.C_below hrW hD.below
    clear hwr hbx hD
    have w1 : IntKind.i64.wrap ((s : Int) + mx) = (s : Int) + mx := IntWalk.i64_in _ (by omega)
    have w2 : IntKind.i64.wrap ((s : Int) + k - wd) = (s : Int) + k - wd := IntWalk.i64_in _ (by omega)
    by_cases hle : s + k ≤ b.length
    · have hlen : (b.drop s).length = b.length - s := List.length_drop
      have Hlen := Lib.hid hlen
      clear hlen
      by_cases hm : k = mx
      · have hcb : (((s : Int) + k) == ((s : Int) + mx)) = true := by simp; omega
        have Hm := Lib.hid hm
        clear hm
        go_wp2_with fail
        go_quiet (fail)
        go_wp2_with fail
        go_ret2
        have he : endF mn mx wd ms (b.drop s) = (k, true) := endF_is (by omega) (by rw [Hlen.out]; omega) (by rw [Hm.out]; exact hit_mx h4) hno.out
        unfold EndPost
        rw [he]
        exact ⟨by simp, stepB HBW.out (pw_below_drewN HD.out.below _)⟩
      · have hcb : (((s : Int) + k) == ((s : Int) + mx)) = false := by simp; omega
        have hlt : k < mx := by omega
        clear hm
        obtain ⟨A6, c6, l6, e6, hc6, hr6, hcut⟩ := cut_r (Kd.int .u8) 30 5 Try.underlying30 hi5 hs5 A c b (s + k - wd) (s + k) (by omega) hle hc
        rw [show ((s + k - wd : Nat) : Int) = (s : Int) + k - wd by omega, show ((s + k : Nat) : Int) = (s : Int) + k by omega] at hcut
        have ew : l6 = Wn wd (b.drop s) k := by
          rw [e6.out]
          unfold Wn
          rw [List.take_drop, List.drop_drop]
          congr 1
          omega
        have hl6 : IsBytes l6 := by rw [e6.out]; exact fun x hx => Hb.out x (List.mem_of_mem_take (List.mem_of_mem_drop hx))
        have hn6 : l6.length ≤ 140737488351232 := by rw [e6.out, List.length_drop, List.length_take]; omega
        have q1 : ∀ n, Calls Try.prog 41 #[.slice A6 l6.length c6] (wr.drewN n) fun e w' => e = .returned (.int .u64 (fp l6)) ∧ ∃ k, w' = wr.drewN k := fun n =>
          quiet_d (Sum_c _ (hr6 _ (Kd.C_below hrr ((Drawn0.refl wr).step n).below)) hc6 hl6 hn6)
        have hhit : hit mn mx wd ms (b.drop s) k = (Go.bits .and .u64 (fp l6) ms == 0) := by
          unfold hit
          rw [← ew]
          simp [hk, show ¬ k = mx by omega]
        have Hhit := Lib.hid hhit
        have Q1 := Lib.hid q1
        clear hhit hl6 hn6 ew hr6 q1
        by_cases h6 : (Go.bits .and .u64 (fp l6) ms == 0) = true
        · go_wp2_with fail
          go_quiet ((go_at_call 41; with_reducible exact Q1.out _))
          go_wp2_with fail
          go_ret2
          have he : endF mn mx wd ms (b.drop s) = (k, true) := endF_is (by omega) (by rw [Hlen.out]; omega) (by rw [Hhit.out]; exact h6) hno.out
          unfold EndPost
          rw [he]
          exact ⟨by simp, stepB HBW.out (pw_below_drewN HD.out.below _)⟩
        · have h6' : (Go.bits .and .u64 (fp l6) ms == 0) = false := by simpa using h6
          clear h6
          go_wp2_with fail
          go_quiet ((go_at_call 41; with_reducible exact Q1.out _))
          go_wp2_with fail
          go_roundw
          case rel =>
            refine ⟨k + 1, by omega, by omega, by go_num, Lib.hid (fun j g1 g2 => ?_), HD.out.step _⟩
            by_cases hj : j = k
            · rw [hj, Hhit.out]; exact h6'
            · exact hno.out j g1 (by omega)
          case measure => simp [intOf]; omega
    · have hlen : (b.drop s).length = b.length - s := List.length_drop
      have Hlen := Lib.hid hlen
      clear hlen
      go_wp2_with fail
      go_ret2
      have he : endF mn mx wd ms (b.drop s) = ((b.drop s).length, false) := endF_isn (fun j g1 g2 => hno.out j g1 (by have := Hlen.out; omega))
      unfold EndPost
      rw [he]
      refine ⟨?_, stepB HBW.out HD.out.below⟩
      rw [show s + ((b.drop s).length, false).1 = b.length by have := Hlen.out; show s + (b.drop s).length = _; omega]
      rfl
theorem end_calls (mn mx wd ms : Int) (A : Option Addr) (c : Nat) (l : List Int) (s r1 : Int) (r2 : Bool) (w : World) (hr : Kd.C (Kd.int .u8) w A l.length l) (hc : l.length ≤ c) (h : endS mn mx wd ms l s = some (r1, r2)) :
    Calls Try.prog 36 #[.agg #[.int .i64 mn, .int .i64 mx, .int .i64 wd, .int .u64 ms], .slice A l.length c, .int .i64 s] w fun e w' => e = .returned (.tuple #[.int .i64 r1, .bool r2]) ∧ Below w.heap.size w w' := by
  unfold endS at h
  split at h
  · rename_i hh
    obtain ⟨h1, h2, h3, h4, h5, h6, h7⟩ := hh
    have hO := h1.okp h2 h3
    obtain ⟨m, rfl⟩ := Int.eq_ofNat_of_zero_le (show 0 ≤ mn by have := h1; unfold Okq at this; omega)
    obtain ⟨x, rfl⟩ := Int.eq_ofNat_of_zero_le (show 0 ≤ mx by have := h1; unfold Okq at this; omega)
    obtain ⟨d, rfl⟩ := Int.eq_ofNat_of_zero_le (show 0 ≤ wd by have := h1; unfold Okq at this; omega)
    obtain ⟨t, rfl⟩ := Int.eq_ofNat_of_zero_le h5
    simp only [Int.toNat_natCast, Option.some.injEq, Prod.mk.injEq] at h hO
    obtain ⟨rfl, rfl⟩ := h
    exact (end_ok w hO hr hc h4 (by omega) h7).mono fun e w' ⟨he, hb⟩ => ⟨by rw [he, Int.natCast_add], hb⟩
  · cases h
end Go.Proofs.Ytgfodmpdnhebjaa.Chk
