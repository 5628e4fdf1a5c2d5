-- What this claim does not use is left out (shake.py).
import Derived.Test.YtleapbbdpediiaaPx0
import Derived.Test.YtleapbbdpediiaaPxf45
-- Printed by a program (pr.py over the kit's print) out of the translation.
namespace Go.Proofs.Ytleapbbdpediiaa.P
open Go.RowKit Go.Proofs.YtleapbbdpediiaaW.PrintWords Go.Proofs.YtleapbbdpediiaaW.PrintLast Go.Proofs.YtleapbbdpediiaaW.PrintMore
attribute [local go_sem] max2_int min2_int max_two min_two max_three min_three max_four min_four   -- for this text's walks alone
set_option linter.unusedVariables false
set_option linter.unusedSimpArgs false

/-! ### fingerprint_Sum: function 63 -/
def fingerprint_Sum.l0 : Nat → Int → List Int → Int → Int → Option (Int)
  | 0, _, _, _, _ => none
  | k + 1, x3, x6, x7, x8 => if x8 < x7 then (if 0 ≤ x8 then (if x8 < (x6.length : Int) then ((fingerprint_mul.f x3 747382712868975713).bind fun t188 => ((fingerprint_add.f t188 (IntKind.u64.wrap ((IntKind.u64.wrap (rd x6 x8)) + 1))).bind fun t189 => (fingerprint_Sum.l0 k t189 x6 x7 (wrap64 (x8 + 1))))) else (none)) else (none)) else (some x3)
def fingerprint_Sum.f (k : Nat) (l0 : List Int) : Option (Int) := fingerprint_Sum.l0 k 0 l0 (l0.length : Int) 0
set_option maxHeartbeats 8000000 in
set_option maxRecDepth 100000 in
theorem fingerprint_Sum.calls (k : Nat) (A0 : Option Addr) (c0 : Nat) (l0 : List Int) (r : Int) (w : World) (hr0 : Kd.C (Kd.int .u8) w A0 l0.length l0) (hc0 : l0.length ≤ c0) (h : fingerprint_Sum.f k l0 = some r) :
    Calls Try.prog 63 #[.slice A0 l0.length c0] w fun e w' => e = .returned (.int .u64 r) ∧ Drawn0 w w' := by
  have HR0 := Aside0.mk hr0
  have HC0 := Aside0.mk hc0
  clear hr0 hc0
  have H : (fingerprint_Sum.l0 k 0 l0 (l0.length : Int) 0) = some r := h
  clear h
  have H' := Aside0.mk H
  clear H
  go_enter Try.func63, Try.ntmps63
  go_wp2
  go_loopg [3, 8] k (fun kq v3 v8 w' => ∃ (x3_1 : Int) (x8_1 : Int), v3 = .int .u64 x3_1 ∧ v8 = .int .i64 x8_1 ∧ Aside0 (fingerprint_Sum.l0 kq x3_1 l0 (l0.length : Int) x8_1 = some r) ∧ Aside0 (kq ≤ k) ∧ Drawn0 w w')
  case atStart => exact ⟨(0), (0), (by first | rfl | (simp; done) | (simp [*]; done)), (by first | rfl | (simp; done) | (simp [*]; done)), H', ⟨Nat.le_refl _⟩, by repeat (first | exact Drawn0.refl _ | apply Drawn0.step)⟩
  case round =>
    clear H'
    obtain ⟨x3_1, x8_1, rfl, rfl, HA, HK1, ⟨m1, rfl⟩⟩ := hrel
    cases gk with
    | zero => exact absurd HA.out (by simp [fingerprint_Sum.l0])
    | succ k1 =>
      have H := HA.out
      clear HA
      simp only [fingerprint_Sum.l0] at H
      by_cases c2 : x8_1 < (l0.length : Int)
      · rw [if_pos c2] at H
        have c2b0 : decide (x8_1 < (l0.length : Int)) = true := decide_eq_true c2
        clear c2
        by_cases c3 : 0 ≤ x8_1
        · rw [if_pos c3] at H
          have c3b0 : decide (0 ≤ x8_1) = true := decide_eq_true c3
          clear c3
          by_cases c4 : x8_1 < (l0.length : Int)
          · rw [if_pos c4] at H
            have c4b0 : decide (x8_1 < (l0.length : Int)) = true := decide_eq_true c4
            clear c4
            replace H := Option.bind_eq_some_iff.mp H
            obtain ⟨t188, A50, H⟩ := H
            replace H : ((fingerprint_add.f t188 (IntKind.u64.wrap ((IntKind.u64.wrap (rd l0 x8_1)) + 1))).bind fun t189 => (fingerprint_Sum.l0 k1 t189 l0 (l0.length : Int) (wrap64 (x8_1 + 1)))) = some r := H
            have A5 := Aside0.mk A50
            clear A50
            replace H := Option.bind_eq_some_iff.mp H
            obtain ⟨t189, A60, H⟩ := H
            replace H : (fingerprint_Sum.l0 k1 t189 l0 (l0.length : Int) (wrap64 (x8_1 + 1))) = some r := H
            have A6 := Aside0.mk A60
            clear A60
            have H' := Aside0.mk H
            clear H
            have p187 : 0 ≤ (x8_1 : Int) := of_decide_eq_true (by first | (with_reducible assumption) | assumption)
            have q187 : x8_1 < (l0.length : Int) := of_decide_eq_true (by first | (with_reducible assumption) | assumption)
            obtain ⟨ad187, e187, hx187_0⟩ := Kd.at_int HR0.out x8_1 p187 q187
            cases e187
            replace p187 := eq_true p187
            replace q187 := eq_true q187
            go_wp2_with (first | ((with_reducible refine gate_callee (f := 68) rfl ?_); refine goesL_ (some 13) rfl rfl Try.func68 (by kernel_rfl) rfl #[.int .u64 x3_1, .int .u64 747382712868975713] rfl (by (try simp only [List.map_toArray, List.map_cons, List.map_nil]); first | done | rfl | (simp only [List.length_drop, List.length_take]; rfl)) ?_; (with_reducible refine (fingerprint_mul.calls x3_1 747382712868975713 t188 _ A5.out).mono ?_); rintro e w' ⟨rfl, ⟨nd, rfl⟩⟩; refine ⟨_, rfl, ?_⟩) | ((with_reducible refine gate_callee (f := 67) rfl ?_); refine goesL_ (some 17) rfl rfl Try.func67 (by kernel_rfl) rfl #[.int .u64 t188, .int .u64 (IntKind.u64.wrap ((IntKind.u64.wrap (rd l0 x8_1)) + 1))] rfl (by (try simp only [List.map_toArray, List.map_cons, List.map_nil]); first | done | rfl | (simp only [List.length_drop, List.length_take]; rfl)) ?_; (with_reducible refine (fingerprint_add.calls t188 (IntKind.u64.wrap ((IntKind.u64.wrap (rd l0 x8_1)) + 1)) t189 _ A6.out).mono ?_); rintro e w' ⟨rfl, ⟨nd, rfl⟩⟩; refine ⟨_, rfl, ?_⟩))
            go_roundg k1
            case measure => have := HK1.out; omega
            case rel => exact ⟨(t189), (wrap64 (x8_1 + 1)), (by first | rfl | (simp; done) | (simp [*]; done)), (by first | rfl | (simp; done) | (simp [*]; done)), H', ⟨by have := HK1.out; omega⟩, by repeat (first | exact Drawn0.refl _ | apply Drawn0.step)⟩
          · rw [if_neg c4] at H
            exact absurd H (by simp)
        · rw [if_neg c3] at H
          exact absurd H (by simp)
      · rw [if_neg c2] at H
        have c2b0 : decide (x8_1 < (l0.length : Int)) = false := decide_eq_false c2
        clear c2
        obtain rfl := Option.some.inj H
        go_wp2
        go_ret
        exact ⟨by first | rfl | (simp; done) | (simp [*]; done), by repeat (first | exact Drawn0.refl _ | apply Drawn0.step)⟩

/-! ### fingerprint_Of: function 42 -/
def fingerprint_Of.f (k : Nat) (l0 : List Int) : Option (Int × Int) := (fingerprint_Sum.f k l0).bind fun t191 => (some (t191, (l0.length : Int)))
set_option maxHeartbeats 8000000 in
set_option maxRecDepth 100000 in
theorem fingerprint_Of.calls (k : Nat) (A0 : Option Addr) (c0 : Nat) (l0 : List Int) (r1 : Int) (r2 : Int) (w : World) (hr0 : Kd.C (Kd.int .u8) w A0 l0.length l0) (hc0 : l0.length ≤ c0) (h : fingerprint_Of.f k l0 = some (r1, r2)) :
    Calls Try.prog 42 #[.slice A0 l0.length c0] w fun e w' => e = .returned (.agg #[.int .u64 r1, .int .i64 r2]) ∧ Below w.heap.size w w' := by
  have hu51 := Try.underlying51
  have HR0 := Aside0.mk hr0
  have HC0 := Aside0.mk hc0
  clear hr0 hc0
  have HB := Aside0.mk (Below.refl w.heap.size w)
  have H : ((fingerprint_Sum.f k l0).bind fun t191 => (some (t191, (l0.length : Int)))) = some (r1, r2) := h
  clear h
  replace H := Option.bind_eq_some_iff.mp H
  obtain ⟨t191, A20, H⟩ := H
  replace H : (some (t191, (l0.length : Int))) = some (r1, r2) := H
  have A2 := Aside0.mk A20
  clear A20
  simp only [Option.some.injEq, Prod.mk.injEq] at H
  obtain ⟨rfl, rfl⟩ := H
  go_enter Try.func42, Try.ntmps42
  go_wp2_with (first | ((with_reducible refine gate_dst (N := 2) rfl ?_); refine box_event ?hg (N := 2) ?hd (cs := #[.int .u64 0, .int .i64 0]) (t := 51) ?hr ?_; (case hd => rfl); (case hg => rfl); (case hr => first | (go_simp; done) | (go_simp; rfl)); intro gb190 hg w3 hbox hb; have n0_ := Aside0.mk (below_step (by repeat (first | (with_reducible first | exact HB.out | apply below_alloc | apply pw_below_drewN | apply below_drew1) | exact HB.out)) hb); have n1_ := Aside0.mk (hbox); have n2_ := Aside0.mk ((by rw [hg]; exact (below_size (by repeat (first | (with_reducible first | exact HB.out | apply below_alloc | apply pw_below_drewN | apply below_drew1) | exact HB.out))) : w.heap.size ≤ gb190)); have n3_ := Aside0.mk ((by rw [hg]; exact (below_size (by repeat (first | (with_reducible first | exact HB.out | apply below_alloc | apply pw_below_drewN | apply below_drew1) | exact HB.out))) : w.heap.size ≤ gb190)); clear HB; have HB := n0_; have BK190 := n1_; have GW190 := n2_; have GE190 := n3_; clear n0_ n1_ n2_ n3_; clear hb hbox hg) | ((with_reducible refine gate_callee (f := 63) rfl ?_); refine goesL_ (some 4) rfl rfl Try.func63 (by kernel_rfl) rfl #[.slice A0 l0.length c0] rfl (by (try simp only [List.map_toArray, List.map_cons, List.map_nil]); first | done | rfl | (simp only [List.length_drop, List.length_take]; rfl)) ?_; (with_reducible refine (fingerprint_Sum.calls k _ _ l0 t191 _ ?side1 ?side2 A2.out).mono ?_); (case side1 => repeat (first | exact (Kd.C_below HR0.out HB.out) | (with_reducible refine Kd.C_alloc ?_ _) | (with_reducible refine Kd.C_drewN ?_ _) | (with_reducible refine Kd.C_drew ?_))); (case side2 => exact HC0.out); rintro e w' ⟨rfl, ⟨nd, rfl⟩⟩; refine ⟨_, rfl, ?_⟩; (try (rw [drewN_self w3]; generalize hq_ : World.drewN w3 _ = w3; have n0_ : Aside0 (w3.heap[gb190]? = some (.cells #[.int .u64 0, .int .i64 0] 51 (0, 0))) := ⟨by rw [← hq_]; exact (by (with_reducible repeat (first | refine blk_drewN ?_ _ | refine blk_drew ?_ | refine blk_alloc ?_ _)); exact BK190.out)⟩; have n1_ : Aside0 (Below w.heap.size w w3) := ⟨by rw [← hq_]; exact (by repeat (first | (with_reducible first | exact HB.out | apply below_alloc | apply pw_below_drewN | apply below_drew1 | refine below_set ?_ GE190.out) | exact HB.out))⟩; clear BK190 HB hq_; have BK190 := n0_; have HB := n1_; clear n0_ n1_)); have hcz4_0 : w3.cell? ⟨gb190, 0, none⟩ = some (.int .u64 0) := (blk_cell BK190.out 0).trans rfl; have hcz4_1 : w3.cell? ⟨gb190, 1, none⟩ = some (.int .i64 0) := (blk_cell BK190.out 1).trans rfl; have hfz4_0 := blk_frozen BK190.out 0; have hfz4_1 := blk_frozen BK190.out 1))
  refine bodyPost_ret (results_cell_row rfl _ _ gb190 51 #[.int .u64 t191, .int .i64 (l0.length : Int)] (0, 0) _ rfl (by (with_reducible repeat (first | refine blk_drewN ?_ _ | refine blk_drew ?_ | refine blk_alloc ?_ _)); refine blk_put (cs := #[.int .u64 t191, .int .i64 0]) ?_ 1 _ rfl; (with_reducible repeat (first | refine blk_drewN ?_ _ | refine blk_drew ?_ | refine blk_alloc ?_ _)); refine blk_put (cs := #[.int .u64 0, .int .i64 0]) ?_ 0 _ rfl; (with_reducible repeat (first | refine blk_drewN ?_ _ | refine blk_drew ?_ | refine blk_alloc ?_ _)); exact BK190.out) Try.underlying51 rfl (by kernel_rfl)) rfl ?_
  exact ⟨by first | rfl | (simp [errW_none, errW_some] <;> rfl) | (simp [*, errW_none, errW_some] <;> rfl), by repeat (first | (with_reducible first | exact HB.out | apply below_alloc | apply pw_below_drewN | apply below_drew1 | refine below_set ?_ GE190.out) | exact HB.out)⟩

/-! ### stockyardref22_Valid: function 64 -/
/-! ### stockyardref25_Check: function 44 -/
end Go.Proofs.Ytleapbbdpediiaa.P
