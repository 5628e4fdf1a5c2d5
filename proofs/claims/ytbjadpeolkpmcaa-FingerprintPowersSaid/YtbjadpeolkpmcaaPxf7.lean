-- Printed by a program (pr.py over the kit's print) out of the translation.
import Derived.Test.YtbjadpeolkpmcaaPx0
import Derived.Test.YtbjadpeolkpmcaaPxf19
import Derived.Test.YtbjadpeolkpmcaaPxf24
import Derived.Test.YtbjadpeolkpmcaaPxf25
namespace Go.Proofs.Ytbjadpeolkpmcaa.P
open Go.RowKit Go.Proofs.YtbjadpeolkpmcaaW.PrintWords Go.Proofs.YtbjadpeolkpmcaaW.PrintLast Go.Proofs.YtbjadpeolkpmcaaW.PrintMore
attribute [local go_sem] max2_int min2_int max_two min_two max_three min_three max_four min_four   -- for this text's walks alone
set_option linter.unusedVariables false
set_option linter.unusedSimpArgs false

/-! ### stockyardlaw22_FingerprintPowers: function 7 -/
def stockyardlaw22_FingerprintPowers.f (k : Nat) (a0 : Int) : Option (Bool) := (stockyardmake_Fold.f a0 1048577).bind fun t161 => ((fingerprint_Power.f k 0).bind fun t162 => (if t162 = 1 then ((fingerprint_Power.f k a0).bind fun t163 => ((stockyardref22_Power.f k a0).bind fun t164 => (if t163 = t164 then ((fingerprint_Power.f k t161).bind fun t165 => ((stockyardref22_Power.f k t161).bind fun t166 => (some (t165 == t166)))) else (some false)))) else (some false)))
theorem stockyardlaw22_FingerprintPowers.mono : ∀ a0 k, LeO (stockyardlaw22_FingerprintPowers.f k a0) (stockyardlaw22_FingerprintPowers.f (k + 1) a0) := by
  intro a0 k
  unfold stockyardlaw22_FingerprintPowers.f
  repeat' first
      | (with_reducible exact fingerprint_Power.mono _ _)
      | (with_reducible exact stockyardref22_Power.mono _ _)
      | (with_reducible exact LeO.refl _)
      | (with_reducible exact LeO.none _)
      | (with_reducible refine LeO.ite ?_ ?_)
      | (with_reducible refine LeO.bind ?_ (fun _ => ?_))
      | exact fingerprint_Power.mono _ _
      | exact stockyardref22_Power.mono _ _
      | exact LeO.none _
      | refine LeO.ite ?_ ?_
      | refine LeO.bind ?_ (fun _ => ?_)
set_option maxHeartbeats 8000000 in
set_option maxRecDepth 100000 in
theorem stockyardlaw22_FingerprintPowers.calls (k : Nat) (a0 : Int) (r : Bool) (w : World) (h : stockyardlaw22_FingerprintPowers.f k a0 = some r) :
    Calls Try.prog 7 #[.int .i64 a0] w fun e w' => e = .returned (.bool r) ∧ Drawn0 w w' := by
  have H : ((stockyardmake_Fold.f a0 1048577).bind fun t161 => ((fingerprint_Power.f k 0).bind fun t162 => (if t162 = 1 then ((fingerprint_Power.f k a0).bind fun t163 => ((stockyardref22_Power.f k a0).bind fun t164 => (if t163 = t164 then ((fingerprint_Power.f k t161).bind fun t165 => ((stockyardref22_Power.f k t161).bind fun t166 => (some (t165 == t166)))) else (some false)))) else (some false)))) = some r := h
  clear h
  replace H := Option.bind_eq_some_iff.mp H
  obtain ⟨t161, A20, H⟩ := H
  replace H : ((fingerprint_Power.f k 0).bind fun t162 => (if t162 = 1 then ((fingerprint_Power.f k a0).bind fun t163 => ((stockyardref22_Power.f k a0).bind fun t164 => (if t163 = t164 then ((fingerprint_Power.f k t161).bind fun t165 => ((stockyardref22_Power.f k t161).bind fun t166 => (some (t165 == t166)))) else (some false)))) else (some false))) = some r := H
  have A2 := Aside0.mk A20
  clear A20
  replace H := Option.bind_eq_some_iff.mp H
  obtain ⟨t162, A30, H⟩ := H
  replace H : (if t162 = 1 then ((fingerprint_Power.f k a0).bind fun t163 => ((stockyardref22_Power.f k a0).bind fun t164 => (if t163 = t164 then ((fingerprint_Power.f k t161).bind fun t165 => ((stockyardref22_Power.f k t161).bind fun t166 => (some (t165 == t166)))) else (some false)))) else (some false)) = some r := H
  have A3 := Aside0.mk A30
  clear A30
  by_cases c4 : t162 = 1
  · rw [if_pos c4] at H
    have c4b0 : (t162 == 1) = true := beq_iff_eq.mpr c4
    have c4b1 : (t162 != 1) = false := bne_eq_false_iff_eq.mpr c4
    clear c4
    replace H := Option.bind_eq_some_iff.mp H
    obtain ⟨t163, A50, H⟩ := H
    replace H : ((stockyardref22_Power.f k a0).bind fun t164 => (if t163 = t164 then ((fingerprint_Power.f k t161).bind fun t165 => ((stockyardref22_Power.f k t161).bind fun t166 => (some (t165 == t166)))) else (some false))) = some r := H
    have A5 := Aside0.mk A50
    clear A50
    replace H := Option.bind_eq_some_iff.mp H
    obtain ⟨t164, A60, H⟩ := H
    replace H : (if t163 = t164 then ((fingerprint_Power.f k t161).bind fun t165 => ((stockyardref22_Power.f k t161).bind fun t166 => (some (t165 == t166)))) else (some false)) = some r := H
    have A6 := Aside0.mk A60
    clear A60
    by_cases c7 : t163 = t164
    · rw [if_pos c7] at H
      have c7b0 : (t163 == t164) = true := beq_iff_eq.mpr c7
      have c7b1 : (t163 != t164) = false := bne_eq_false_iff_eq.mpr c7
      clear c7
      replace H := Option.bind_eq_some_iff.mp H
      obtain ⟨t165, A80, H⟩ := H
      replace H : ((stockyardref22_Power.f k t161).bind fun t166 => (some (t165 == t166))) = some r := H
      have A8 := Aside0.mk A80
      clear A80
      replace H := Option.bind_eq_some_iff.mp H
      obtain ⟨t166, A90, H⟩ := H
      replace H : (some (t165 == t166)) = some r := H
      have A9 := Aside0.mk A90
      clear A90
      obtain rfl := Option.some.inj H
      go_enter Try.func7, Try.ntmps7
      go_wp2_with (first | ((with_reducible refine gate_callee (f := 19) rfl ?_); refine goesL_ (some 5) rfl rfl Try.func19 (by kernel_rfl) rfl #[.int .i64 a0, .int .i64 1048577] rfl (by (try simp only [List.map_toArray, List.map_cons, List.map_nil]); first | done | rfl | (simp only [List.length_drop, List.length_take]; rfl)) ?_; (with_reducible refine (stockyardmake_Fold.calls a0 1048577 t161 _ A2.out).mono ?_); rintro e w' ⟨rfl, ⟨nd, rfl⟩⟩; refine ⟨_, rfl, ?_⟩) | ((with_reducible refine gate_callee (f := 24) rfl ?_); refine goesL_ (some 6) rfl rfl Try.func24 (by kernel_rfl) rfl #[.int .i64 0] rfl (by (try simp only [List.map_toArray, List.map_cons, List.map_nil]); first | done | rfl | (simp only [List.length_drop, List.length_take]; rfl)) ?_; (with_reducible refine (fingerprint_Power.calls k 0 t162 _ A3.out).mono ?_); rintro e w' ⟨rfl, ⟨nd, rfl⟩⟩; refine ⟨_, rfl, ?_⟩) | (go_at_call 24; (with_reducible refine (fingerprint_Power.calls k a0 t163 _ A5.out).mono ?_); rintro e w' ⟨rfl, ⟨nd, rfl⟩⟩) | (go_at_call 25; (with_reducible refine (stockyardref22_Power.calls k a0 t164 _ A6.out).mono ?_); rintro e w' ⟨rfl, ⟨nd, rfl⟩⟩) | (go_at_call 24; (with_reducible refine (fingerprint_Power.calls k t161 t165 _ A8.out).mono ?_); rintro e w' ⟨rfl, ⟨nd, rfl⟩⟩) | (go_at_call 25; (with_reducible refine (stockyardref22_Power.calls k t161 t166 _ A9.out).mono ?_); rintro e w' ⟨rfl, ⟨nd, rfl⟩⟩))
      go_ret
      exact ⟨by first | rfl | (simp; done) | (simp [*]; done), by repeat (first | exact Drawn0.refl _ | apply Drawn0.step)⟩
    · rw [if_neg c7] at H
      have c7b0 : (t163 == t164) = false := beq_eq_false_iff_ne.mpr c7
      have c7b1 : (t163 != t164) = true := bne_iff_ne.mpr c7
      obtain rfl := Option.some.inj H
      go_enter Try.func7, Try.ntmps7
      go_wp2_with (first | ((with_reducible refine gate_callee (f := 19) rfl ?_); refine goesL_ (some 5) rfl rfl Try.func19 (by kernel_rfl) rfl #[.int .i64 a0, .int .i64 1048577] rfl (by (try simp only [List.map_toArray, List.map_cons, List.map_nil]); first | done | rfl | (simp only [List.length_drop, List.length_take]; rfl)) ?_; (with_reducible refine (stockyardmake_Fold.calls a0 1048577 t161 _ A2.out).mono ?_); rintro e w' ⟨rfl, ⟨nd, rfl⟩⟩; refine ⟨_, rfl, ?_⟩) | ((with_reducible refine gate_callee (f := 24) rfl ?_); refine goesL_ (some 6) rfl rfl Try.func24 (by kernel_rfl) rfl #[.int .i64 0] rfl (by (try simp only [List.map_toArray, List.map_cons, List.map_nil]); first | done | rfl | (simp only [List.length_drop, List.length_take]; rfl)) ?_; (with_reducible refine (fingerprint_Power.calls k 0 t162 _ A3.out).mono ?_); rintro e w' ⟨rfl, ⟨nd, rfl⟩⟩; refine ⟨_, rfl, ?_⟩) | (go_at_call 24; (with_reducible refine (fingerprint_Power.calls k a0 t163 _ A5.out).mono ?_); rintro e w' ⟨rfl, ⟨nd, rfl⟩⟩) | (go_at_call 25; (with_reducible refine (stockyardref22_Power.calls k a0 t164 _ A6.out).mono ?_); rintro e w' ⟨rfl, ⟨nd, rfl⟩⟩))
      go_ret
      exact ⟨by first | rfl | (simp; done) | (simp [*]; done), by repeat (first | exact Drawn0.refl _ | apply Drawn0.step)⟩
  · rw [if_neg c4] at H
    have c4b0 : (t162 == 1) = false := beq_eq_false_iff_ne.mpr c4
    have c4b1 : (t162 != 1) = true := bne_iff_ne.mpr c4
    obtain rfl := Option.some.inj H
    go_enter Try.func7, Try.ntmps7
    go_wp2_with (first | ((with_reducible refine gate_callee (f := 19) rfl ?_); refine goesL_ (some 5) rfl rfl Try.func19 (by kernel_rfl) rfl #[.int .i64 a0, .int .i64 1048577] rfl (by (try simp only [List.map_toArray, List.map_cons, List.map_nil]); first | done | rfl | (simp only [List.length_drop, List.length_take]; rfl)) ?_; (with_reducible refine (stockyardmake_Fold.calls a0 1048577 t161 _ A2.out).mono ?_); rintro e w' ⟨rfl, ⟨nd, rfl⟩⟩; refine ⟨_, rfl, ?_⟩) | ((with_reducible refine gate_callee (f := 24) rfl ?_); refine goesL_ (some 6) rfl rfl Try.func24 (by kernel_rfl) rfl #[.int .i64 0] rfl (by (try simp only [List.map_toArray, List.map_cons, List.map_nil]); first | done | rfl | (simp only [List.length_drop, List.length_take]; rfl)) ?_; (with_reducible refine (fingerprint_Power.calls k 0 t162 _ A3.out).mono ?_); rintro e w' ⟨rfl, ⟨nd, rfl⟩⟩; refine ⟨_, rfl, ?_⟩))
    go_ret
    exact ⟨by first | rfl | (simp; done) | (simp [*]; done), by repeat (first | exact Drawn0.refl _ | apply Drawn0.step)⟩

/-- THE ONE PURE STATEMENT of stockyardlaw22_FingerprintPowers: yours. -/
def stockyardlaw22_FingerprintPowers.Pure : Prop := ∀ (a0 : Int), (Lit.int .i64 a0).wf = true → ∃ k, stockyardlaw22_FingerprintPowers.f k a0 = some true
theorem stockyardlaw22_FingerprintPowers.walk (P : stockyardlaw22_FingerprintPowers.Pure) (a0 : Int) (w : World) (w0 : (Lit.int .i64 a0).wf = true) :
    Calls Try.prog 7 #[.int .i64 a0] w fun e w' => e = .returned (.bool true) ∧ Below w.heap.size w w' := by
  obtain ⟨k, h⟩ := P a0 w0
  refine (stockyardlaw22_FingerprintPowers.calls k a0 true w h).mono ?_
  rintro e w' ⟨rfl, hd⟩
  exact ⟨rfl, hd.below⟩

end Go.Proofs.Ytbjadpeolkpmcaa.P
