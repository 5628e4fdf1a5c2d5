/- The walk of FingerprintConcat: the ID of a concatenation is the Join of the IDs of its parts. -/
import Derived.Test.YtbjadpeolkpmcaaGFingerprintConcat
import Derived.Test.YtbjadpeolkpmcaaFc
import Derived.Test.YtbjadpeolkpmcaaPxe24
import Derived.Test.YtbjadpeolkpmcaaFj
import Derived.Deep.RegionHeld3
import Derived.Lib.Hide
import Derived.Deep.DeepMust
namespace Go.Proofs.Ytbjadpeolkpmcaa.Walk
open Go.RowKit Go.Proofs.Ytbjadpeolkpmcaa.P Go.Proofs.Ytbjadpeolkpmcaa.Fp Go.Proofs.Ytbjadpeolkpmcaa.FM Go.Proofs.YtbjadpeolkpmcaaW.PrintWords Go.Proofs.YtbjadpeolkpmcaaW.PrintLast
attribute [local go_sem high] eqA24
set_option linter.unusedVariables false
theorem joinS_two {l m : List Int} (hl : IsBytes l) (hm : IsBytes m) (h1 : l.length ≤ 524288) (h2 : m.length ≤ 524288) : joinS (fp l) (l.length : Int) (fp m) (m.length : Int) = (fp (l ++ m), (l.length : Int) + (m.length : Int), 0) := by
  have v : ∀ x : List Int, x.length ≤ 524288 → vld (fp x) (x.length : Int) = true := fun x hx => by
    refine vld_iff.2 ⟨by omega, by omega, (fp_range x).2, ?_⟩
    cases x with
    | nil => exact .inr rfl
    | cons y x => exact .inl (by simp only [List.length_cons]; omega)
  unfold joinS
  rw [if_pos ⟨v l h1, v m h2⟩, if_neg (by omega), fp_append, Int.toNat_natCast]
set_option maxHeartbeats 4000000 in
set_option maxRecDepth 100000 in
theorem FingerprintConcat : Goal.FingerprintConcat := by
  intro A c l B d m w0 hr hc hn hw hs hd hm hv
  have hl := IsBytes.of_wf hw
  have hk := IsBytes.of_wf hv
  clear hw hv
  by_cases h1 : l.length ≤ 524288
  · by_cases h2 : m.length ≤ 524288
    · have B0 := Below.refl w0.heap.size w0
      go_enter Try.func11, Try.ntmps11
      go_wp2_with fail
      refine (of_c _ hr hc hl (by omega)).mono ?_
      rintro e w1 ⟨rfl, hb1⟩
      have B1 := stepB (by repeat (first | exact B0 | apply below_alloc)) hb1
      obtain ⟨c1, f1⟩ := bcell hb1
      have z1 := hb1.size
      try simp only [World.size_alloc] at c1 f1 z1
      try have z1_0_0 : w0.heap.size < w1.heap.size := by omega
      try have z1_0_1 : w0.heap.size + 1 < w1.heap.size := by omega
      try have z1_0_2 : w0.heap.size + 2 < w1.heap.size := by omega
      clear hb1
      go_wp2_with fail
      refine (of_c _ (Kd.C_below hs B1) hd hk (by omega)).mono ?_
      rintro e w2 ⟨rfl, hb2⟩
      have B2 := stepB (by repeat (first | exact B1 | apply below_alloc)) hb2
      obtain ⟨c2, f2⟩ := bcell hb2
      have z2 := hb2.size
      try simp only [World.size_alloc] at c2 f2 z2
      try have z2_0_0 : w0.heap.size < w2.heap.size := by omega
      try have z2_0_1 : w0.heap.size + 1 < w2.heap.size := by omega
      try have z2_0_2 : w0.heap.size + 2 < w2.heap.size := by omega
      try have z2_1_0 : w1.heap.size < w2.heap.size := by omega
      try have z2_1_1 : w1.heap.size + 1 < w2.heap.size := by omega
      try have z2_1_2 : w1.heap.size + 2 < w2.heap.size := by omega
      clear hb2
      go_wp2_with fail
      refine (join_c _ (fp_range _).1 (fp_range _).1).mono ?_
      rintro e w3 ⟨rfl, hb3⟩
      have B3 := stepB (by repeat (first | exact B2 | apply below_alloc)) hb3
      obtain ⟨c3, f3⟩ := bcell hb3
      have z3 := hb3.size
      try simp only [World.size_alloc] at c3 f3 z3
      try have z3_0_0 : w0.heap.size < w3.heap.size := by omega
      try have z3_0_1 : w0.heap.size + 1 < w3.heap.size := by omega
      try have z3_0_2 : w0.heap.size + 2 < w3.heap.size := by omega
      try have z3_1_0 : w1.heap.size < w3.heap.size := by omega
      try have z3_1_1 : w1.heap.size + 1 < w3.heap.size := by omega
      try have z3_1_2 : w1.heap.size + 2 < w3.heap.size := by omega
      try have z3_2_0 : w2.heap.size < w3.heap.size := by omega
      try have z3_2_1 : w2.heap.size + 1 < w3.heap.size := by omega
      try have z3_2_2 : w2.heap.size + 2 < w3.heap.size := by omega
      clear hb3
      go_wp2_with fail
      have hlm : IsBytes [l, m].flatten := by simp only [List.flatten_cons, List.flatten_nil, List.append_nil]; exact hl.append hk
      have h22 : [l, m].length ≤ 140737488351232 := by simp
      have hlt : [l, m].flatten.length < 140737488355328 := by simp; omega
      have hj := joinS_two hl hk h1 h2
      rw [hj]
      have Hj := Lib.hid hj
      clear hj
      have z3a : w3.heap.size < w3.heap.size + 1 := Nat.lt_succ_self _
      go_region_held3 (fun w' => w'.cell? ⟨w3.heap.size, 0, none⟩ = some (.int .u64 (fp (l ++ m))) ∧ w'.cell? ⟨w3.heap.size, 1, none⟩ = some (.int .i64 ((l.length : Int) + (m.length : Int)))) (go_keep) (first | (go_at_call 18; refine (known_c _).mono ?_; rintro e w4 ⟨rfl, hb4⟩; obtain ⟨c4, f4⟩ := bcell hb4; have z4 := hb4.size; try simp only [World.size_alloc, World.size_drew] at c4 f4 z4; have z4a : w3.heap.size < w4.heap.size := (by omega); have z4b : w3.heap.size < w4.heap.size + 1 := (by omega); have B4 := stepB (by repeat (first | exact B3 | apply below_alloc | apply below_drew)) hb4; clear hb4) | (go_at_call 20; go_must (refine (joined_r (A := some ⟨w4.heap.size, 0, none⟩) (c := 2) (L := [l, m]) (w4.alloc (.cells #[.slice A l.length c, .slice B m.length d] 27)) (two_C (cell_new _ _ _ _ 0) (cell_new _ _ _ _ 1) hc hd (Kd.C_below hr (below_alloc B4 _)) (Kd.C_below hs (below_alloc B4 _))) (Nat.le_refl _) hlt h22).mono ?_); rintro e w5 ⟨A5, d5, l5, rfl, e5, hc5, hr5, hb5⟩; have l5b : l5.length ≤ 1048576 := (by rw [e5.out]; simp; omega); have hl5 : IsBytes l5 := (by rw [e5.out]; exact hlm); obtain ⟨c5, f5⟩ := bcell hb5; have z5 := hb5.size; try simp only [World.size_alloc] at c5 f5 z5; have z5a : w3.heap.size < w5.heap.size := (by omega); have B5 := stepB (below_alloc B4 _) hb5; clear hb5) | (go_at_call 23; go_must (refine (of_c _ hr5 hc5 hl5 (by omega)).mono ?_); rintro e w6 ⟨rfl, hb6⟩; obtain ⟨c6, f6⟩ := bcell hb6; have z6 := hb6.size; have B6 := stepB B5 hb6; clear hb6))
      all_goals go_wp2_with fail
      all_goals go_ret
      all_goals refine ⟨?_, B6⟩
      all_goals rw [e5.out]
      all_goals simp
    · go_enter Try.func11, Try.ntmps11
      go_wp2_with fail
      go_ret
      exact ⟨rfl, Below.refl _ _⟩
  · go_enter Try.func11, Try.ntmps11
    go_wp2_with fail
    go_ret
    exact ⟨rfl, Below.refl _ _⟩
end Go.Proofs.Ytbjadpeolkpmcaa.Walk
