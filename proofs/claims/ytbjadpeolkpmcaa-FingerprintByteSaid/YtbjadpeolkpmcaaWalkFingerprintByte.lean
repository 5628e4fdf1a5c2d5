/- The walk of FingerprintByte: strings of the same length that differ in exactly one byte have different fingerprints. -/
import Derived.Test.YtbjadpeolkpmcaaGFingerprintByte
import Derived.Test.YtbjadpeolkpmcaaFj
import Derived.Deep.RegionHeld3
import Derived.Lib.Hide
import Derived.Deep.DeepMust
import Derived.Deep.QuietTactic
import Derived.BigQuiet
namespace Go.Proofs.Ytbjadpeolkpmcaa.Walk
open Go.RowKit Go.Proofs.Ytbjadpeolkpmcaa.P Go.Proofs.Ytbjadpeolkpmcaa.Fp Go.Proofs.Ytbjadpeolkpmcaa.FM Go.Proofs.YtbjadpeolkpmcaaW.PrintWords Go.Proofs.YtbjadpeolkpmcaaW.PrintLast
set_option linter.unusedVariables false
theorem wf_u8 {a : Int} (h : (Lit.int .u8 a).wf = true) : 0 ≤ a ∧ a ≤ 255 := by
  simp [Lit.wf, IntKind.min, IntKind.max, IntKind.bits, IntKind.signed] at h
  omega
theorem add_block (a : Addr) (n : Nat) : (a.add n).block = a.block := by unfold Addr.add; split <;> rfl
theorem byte_eq {l : List Int} (hl : IsBytes l) {t : Int} (ht : 0 ≤ t ∧ t ≤ 255) {p : Nat} (hp : p < l.length) : ((fp l == fp (l.set p t)) == (rd l (p : Int) == t)) = true := by
  have e1 : l = l.take p ++ rd l (p : Int) :: l.drop (p + 1) := by
    simp [rd, List.getD, hp]
  have e2 : l.set p t = l.take p ++ t :: l.drop (p + 1) := by
    rw [List.set_eq_take_append_cons_drop, if_pos hp]
  have h := fp_byte (l.take p) (l.drop (p + 1)) (rd l (p : Int)) t (rd_byte hl (by omega) (by omega)) ht
  rw [← e1, ← e2] at h
  rw [beq_iff_eq, Bool.eq_iff_iff, beq_iff_eq, beq_iff_eq]
  exact h
set_option maxHeartbeats 4000000 in
set_option maxRecDepth 100000 in
theorem FingerprintByte : Goal.FingerprintByte := by
  intro A c l a t w0 hr hc hn hw ha ht
  have hl := IsBytes.of_wf hw
  have ha := wf_i64 ha
  have ht := wf_u8 ht
  clear hw
  by_cases h0 : 0 < l.length
  · obtain ⟨ad, rfl, had, hcl⟩ := C_cells hr h0
    have h0b : ((l.length : Int) == 0) = false := beq_eq_false_iff_ne.2 (by omega)
    have Hcl := Lib.hid hcl
    clear hcl
    have B0 := Below.refl w0.heap.size w0
    go_enter Try.func4, Try.ntmps4
    go_wp2_with fail
    refine (known_c _).mono ?_
    rintro e w1 ⟨rfl, hb1⟩
    have B1 := stepB (by repeat (first | exact B0 | apply below_alloc)) hb1
    obtain ⟨c1, f1⟩ := bcell hb1
    have z1 := hb1.size
    try simp only [World.size_alloc] at c1 f1 z1
    try have z1_0_0 : w0.heap.size < w1.heap.size := by omega
    try have z1_0_1 : w0.heap.size + 1 < w1.heap.size := by omega
    try have z1_0_2 : w0.heap.size + 2 < w1.heap.size := by omega
    clear hb1
    go_wp2_with fail
    refine (fold_c _ ha (by omega) h0).mono ?_
    rintro e w2 ⟨p, rfl, hp, hd2⟩
    have B2 := stepB B1 hd2.below
    clear hd2
    go_wp2_with fail
    have hlt : [l].flatten.length < 140737488355328 := by simp; omega
    have h11 : [l].length ≤ 140737488351232 := by simp
    have hpos : 0 < [l].flatten.length := by simpa using h0
    refine (joined_o (A := some ⟨w2.heap.size, 0, none⟩) (c := 1) (L := [l]) (w2.alloc (.cells #[.slice (some ad) l.length c] 27)) (one_C (cell_new _ _ _ _ 0) hc (Kd.C_below hr (below_alloc B2 _))) (Nat.le_refl _) hlt h11 hpos).mono ?_
    rintro e w3 ⟨g, d, m, rfl, em, hg0, hg1, hR, hb3⟩
    have B3 := stepB (below_alloc B2 _) hb3
    have hm : m.length = l.length := by rw [em.out]; simp
    have hpm : p < m.length := by omega
    have Hm := Lib.hid hm
    clear hm hb3 hlt h11 hpos
    simp only [World.size_alloc] at hg0
    obtain ⟨hcell, hfz⟩ := Kd.R_cell 0 hR (p : Int) (by omega) (by omega)
    obtain ⟨hR', hgr⟩ := Kd.R_put hR (p : Int) t
    rw [Int.toNat_natCast] at hcell hfz hR' hgr
    have hp1 : (0 : Int) ≤ (p : Int) := by omega
    have hp2 : (p : Int) < (m.length : Int) := by omega
    have B4 := B3.grown hgr B3.size (fun k hk => by injection hk with hk; subst hk; have := B2.size; omega)
    go_wp2_with fail
    clear hcell hfz
    have hbl : IsBytes l := hl
    have hbm : IsBytes (m.set p t) := by
      intro x hx
      rcases List.mem_or_eq_of_mem_set hx with h | h
      · rw [em.out] at h
        exact hl x (by simpa using h)
      · subst h; exact ht
    obtain ⟨W, hW⟩ : ∃ W, W = w3.setCell ⟨g, p, none⟩ (.int .u8 t) := ⟨_, rfl⟩
    rw [← hW]
    have hld : W.cell? (ad.add p) = some (.int .u8 (rd l (p : Int))) := by
      rw [hW, B4.cell (p := ad.add p) (by rw [add_block]; exact had)]
      exact Hcl.out p hp
    have hp3 : (p : Int) < (l.length : Int) := by omega
    have q1 : ∀ n, Calls Try.prog 21 #[.slice (some ad) l.length c] (W.drewN n) fun e w' => e = .returned (.int .u64 (fp l)) ∧ ∃ k, w' = W.drewN k := fun n =>
      quiet_d (sum_c _ (Kd.C_below hr (pw_below_drewN (by rw [hW]; exact B4) n)) hc hl (by omega))
    have hlen : (m.set p t).length = m.length := List.length_set
    obtain ⟨hxx, hcd, hCm⟩ := Kd.R_reads' hR'
    have q2 : ∀ n, Calls Try.prog 21 #[.slice (some ⟨g, 0, none⟩) m.length d] (W.drewN n) fun e w' => e = .returned (.int .u64 (fp (m.set p t))) ∧ ∃ k, w' = W.drewN k := fun n => by
      rw [← hlen]
      refine quiet_d (sum_c _ (Kd.C_drewN (by rw [hW]; exact hCm) n) (by rw [hlen]; exact hcd) hbm (by rw [hlen, Hm.out]; omega))
    clear hlen hCm hcd hxx
    have hfin : ((fp l == fp (m.set p t)) == (rd l (p : Int) == t)) = true := by
      have e : m = l := by rw [em.out]; simp
      subst e
      exact byte_eq hl ht hp
    have Hfin := Lib.hid hfin
    clear hfin
    have HW := Lib.hid hW
    clear hW hR' hgr hR
    go_quiet ((first | (go_at_call 21; with_reducible exact q1 _) | (go_at_call 21; with_reducible exact q2 _)))
    go_wp2_with fail
    go_ret
    refine ⟨congrArg (fun b => Ending.returned (.bool b)) Hfin.out, ?_⟩
    rw [HW.out]
    exact pw_below_drewN B4 _
  · go_enter Try.func4, Try.ntmps4
    go_wp2_with fail
    refine (known_c _).mono ?_
    rintro e w1 ⟨rfl, hb1⟩
    go_wp2_with fail
    go_ret
    exact ⟨rfl, hb1⟩
end Go.Proofs.Ytbjadpeolkpmcaa.Walk
