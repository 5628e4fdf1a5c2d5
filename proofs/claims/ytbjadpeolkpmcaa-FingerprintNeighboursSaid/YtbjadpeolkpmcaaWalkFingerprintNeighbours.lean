/- The walk of FingerprintNeighbours: exchanging two different neighbouring bytes changes the fingerprint. -/
import Derived.Test.YtbjadpeolkpmcaaGFingerprintNeighbours
import Derived.Test.YtbjadpeolkpmcaaFj
import Derived.Deep.RegionHeld3
import Derived.Lib.Hide
import Derived.IntWalk
import Derived.Deep.DeepMust
import Derived.Deep.QuietTactic
import Derived.BigQuiet
namespace Go.Proofs.Ytbjadpeolkpmcaa.Walk
open Go.RowKit Go.Proofs.Ytbjadpeolkpmcaa.P Go.Proofs.Ytbjadpeolkpmcaa.Fp Go.Proofs.Ytbjadpeolkpmcaa.FM Go.Proofs.YtbjadpeolkpmcaaW.PrintWords Go.Proofs.YtbjadpeolkpmcaaW.PrintLast
set_option linter.unusedVariables false
theorem wf_u8 {a : Int} (h : (Lit.int .u8 a).wf = true) : 0 ≤ a ∧ a ≤ 255 := by
  simp [Lit.wf, IntKind.min, IntKind.max, IntKind.bits, IntKind.signed] at h
  omega
theorem add_block (a : Addr) (n : Nat) : (a.add n).block = a.block := by unfold Addr.add; split <;> rfl
theorem byte_eq {l : List Int} (hl : IsBytes l) {t : Int} (ht : 0 ≤ t ∧ t ≤ 255) {p : Nat} (hp : p < l.length) : ((fp l == fp (l.set p t)) == (rd l (p : Int) == t)) = true := by
  have e1 : l = l.take p ++ rd l (p : Int) :: l.drop (p + 1) := by
    simp [rd, List.getD, hp]
  have e2 : l.set p t = l.take p ++ t :: l.drop (p + 1) := by
    rw [List.set_eq_take_append_cons_drop, if_pos hp]
  have h := fp_byte (l.take p) (l.drop (p + 1)) (rd l (p : Int)) t (rd_byte hl (by omega) (by omega)) ht
  rw [← e1, ← e2] at h
  rw [beq_iff_eq, Bool.eq_iff_iff, beq_iff_eq, beq_iff_eq]
  exact h
theorem swap_eq {l : List Int} (hl : IsBytes l) {p : Nat} (hp : p + 1 < l.length) : ((fp l == fp ((l.set p (rd l ((p : Int) + 1))).set (p + 1) (rd l (p : Int)))) == (rd l (p : Int) == rd l ((p : Int) + 1))) = true := by
  have e1 : l = l.take p ++ rd l (p : Int) :: rd l ((p : Int) + 1) :: l.drop (p + 2) := by
    have h0 : l.drop p = rd l (p : Int) :: l.drop (p + 1) := by
      rw [List.drop_eq_getElem_cons (by omega)]; simp [rd, List.getD, show p < l.length by omega]
    have h1 : l.drop (p + 1) = rd l ((p : Int) + 1) :: l.drop (p + 2) := by
      rw [List.drop_eq_getElem_cons hp]; simp [rd, List.getD, hp, show ((p : Int) + 1).toNat = p + 1 by omega]
    rw [← h1, ← h0, List.take_append_drop]
  have e2 : (l.set p (rd l ((p : Int) + 1))).set (p + 1) (rd l (p : Int)) = l.take p ++ rd l ((p : Int) + 1) :: rd l (p : Int) :: l.drop (p + 2) := by
    generalize rd l (p : Int) = x at *
    generalize rd l ((p : Int) + 1) = y at *
    have h1 : l.set p y = l.take p ++ y :: l.drop (p + 1) := by rw [List.set_eq_take_append_cons_drop, if_pos (by omega)]
    have hlt : (l.take p).length = p := by rw [List.length_take]; omega
    rw [h1, List.set_append_right _ _ (by omega), hlt, show p + 1 - p = 1 by omega, List.drop_eq_getElem_cons hp]
    rfl
  have h := fp_swap (l.take p) (l.drop (p + 2)) (rd l (p : Int)) (rd l ((p : Int) + 1)) (rd_byte hl (by omega) (by omega)) (rd_byte hl (by omega) (by omega))
  rw [← e1, ← e2] at h
  rw [beq_iff_eq, Bool.eq_iff_iff, beq_iff_eq, beq_iff_eq]
  exact h
set_option maxHeartbeats 4000000 in
set_option maxRecDepth 100000 in
theorem FingerprintNeighbours : Goal.FingerprintNeighbours := by
  intro A c l a w0 hr hc hn hw ha
  have hl := IsBytes.of_wf hw
  have ha := wf_i64 ha
  clear hw
  by_cases h0 : 2 ≤ l.length
  · obtain ⟨ad, rfl, had, hcl⟩ := C_cells hr (by omega)
    have Hcl := Lib.hid hcl
    clear hcl
    have B0 := Below.refl w0.heap.size w0
    go_enter Try.func5, Try.ntmps5
    go_wp2_with fail
    refine (known_c _).mono ?_
    rintro e w1 ⟨rfl, hb1⟩
    have B1 := stepB (by repeat (first | exact B0 | apply below_alloc)) hb1
    obtain ⟨c1, f1⟩ := bcell hb1
    have z1 := hb1.size
    try simp only [World.size_alloc] at c1 f1 z1
    try have z1_0_0 : w0.heap.size < w1.heap.size := by omega
    try have z1_0_1 : w0.heap.size + 1 < w1.heap.size := by omega
    try have z1_0_2 : w0.heap.size + 2 < w1.heap.size := by omega
    clear hb1
    go_wp2_with fail
    rw [show (l.length : Int) - 1 = ((l.length - 1 : Nat) : Int) by omega]
    refine (fold_c _ ha (by omega) (by omega)).mono ?_
    rintro e w2 ⟨p, rfl, hp, hd2⟩
    have B2 := stepB B1 hd2.below
    clear hd2
    go_wp2_with fail
    have hlt : [l].flatten.length < 140737488355328 := by simp; omega
    have h11 : [l].length ≤ 140737488351232 := by simp
    have hpos : 0 < [l].flatten.length := by simp; omega
    refine (joined_o (A := some ⟨w2.heap.size, 0, none⟩) (c := 1) (L := [l]) (w2.alloc (.cells #[.slice (some ad) l.length c] 27)) (one_C (cell_new _ _ _ _ 0) hc (Kd.C_below hr (below_alloc B2 _))) (Nat.le_refl _) hlt h11 hpos).mono ?_
    rintro e w3 ⟨g, d, m, rfl, em, hg0, hg1, hR, hb3⟩
    have B3 := stepB (below_alloc B2 _) hb3
    have hm : m.length = l.length := by rw [em.out]; simp
    have hpm : p + 1 < m.length := by omega
    have hpl : p + 1 < l.length := by omega
    have Hm := Lib.hid hm
    clear hm hb3 hlt h11 hpos
    simp only [World.size_alloc] at hg0
    obtain ⟨hcell0, hfz0⟩ := Kd.R_cell 0 hR (p : Int) (by omega) (by omega)
    obtain ⟨hcell1, hfz1⟩ := Kd.R_cell 0 hR ((p : Int) + 1) (by omega) (by omega)
    obtain ⟨hR1, hgr1⟩ := Kd.R_put hR (p : Int) (rd l ((p : Int) + 1))
    have hlen1 : (m.set (p : Int).toNat (rd l ((p : Int) + 1))).length = m.length := List.length_set
    rw [← hlen1] at hR1
    obtain ⟨hR2, hgr2⟩ := Kd.R_put hR1 ((p : Int) + 1) (rd l (p : Int))
    rw [hlen1] at hR2
    clear hlen1
    have ep : ((p : Int) + 1).toNat = p + 1 := by omega
    rw [ep] at hcell1 hfz1 hR2 hgr2
    rw [Int.toNat_natCast] at hcell0 hfz0 hR1 hgr1 hR2 hgr2
    clear ep
    have hg2 : w0.heap.size ≤ g := by have := B2.size; omega
    have B4 := B3.grown hgr1 B3.size (fun k hk => by injection hk with hk; subst hk; exact hg2)
    have B5 := B4.grown hgr2 B4.size (fun k hk => by injection hk with hk; subst hk; exact hg2)
    have HR2 := Lib.hid hR2
    clear hR1 hR2 hgr1 hgr2 hR
    have hl0 : w3.cell? (ad.add p) = some (.int .u8 (rd l (p : Int))) := by
      rw [B3.cell (p := ad.add p) (by rw [add_block]; exact had)]
      exact Hcl.out p (by omega)
    have hl1 : w3.cell? (ad.add (p + 1)) = some (.int .u8 (rd l ((p : Int) + 1))) := by
      rw [B3.cell (p := ad.add (p + 1)) (by rw [add_block]; exact had)]
      exact Hcl.out (p + 1) (by omega)
    have eadd : ad.add (p + 1) = ⟨ad.block, ad.off + (p + 1), none⟩ := by simp [Addr.add]
    rw [eadd] at hl1
    have hne1 : ad.block ≠ g := by omega
    clear eadd
    have hne : ∀ j k, ad.add j ≠ ⟨g, k, none⟩ := fun j k h => by
      have := congrArg Addr.block h
      rw [add_block] at this
      simp only at this
      omega
    have hne2 : (⟨ad.block, ad.off + (p + 1), none⟩ : Addr) ≠ ⟨g, p, none⟩ := fun h => hne1 (congrArg Addr.block h)
    have hne3 : (⟨ad.block, ad.off + (p + 1), none⟩ : Addr) ≠ ⟨g, p + 1, none⟩ := fun h => hne1 (congrArg Addr.block h)
    have hs0 : ∀ u, (w3.setCell ⟨g, p, none⟩ u).cell? (ad.add p) = some (.int .u8 (rd l (p : Int))) := fun u => (World.cell?_setCell_other _ _ _ _ (Ne.symm (hne p p))).trans hl0
    have hs1 : ∀ u, (w3.setCell ⟨g, p, none⟩ u).cell? ⟨ad.block, ad.off + (p + 1), none⟩ = some (.int .u8 (rd l ((p : Int) + 1))) := fun u => (World.cell?_setCell_other _ _ _ _ (Ne.symm hne2)).trans hl1
    have hs2 : ∀ u v, ((w3.setCell ⟨g, p, none⟩ u).setCell ⟨g, p + 1, none⟩ v).cell? (ad.add p) = some (.int .u8 (rd l (p : Int))) := fun u v => (World.cell?_setCell_other _ _ _ _ (Ne.symm (hne p (p + 1)))).trans (hs0 u)
    have hs3 : ∀ u v, ((w3.setCell ⟨g, p, none⟩ u).setCell ⟨g, p + 1, none⟩ v).cell? ⟨ad.block, ad.off + (p + 1), none⟩ = some (.int .u8 (rd l ((p : Int) + 1))) := fun u v => (World.cell?_setCell_other _ _ _ _ (Ne.symm hne3)).trans (hs1 u)
    have hp1 : (0 : Int) ≤ (p : Int) := by omega
    have hp2 : (p : Int) < (m.length : Int) := by omega
    have hp3 : (p : Int) + 1 < (m.length : Int) := by omega
    have hp4 : (p : Int) < (l.length : Int) := by omega
    have hp5 : (p : Int) + 1 < (l.length : Int) := by omega
    have hp6 : (0 : Int) ≤ (p : Int) + 1 := by omega
    have hpt : ((p : Int) + 1).toNat = p + 1 := by omega
    have hwr : IntKind.i64.wrap ((p : Int) + 1) = (p : Int) + 1 := IntWalk.i64_in _ (by omega)
    go_wp2_with fail
    go_region_held3 (fun w' => w'.cell? (ad.add p) = some (.int .u8 (rd l (p : Int))) ∧ w'.cell? ⟨ad.block, ad.off + (p + 1), none⟩ = some (.int .u8 (rd l ((p : Int) + 1)))) (go_keep) (fail)
    obtain ⟨W, hW⟩ : ∃ W, W = ((w3.setCell ⟨g, p, none⟩ (.int .u8 (rd l ((p : Int) + 1)))).setCell ⟨g, p + 1, none⟩ (.int .u8 (rd l (p : Int)))).drew := ⟨_, rfl⟩
    rw [← hW]
    have hld0 : W.cell? (ad.add p) = some (.int .u8 (rd l (p : Int))) := by rw [hW]; exact hs2 _ _
    have hld1 : W.cell? ⟨ad.block, ad.off + (p + 1), none⟩ = some (.int .u8 (rd l ((p : Int) + 1))) := by rw [hW]; exact hs3 _ _
    have BW : Below w0.heap.size w0 W := by rw [hW]; exact below_drew B5
    have q1 : ∀ n, Calls Try.prog 21 #[.slice (some ad) l.length c] (W.drewN n) fun e w' => e = .returned (.int .u64 (fp l)) ∧ ∃ k, w' = W.drewN k := fun n =>
      quiet_d (sum_c _ (Kd.C_below hr (pw_below_drewN BW n)) hc hl (by omega))
    have hlen : ((m.set p (rd l ((p : Int) + 1))).set (p + 1) (rd l (p : Int))).length = m.length := by simp
    obtain ⟨hxx, hcd, hCm⟩ := Kd.R_reads' HR2.out
    have hbm : IsBytes ((m.set p (rd l ((p : Int) + 1))).set (p + 1) (rd l (p : Int))) := by
      intro x hx
      rcases List.mem_or_eq_of_mem_set hx with h | h
      · rcases List.mem_or_eq_of_mem_set h with h | h
        · rw [em.out] at h
          exact hl x (by simpa using h)
        · subst h; exact rd_byte hl (by omega) (by omega)
      · subst h; exact rd_byte hl (by omega) (by omega)
    have q2 : ∀ n, Calls Try.prog 21 #[.slice (some ⟨g, 0, none⟩) m.length d] (W.drewN n) fun e w' => e = .returned (.int .u64 (fp ((m.set p (rd l ((p : Int) + 1))).set (p + 1) (rd l (p : Int))))) ∧ ∃ k, w' = W.drewN k := fun n => by
      rw [← hlen]
      refine quiet_d (sum_c _ (Kd.C_drewN (by rw [hW]; exact hCm) n) (by rw [hlen]; exact hcd) hbm (by rw [hlen, Hm.out]; omega))
    clear hlen hCm hcd hxx
    have hfin : ((fp l == fp ((m.set p (rd l ((p : Int) + 1))).set (p + 1) (rd l (p : Int)))) == (rd l (p : Int) == rd l ((p : Int) + 1))) = true := by
      have e : m = l := by rw [em.out]; simp
      subst e
      exact swap_eq hl hpl
    have Hfin := Lib.hid hfin
    clear hfin hW hs0 hs1 hs2 hs3 hl0 hl1 HR2 hcell0 hfz0 hcell1 hfz1 hne hne1 hne2 hne3
    go_wp2_with fail
    go_quiet ((first | (go_at_call 21; with_reducible exact q1 _) | (go_at_call 21; with_reducible exact q2 _)))
    go_wp2_with fail
    go_ret
    exact ⟨congrArg (fun b => Ending.returned (.bool b)) Hfin.out, pw_below_drewN BW _⟩
  · go_enter Try.func5, Try.ntmps5
    go_wp2_with fail
    refine (known_c _).mono ?_
    rintro e w1 ⟨rfl, hb1⟩
    go_wp2_with fail
    go_ret
    exact ⟨rfl, hb1⟩
end Go.Proofs.Ytbjadpeolkpmcaa.Walk
