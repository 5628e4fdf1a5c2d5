/- The chunker's finder: find. -/
import Derived.Test.YtgfodmpdnhebjaaFin
import Derived.Deep.LoopGhost
namespace Go.Proofs.Ytgfodmpdnhebjaa.Chk
open Go.RowKit Go.Proofs.Ytgfodmpdnhebjaa.P Go.Proofs.Ytgfodmpdnhebjaa.Fp Go.Proofs.Ytgfodmpdnhebjaa.FM Go.Proofs.Ytgfodmpdnhebjaa.Roll Go.Proofs.Ytgfodmpdnhebjaa.Ck Go.Proofs.YtgfodmpdnhebjaaW.PrintWords Go.Proofs.YtgfodmpdnhebjaaW.PrintLast Go.Proofs.YtgfodmpdnhebjaaW.PrintMore
set_option linter.unusedVariables false
set_option linter.unusedSimpArgs false
/-- Behind a find. -/
def FindPost (f g mn mx wd : Nat) (ms : Int) (p b : List Int) (w0 : World) (e : Ending) (w' : World) : Prop :=
  KB (fun k => k = f ∨ k = g) w0 w' ∧
  ((∃ r : Nat, first mn mx wd ms (p ++ b) p.length b.length = some r ∧ e = .returned (.tuple #[.int .i64 ((r - p.length : Nat) : Int), .bool true]) ∧ Fi w' f g mn mx wd ms []) ∨
   (first mn mx wd ms (p ++ b) p.length b.length = none ∧ e = .returned (.tuple #[.int .i64 (b.length : Int), .bool false]) ∧ Fi w' f g mn mx wd ms (p ++ b)))
theorem hit_in {mn mx wd : Nat} {ms : Int} {p b : List Int} {k : Nat} (hk : k < b.length) : hit mn mx wd ms (p ++ b) (p.length + k + 1) = (decide (mn ≤ p.length + k + 1) && (decide (p.length + k + 1 = mx) || Go.bits .and .u64 (fp (Wn wd (p ++ b.take (k + 1)) (p ++ b.take (k + 1)).length)) ms == 0)) := by
  have hl : (p ++ b.take (k + 1)).length = p.length + k + 1 := by rw [List.length_append, List.length_take]; omega
  have e : (p ++ b).take (p.length + k + 1) = p ++ b.take (k + 1) := by
    rw [List.take_append, List.take_of_length_le (by omega), show p.length + k + 1 - p.length = k + 1 by omega]
  rw [hl, ← e]
  unfold hit
  rw [Wn_take _ _ _ _ (Nat.le_refl _)]
set_option maxHeartbeats 4000000 in
set_option maxRecDepth 100000 in
theorem find_c {f g mn mx wd : Nat} {ms : Int} {p b : List Int} {A : Option Addr} {c : Nat} (w0 : World) (hF : Fi w0 f g mn mx wd ms p) (hO : Okp mn mx wd ms) (hr : Kd.C (Kd.int .u8) w0 A b.length b) (hc : b.length ≤ c) (hb : IsBytes b) (hl : b.length ≤ 140737488355328)
    (hA : 0 < b.length → ∀ ad, A = some ad → ad.block ≠ f ∧ ad.block ≠ g) :
    Calls Try.prog 38 #[.pointer (some ⟨f, 0, none⟩), .slice A b.length c] w0 (FindPost f g mn mx wd ms p b w0) := by
  have Hb := Lib.hid hb
  have HF := Lib.hid hF
  have HA := Lib.hid hA
  have HO := Lib.hid hO
  have Hne := Lib.hid hF.2.2.1
  clear hb hF hA hO
  go_enter Try.func38, Try.ntmps38
  go_wp2_with fail
  go_step3
  go_wp2_with fail
  go_step3
  go_wp2_with fail
  go_loopg [11] b.length (fun gk i wr => ∃ (k : Nat) (q : List Int), k ≤ b.length ∧ i = .int .i64 k ∧ Hid (gk = b.length - k) ∧ Hid (q = p ++ b.take k) ∧ Fi wr f g mn mx wd ms q ∧ KB (fun j => j = f ∨ j = g) w0 wr ∧ Hid (∀ j, p.length < j → j ≤ p.length + k → hit mn mx wd ms (p ++ b) j = false))
  case atStart => exact ⟨0, p, Nat.zero_le _, rfl, rfl, Lib.hid (by simp), HF.out, KB.refl _ _, Lib.hid (fun j h1 h2 => by omega)⟩
  case round =>
    obtain ⟨k, q, hk, rfl, hgk, hq, hF, hKB, hno⟩ := hrel
    have hqm := hF.2.2.2
    have hmx := HO.out.mc
    have hqf := hF.lt
    have HF1 := Lib.hid hF
    have HKB := Lib.hid hKB
    clear hKB
    by_cases hlt : k < b.length
    · obtain ⟨ad, rfl, had, hcl⟩ := C_cells hr (by omega)
      have hadne := HA.out (by omega) ad rfl
      have hload : wr.cell? (ad.add k) = some (.int .u8 (rd b k)) := by
        rw [World.cell?_of_block (HKB.out.block _ (by rw [add_block]; exact had) (by rw [add_block]; intro h; rcases h with h | h; exact hadne.1 h; exact hadne.2 h))]
        exact hcl k hlt
      have hx := rd_byte Hb.out (i := (k : Int)) (by omega) (by omega)
      clear hcl hadne had
      have c4 := hF.c4
      have fz := hF.fz
      clear hF
      obtain ⟨q1, hq1⟩ : ∃ q1, q1 = q ++ [rd b k] := ⟨_, rfl⟩
      have hq1l : q1.length = q.length + 1 := by rw [hq1]; simp
      have hq1t : q1 = p ++ b.take (k + 1) := by rw [hq1, hq.out, take_succ_rd hlt, List.append_assoc]
      have hroom : room wd (Wn wd q q.length) ++ [rd b k] = Wn wd q1 q1.length := by rw [hq1]; exact Wn_snoc _ _ HO.out.w1
      have Hq1 := Lib.hid hq1
      have Hq1l := Lib.hid hq1l
      have Hq1t := Lib.hid hq1t
      have Hroom := Lib.hid hroom
      clear hq1 hq1l hq1t hroom
      have hhit := hit_in (mn := mn) (mx := mx) (wd := wd) (ms := ms) (p := p) hlt
      rw [← Hq1t.out] at hhit
      have Hhit := Lib.hid hhit
      clear hhit
      go_wp2_with (first | (go_at_call 43; go_must (refine (push_c _ _ _ _ _ hx HF1.out.2.1).mono ?_); rintro e w4 ⟨rfl, hR4, hg4⟩; rw [Hroom.out] at *; have HR4 := Lib.hid hR4; have hb4 := (hg4.block f hqf (by simp; exact Hne.out)).trans HF1.out.1; have b0 := blk_cell hb4 0; have b1 := blk_cell hb4 1; have b2 := blk_cell hb4 2; have b3 := blk_cell hb4 3; have b5 := blk_cell hb4 5; have fz4 := blk_frozen hb4; have hl4 := blk_lt hb4; have Hb4 := Lib.hid hb4; have HG4 := Lib.hid hg4; clear hb4 hR4 hg4; simp [FC] at b0 b1 b2 b3 b5))
      have hqm' : q.length < 8192 := by omega
      have nohit : hit mn mx wd ms (p ++ b) (p.length + k + 1) = false → ∀ j, p.length < j → j ≤ p.length + (k + 1) → hit mn mx wd ms (p ++ b) j = false := fun h j h1 h2 => by
        by_cases hj : j = p.length + k + 1
        · rw [hj]; exact h
        · exact hno.out j h1 (by omega)
      have Nohit := Lib.hid nohit
      clear nohit
      have hql : q.length = p.length + k := by rw [hq.out, List.length_append, List.length_take]; omega
      have Hql := Lib.hid hql
      clear hql
      have hfi : ∀ W : World, W.heap = (w4.setCell ⟨f, 5, none⟩ (.int .i64 ((q.length : Int) + 1))).heap → W.heap[f]? = some (.cells (FC mn mx wd ms g q1.length) 75 (0, 0)) ∧ Ro W g wd (Wn wd q1 q1.length) := fun W hW => by
        refine ⟨?_, HR4.out.move (by rw [hW]; exact Go.heap_setCell_other _ _ _ _ (fun h => Hne.out h.symm))⟩
        rw [hW, Hq1l.out, Int.natCast_add]
        exact Go.Joins.block_setCell Hb4.out _
      have hkb : ∀ W : World, KB (fun _ => False) (w4.setCell ⟨f, 5, none⟩ (.int .i64 ((q.length : Int) + 1))) W → KB (fun j => j = f ∨ j = g) w0 W := fun W hW =>
        (((HKB.out.grown HG4.out (fun j hj => by cases hj; exact .inl (.inr rfl))).set (.inl (.inl rfl)) _).then_ hW (fun j hj => hj.elim))
      have Hfi := Lib.hid hfi
      have Hkb := Lib.hid hkb
      clear hfi hkb
      by_cases h1 : q.length + 1 < mn
      · go_quiet (fail)
        go_wp2_with fail
        go_roundg (b.length - (k + 1))
        case measure => rw [hgk.out]; omega
        case rel =>
          refine ⟨k + 1, q1, by omega, by go_num, rfl, Hq1t, ⟨(Hfi.out _ rfl).1, (Hfi.out _ rfl).2, Hne.out, ?_⟩, Hkb.out _ (KB.drewN (KB.refl _ _) _), ?_⟩
          · have := HO.out.mm; rw [Hq1l.out]; omega
          · refine Lib.hid (Nohit.out ?_)
            rw [Hhit.out]
            have := Hql.out
            simp only [show ¬ (mn ≤ p.length + k + 1) by omega, decide_false, Bool.false_and]
      · have hge : mn ≤ q.length + 1 := by omega
        clear h1
        have fin : ∀ (W : World), W.heap = (w4.setCell ⟨f, 5, none⟩ (.int .i64 ((q.length : Int) + 1))).heap → Calls Try.prog 39 #[.pointer (some ⟨f, 0, none⟩)] W (ResetPost f g mn mx wd ms W) := fun W hW =>
          reset_f W (Hfi.out _ hW).1 (Hfi.out _ hW).2 Hne.out (by omega)
        have hend : hit mn mx wd ms (p ++ b) (p.length + k + 1) = true → ∀ W W' : World, ResetPost f g mn mx wd ms W (.returned (.tuple #[])) W' → KB (fun _ => False) (w4.setCell ⟨f, 5, none⟩ (.int .i64 ((q.length : Int) + 1))) W → FindPost f g mn mx wd ms p b w0 (.returned (.tuple #[.int .i64 ((k : Int) + 1), .bool true])) W' := fun hh W W' hp hW => by
          refine ⟨(Hkb.out _ hW).then_ hp.2.2 (fun j hj => .inl hj), .inl ⟨p.length + k + 1, first_is (by omega) (by omega) hh (fun j g1 g2 => hno.out j g1 (by omega)), ?_, hp.2.1⟩⟩
          rw [show p.length + k + 1 - p.length = k + 1 by omega]
          rfl
        have Fin := Lib.hid fin
        have Hend := Lib.hid hend
        clear fin hend
        by_cases h2 : q.length + 1 = mx
        · have hcb : (((q.length : Int) + 1) == (mx : Int)) = true := by simp; omega
          have H2 := Lib.hid h2
          clear h2
          go_quiet (fail)
          go_wp2_with fail
          go_quiet (fail)
          go_wp2_with fail
          refine (Fin.out _ (by rfl)).mono ?_
          rintro e w5 ⟨rfl, hF5, hK5⟩
          go_wp2_with fail
          rw [Exit.noGoto_ret]
          go_ret2
          refine Hend.out ?_ _ _ ⟨rfl, hF5, hK5⟩ (KB.drewN (KB.refl _ _) _)
          rw [Hhit.out]
          have := Hql.out
          have := H2.out
          rw [show p.length + k + 1 = mx by omega]
          simp [HO.out.mm]
        · have hcb : (((q.length : Int) + 1) == (mx : Int)) = false := by simp; omega
          have hlt2 : q.length + 1 < mx := by have := HO.out.mm; omega
          have H2 := Lib.hid h2
          clear h2
          by_cases h3 : (Go.bits .and .u64 (fp (Wn wd q1 q1.length)) ms == 0) = true
          · go_quiet (fail)
            go_wp2_with fail
            go_quiet (fail)
            go_wp2_with fail
            refine (Fin.out _ (by rfl)).mono ?_
            rintro e w5 ⟨rfl, hF5, hK5⟩
            go_wp2_with fail
            rw [Exit.noGoto_ret]
            go_ret2
            refine Hend.out ?_ _ _ ⟨rfl, hF5, hK5⟩ (KB.drewN (KB.refl _ _) _)
            rw [Hhit.out]
            have := Hql.out
            simp only [show mn ≤ p.length + k + 1 by omega, decide_true, h3, Bool.true_and, Bool.or_true]
          · have h3' : (Go.bits .and .u64 (fp (Wn wd q1 q1.length)) ms == 0) = false := by simpa using h3
            clear h3
            go_quiet (fail)
            go_wp2_with fail
            go_quiet (fail)
            go_wp2_with fail
            go_roundg (b.length - (k + 1))
            case measure => rw [hgk.out]; omega
            case rel =>
              refine ⟨k + 1, q1, by omega, by go_num, rfl, Hq1t, ⟨(Hfi.out _ rfl).1, (Hfi.out _ rfl).2, Hne.out, ?_⟩, Hkb.out _ (KB.drewN (KB.refl _ _) _), ?_⟩
              · rw [Hq1l.out]; exact hlt2
              · refine Lib.hid (Nohit.out ?_)
                rw [Hhit.out]
                have := Hql.out
                simp only [show ¬ (p.length + k + 1 = mx) by omega, decide_false, h3', Bool.false_or, Bool.and_false]
    · obtain rfl : k = b.length := by omega
      have hqe : q = p ++ b := by rw [hq.out, List.take_length]
      have Hqe := Lib.hid hqe
      clear hqe
      go_wp2_with fail
      rw [Exit.noGoto_ret]
      go_ret2
      exact ⟨HKB.out, .inr ⟨first_isn (fun j h1 h2 => hno.out j h1 h2), rfl, by rw [← Hqe.out]; exact HF1.out⟩⟩
end Go.Proofs.Ytgfodmpdnhebjaa.Chk
