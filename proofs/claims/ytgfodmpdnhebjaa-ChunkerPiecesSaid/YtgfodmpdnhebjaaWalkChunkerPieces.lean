/- The walk of ChunkerPieces. -/
import Derived.Test.YtgfodmpdnhebjaaChm
import Derived.Test.YtgfodmpdnhebjaaGChunkerPieces
import Derived.Test.YtgfodmpdnhebjaaPxf16
import Derived.Test.YtgfodmpdnhebjaaPxf18
import Derived.Test.YtgfodmpdnhebjaaPxf19
import Derived.Test.YtgfodmpdnhebjaaPxf24
import Derived.Test.YtgfodmpdnhebjaaPxf35
namespace Go.Proofs.Ytgfodmpdnhebjaa.Walk
open Go.RowKit Go.Proofs.Ytgfodmpdnhebjaa.P Go.Proofs.Ytgfodmpdnhebjaa.Fp Go.Proofs.Ytgfodmpdnhebjaa.FM Go.Proofs.Ytgfodmpdnhebjaa.Roll Go.Proofs.Ytgfodmpdnhebjaa.Ck Go.Proofs.Ytgfodmpdnhebjaa.Chk Go.Proofs.Ytgfodmpdnhebjaa.Cp Go.Proofs.YtgfodmpdnhebjaaW.PrintWords Go.Proofs.YtgfodmpdnhebjaaW.PrintLast Go.Proofs.YtgfodmpdnhebjaaW.PrintMore
set_option linter.unusedVariables false
set_option linter.unusedSimpArgs false
/-- What holds at the head of the loop of ChunkerPieces. -/
def PInv (w : World) (l : List Int) (bx s f g mn mx wd : Nat) (ms : Int) (x y z : Value) (wr : World) : Prop :=
  ∃ (kk : Nat) (a : Int) (t : List Int) (A : Option Addr) (c : Nat) (L : List (List Int)) (V : List Value) (p : List Int) (v : Value),
    kk ≤ 8 ∧ z = .int .i64 kk ∧ x = .slice A t.length c ∧ t.length ≤ c ∧ t.length + 30 * kk ≤ 240 ∧ Hid (IsBytes t) ∧ Hid (PB w wr bx s f g mn mx wd ms A t y L V p v) ∧ Hid (wc mn mx wd ms (t.length + 1) t = (L, p)) ∧
    Hid (IsS25 w wr w.heap.size l a) ∧ 0 ≤ a ∧ a + 10002 * kk ≤ 100000 ∧ Hid (Below w.heap.size w wr)
set_option maxHeartbeats 8000000 in
set_option maxRecDepth 100000 in
theorem ChunkerPieces : Goal.ChunkerPieces := by
  intro A c l w hr hc hn hw
  have hl := Wf.of hn hw
  obtain ⟨mn, mx, wd, j, hm, hO, hj, hx⟩ := made_is hl (a := 0) (by omega) (by omega)
  have Hm := Lib.hid hm
  have HO := Lib.hid hO
  have hk := known_is (k := 4) (Nat.le_refl _)
  have Hk := Lib.hid hk
  have Hl := Lib.hid hl
  clear hm hO hk hl
  go_enter Try.func13, Try.ntmps13
  go_wp2_with fail
  have hI0 : IsS25 w (w.alloc (.cells #[.slice A l.length c, .int .i64 0] 25 (0, 0))) w.heap.size l 0 := ⟨A, c, heap_alloc_new _ _, Nat.le_refl _, hr⟩
  refine (stockyardlaw24_made.calls w.heap.size l 0 mn mx wd (2 ^ j - 1) (0 + 4) w _ hI0 ((Below.refl w.heap.size w).alloc (Nat.le_refl _) _) Hm.out).mono ?_
  rintro e w1 ⟨rfl, hI1, hB1, hK1⟩
  clear hK1
  go_wp2_with fail
  have hx2 := heap_alloc_new w1 (.cells #[.int .i64 mn, .int .i64 mx, .int .i64 wd, .int .u64 (2 ^ j - 1)] 28 (0, 0))
  have hI2 : IsS25 w (w1.alloc (.cells #[.int .i64 mn, .int .i64 mx, .int .i64 wd, .int .u64 (2 ^ j - 1)] 28 (0, 0))) w.heap.size l (0 + 4) := by
    apply IsS25.alloc
    exact hI1
  have hB2 := hB1.alloc hB1.size (.cells #[.int .i64 mn, .int .i64 mx, .int .i64 wd, .int .u64 (2 ^ j - 1)] 28 (0, 0))
  have hz1 := hB1.size
  generalize w1.alloc (.cells #[.int .i64 mn, .int .i64 mx, .int .i64 wd, .int .u64 (2 ^ j - 1)] 28 (0, 0)) = w2 at hx2 hI2 hB2 ⊢
  have HX2 := Lib.hid hx2
  have HI2 := Lib.hid hI2
  clear hx2 hI2 hI1
  refine (news_ok _ HO.out).mono ?_
  rintro e w3 ⟨s, f, g, rfl, hs3, hF3, h1, h2, h3, hB3⟩
  have hz2 := hB2.size
  have hz12 : w1.heap.size < w2.heap.size := blk_lt HX2.out
  have hs0 : w.heap.size ≤ s ∧ w.heap.size ≤ f ∧ w.heap.size ≤ g := ⟨by omega, by omega, by omega⟩
  have hP3 : PB w w3 w1.heap.size s f g mn mx wd (2 ^ j - 1) none [] (.slice none 0 0) [] [] [] (.slice none 0 0) := ⟨⟨Kd.C_nil _ _, fun ad h => (by cases h), trivial, ⟨hs3, own_nil _ _ _ _, hF3⟩, (hB3.block _ hz12).trans HX2.out⟩, own_nil _ _ _ _⟩
  have B3 := stepB hB2 hB3
  have hI3 : IsS25 w w3 w.heap.size l (0 + 4) := IsS25.below HI2.out hB3
  have HP3 := Lib.hid hP3
  have HI3 := Lib.hid hI3
  clear hs3 hF3 h1 h2 h3 hB3 hP3 hI3 HX2 HI2
  go_wp2_with fail
  refine (stockyardlaw24_known.calls 4 _ _ Hk.out).mono ?_
  rintro e w4 ⟨rfl, hB4⟩
  go_wp2_with fail
  obtain ⟨r, hr8, r0, r1⟩ := next_is Hl.out (a := 0 + 4) (n := 8) (by omega) (by omega) (by omega)
  have r1 := r1 (by omega)
  refine (stockyardmake_Tape_Next.calls w.heap.size l (0 + 4) 8 r (0 + 4 + 1) w w4 (IsS25.below HI3.out hB4) (stepB B3 hB4) hr8).mono ?_
  rintro e w5 ⟨rfl, hI5, hB5, hK5⟩
  obtain ⟨r, rfl⟩ := Int.eq_ofNat_of_zero_le r0
  have hz5 := hB5.size
  have hP5 := (HP3.out.below hB4).tape (HI3.out.below hB4) hK5
  have HP5 := Lib.hid hP5
  have HI5 := Lib.hid hI5
  have HB5 := Lib.hid hB5
  clear hP5 hI5 hB5 hB4 B3 hK5 HI3 HP3 hr8 hj hx Hk
  go_wp2_with fail
  go_loopw [7, 8, 9] (PInv w l w1.heap.size s f g mn mx wd (2 ^ j - 1)) (fun _ _ z _ => (intOf z).toNat)
  case atStart =>
    exact ⟨r + 1, 0 + 4 + 1, [], none, 0, [], [], [], _, by omega, by go_num, rfl, Nat.le_refl _, by simp; omega, Lib.hid (fun x hx => by cases hx), HP5, Lib.hid rfl, HI5, by omega, by omega, HB5⟩
  case round =>
    obtain ⟨kk, a, t, A, c, L, V, p, v, hk8, rfl, rfl, htc, ht30, Ht, HP, HW, HI, ha0, ha1, HB⟩ := hrel
    have hzr := HB.out.size
    by_cases hlt : 0 < kk
    · obtain ⟨b, a', hb, hbl, hbb, ha2, ha3⟩ := text_is Hl.out (n := 30) (by omega) (by omega) ha0 (by omega) (k := 10001) (Nat.le_refl _)
      have Hb := Lib.hid hb
      have Hbb := Lib.hid hbb
      have hbl : b.length ≤ 30 := by omega
      clear hb hbb
      go_wp2_with fail
      refine (stockyardlaw24_text.calls 10001 w.heap.size l a 30 b a' w wr HI.out HB.out Hb.out).mono ?_
      rintro e w6 ⟨v6, rfl, hR6, hI6, hB6, hK6⟩
      obtain ⟨A6, c6, rfl, hc6, hC6⟩ := Kd.R_reads hR6
      have hA6 := R_blk hR6
      have hP6 := HP.out.tape HI.out hK6
      have HP6 := Lib.hid hP6
      have HC6 := Lib.hid hC6
      have HA6 := Lib.hid hA6
      have HI6 := Lib.hid hI6
      have HB6 := Lib.hid hB6
      have hz6 := hK6.1
      have hvl := Lib.hid (fun k hk => own_lt HP.out.sv.own k hk)
      clear hP6 hC6 hA6 hI6 hB6 hR6 hK6
      go_wp2_with fail
      refine (joined2 (w6.alloc (.cells #[.slice A t.length c, .slice A6 b.length c6] 30 (0, 0))) (cell_new _ _ _ _ 0) (cell_new _ _ _ _ 1) htc hc6 (Kd.C_alloc HP6.out.c _) (Kd.C_alloc HC6.out _) (by omega)).mono ?_
      rintro e w7 ⟨A7, c7, t7, rfl, ht7, hc7, hC7, hA7, hB7⟩
      have hP7 := (HP6.out.alloc (.cells #[.slice A t.length c, .slice A6 b.length c6] 30 (0, 0))).below hB7
      have hI7 := (HI6.out.alloc (.cells #[.slice A t.length c, .slice A6 b.length c6] 30 (0, 0))).below hB7
      have hz7 := hB7.size
      simp only [World.size_alloc] at hz7 hA7
      have hC67 := Kd.C_below (Kd.C_alloc HC6.out (.cells #[.slice A t.length c, .slice A6 b.length c6] 30 (0, 0))) hB7
      have hB7' := stepB (below_alloc HB6.out (.cells #[.slice A t.length c, .slice A6 b.length c6] 30 (0, 0))) hB7
      have hBt6 : ∀ ad, A6 = some ad → Bt w7 ad.block := fun ad e => by
        have h := (HA6.out ad e).2.2
        exact (h.kept (kept_below ((Below.refl _ _).alloc (Nat.le_refl _) _)) (fun h => h)).kept (kept_below hB7) (fun h => h)
      have hlt7 : t7.length = t.length + b.length := by rw [ht7.out, List.length_append]
      have hlt7' : t7.length + 30 * (kk - 1) ≤ 240 := by omega
      have HP7 := Lib.hid hP7
      have HI7 := Lib.hid hI7
      have HC7 := Lib.hid hC7
      have HC67 := Lib.hid hC67
      have HA7 := Lib.hid hA7
      have HB7 := Lib.hid hB7'
      have HBt6 := Lib.hid hBt6
      clear hP7 hI7 hC7 hC67 hA7 hB7 hB7' hBt6 hlt7
      go_wp2_with fail
      have hpl : p.length ≤ 240 := Nat.le_trans (wrt_rest (b := b) (q := p) (M := L) HW.out) (by omega)
      have hAv : Hid (∀ k, w6.heap.size ≤ k → some k ≠ v.ownBlock) := Lib.hid (fun k hk e => by have := hvl.out k e.symm; omega)
      have hAv6 : Hid (∀ ad, A6 = some ad → some ad.block ≠ v.ownBlock) := Lib.hid (fun ad h e => by have := hvl.out ad.block e.symm; have := (HA6.out ad h).1; omega)
      have HP7 : Hid (PB w w7 w1.heap.size s f g mn mx wd (2 ^ j - 1) A7 t7 u8 L V p v) := Lib.hid ⟨⟨HC7.out, fun ad e => (HA7.out ad e).2.2, HP7.out.chs, HP7.out.sv, HP7.out.box⟩, HP7.out.own⟩
      refine (write_c w7 (HP7.out.sv.st hs0.1 hs0.2.1 hs0.2.2) HO.out HC67.out hc6 Hbb.out (by omega) (by omega) ?_ ?_).mono ?_
      · intro ad e
        obtain ⟨cs, hcs⟩ := HBt6.out ad e
        exact ⟨blk_lt hcs, HP7.out.sv.other hcs (by decide)⟩
      · intro v' hv' ad e h
        rw [SC_inj (hv'.symm.trans HP7.out.sv.blk)] at h
        exact hAv6.out ad e h.symm
      rintro e w8 hpost
      obtain ⟨y8, v8, V8, L8, q8, hw8, rfl, ho8, hoy, hQ8, hk8⟩ := HP7.out.write (fun ad e => hAv.out _ (by have := (HA7.out ad e).1; omega)) hpost
      have hI8 : IsS25 w w8 w.heap.size l a' := by
        obtain ⟨A0, c0, hb, hg0, hr0⟩ := HI7.out
        refine ⟨A0, c0, (hk8.block _ (blk_lt hb) (fun hs => ?_)).trans hb, hg0, hr0⟩
        obtain ⟨a1, a2, a3⟩ := HP7.out.sv.other hb (by decide)
        rcases hs with e | e | e | e
        · exact a1 e
        · exact a2 e
        · exact a3 e
        · exact HP7.out.sv.pend hb (by decide) e
      have hB8 : Below w.heap.size w w8 := KB.to_below HB7.out (by omega) hk8 (fun i hi => by
        rcases hi with e | e | e | e
        · omega
        · omega
        · omega
        · exact own_base HP7.out.sv.own i e.symm)
      have hz8 := hk8.size
      have hlw := wc_write HW.out hw8.out
      have hcnt := wc_count (mn := mn) (mx := mx) (wd := wd) (ms := 2 ^ j - 1) _ (t ++ b) (Nat.lt_succ_self _)
      rw [hlw, ← ht7.out] at hcnt
      simp only [List.length_append] at hcnt
      have hL1 : L.length ≤ 300 := by omega
      have hL2 : L8.length ≤ 300 := by omega
      rw [← ht7.out] at hlw
      have HLW := Lib.hid hlw
      have Ho8 := Lib.hid ho8
      have Hoy := Lib.hid hoy
      have HQ8 := Lib.hid hQ8
      have HI8 := Lib.hid hI8
      have HB8 := Lib.hid hB8
      have Hone := Lib.hid ((Chs.append_right HP.out.chs.length.symm hQ8.chs).one)
      have Ht7 : Hid (IsBytes t7) := Lib.hid (by rw [ht7.out]; exact IsBytes.append Ht.out Hbb.out)
      clear hlw hcnt ho8 hoy hQ8 hI8 hB8 hpost hk8 hw8 ht7
      go_wp2_with (at_builtin; go_must (refine wpl_append_rows rfl _ _ 43 30 rfl Try.underlying43 infoS rfl rfl rfl Hoy.out Ho8.out Hone.out (by omega) (by omega) (by omega) ?_); intro v9 w9 hown9 hg9 _)
      have hQ9 := HQ8.out.grown Hoy.out hg9
      have hI9 : IsS25 w w9 w.heap.size l a' := HI8.out.grown hg9 (fun e => by
        obtain ⟨A0, c0, hb, _⟩ := HI8.out
        obtain ⟨cs, hc⟩ := own_typed Hoy.out _ e.symm
        exact types_ne (by decide) (hb.symm.trans hc))
      have hB9 := HB8.out.grown hg9 (by omega) (fun k hk => own_base Hoy.out k hk)
      rw [← List.length_append] at hown9
      have HP9 : Hid (PB w w9 w1.heap.size s f g mn mx wd (2 ^ j - 1) A7 t7 v9 (L ++ L8) (V ++ V8) q8 v8) := Lib.hid ⟨hQ9, hown9⟩
      have HI9 := Lib.hid hI9
      have HB9 := Lib.hid hB9
      clear hQ9 hown9 hg9 hI9 hB9
      go_wp2
      go_roundw
      case rel => exact ⟨kk - 1, a', t7, A7, c7, L ++ L8, V ++ V8, q8, v8, by omega, by go_num, rfl, hc7, hlt7', Ht7, HP9, HLW, HI9, by omega, by omega, HB9⟩
      case measure => simp [intOf]; omega
    · obtain rfl : kk = 0 := by omega
      go_wp2_with fail
      refine (close_c wr (HP.out.sv.st hs0.1 hs0.2.1 hs0.2.2) (by have := HO.out.w1; have := HO.out.wm; have := HO.out.mm; omega)).mono ?_
      rintro e w6 ⟨⟨A6, c6, rfl, hc6, hC6, hA6, hs6, hF6⟩, hk6⟩
      obtain ⟨hC, hOwn, hCh, hBox⟩ := HP.out.close hk6
      have hB6 : Below w.heap.size w w6 := KB.to_below HB.out (by omega) hk6 (fun i hi => by
        rcases hi with e | e | e
        · omega
        · omega
        · omega)
      have hz6 := hk6.size
      have hsplit := split_wc (mn := mn) (mx := mx) (wd := wd) (ms := 2 ^ j - 1) (t.length + 1) t (Nat.lt_succ_self _)
      have hcnt := wc_count (mn := mn) (mx := mx) (wd := wd) (ms := 2 ^ j - 1) _ t (Nat.lt_succ_self _)
      rw [HW.out] at hsplit hcnt
      simp only at hsplit hcnt
      have hL1 : L.length ≤ 240 := by omega
      have hp1 : p.length ≤ 240 := by omega
      by_cases hp : 0 < p.length
      · rw [if_neg (by omega)] at hsplit
        have HSp := Lib.hid hsplit
        have HC := Lib.hid hC
        have HOwn := Lib.hid hOwn
        have HCh := Lib.hid hCh
        have HBox := Lib.hid hBox
        have HB6 := Lib.hid hB6
        have HC6 := Lib.hid hC6
        have HA6 := Lib.hid hA6
        have HBt : Hid (∀ ad, A = some ad → Bt w6 ad.block) := Lib.hid (fun ad e => (HP.out.bt ad e).kept hk6.kept (fun hs => by
          obtain ⟨cs, hc⟩ := HP.out.bt ad e
          obtain ⟨a1, a2, a3⟩ := HP.out.sv.other hc (by decide)
          rcases hs with e | e | e
          · exact a1 e
          · exact a2 e
          · exact a3 e))
        obtain ⟨i9, hi9, hz9, hs9, hy9⟩ := info_parts infoS
        clear hsplit hcnt hC hOwn hCh hBox hB6 hC6 hA6 hs6 hF6 hk6
        go_wp2_with (at_builtin; go_must (refine wpList_append_own_at _ rfl _ _ 43 rfl w.heap.size 30 i9 (.slice none 0 0) 1 24 Try.underlying43 hi9 hz9 hs9 hy9 rfl (by decide) _ _ _ rfl (HOwn.out.alloc _) ⟨w6.heap.size, 0, none⟩ 1 1 [.slice A6 p.length c6] rfl rfl (cell_one_new _ _ _) (by simp [Value.oneCell']) (by unfold maxLen; omega) (by omega) (by simp; omega) ?_); intro v7 w7 hown7 hg7 _ _; have hbx := (hg7.block w1.heap.size (by have := blk_lt HBox.out; simp; omega) (fun e => by
            obtain ⟨cs, hc⟩ := own_typed HOwn.out _ e.symm
            exact types_ne (by decide) (hc.symm.trans HBox.out))).trans ((heap_alloc_old w6 _ (blk_lt HBox.out)).trans HBox.out); have b0 := blk_cell hbx 0; have b1 := blk_cell hbx 1; have b2 := blk_cell hbx 2; have b3 := blk_cell hbx 3; clear hbx; simp only [List.getElem?_toArray, List.getElem?_cons_zero, List.getElem?_cons_succ] at b0 b1 b2 b3; have Hown7 := Lib.hid hown7; have Hg7 := Lib.hid hg7; have hsz7 := hg7.size; clear hown7 hg7)
        have hk67 : Kept w6 w7 (fun k => u8.ownBlock = some k) := ⟨by simp only [World.size_alloc] at hsz7; omega, fun k hk hn => (Hg7.out.block k (by simp; omega) (fun e => hn e.symm)).trans (heap_alloc_old w6 _ hk)⟩
        have nb : ∀ k, Bt w6 k → ¬ u8.ownBlock = some k := fun k hb e => by
          obtain ⟨cs, hc⟩ := hb
          obtain ⟨cs', hc'⟩ := own_typed HOwn.out _ e
          exact types_ne (by decide) (hc.symm.trans hc')
        have hC7 := C_kept HC.out hk67 (fun ad e => nb _ (HBt.out ad e))
        have hCh7 : Chs w7 (Bt w7) (L ++ [p]) (V ++ [.slice A6 p.length c6]) := Chs.snoc ⟨A6, c6, rfl, hc6, C_kept HC6.out hk67 (fun ad e => nb _ (HA6.out ad e).2.2.2.2.2), fun ad e => (Bt.kept (HA6.out ad e).2.2.2.2.2 hk67 (nb _ (HA6.out ad e).2.2.2.2.2))⟩ (HCh.out.kept hk67 nb (fun k hk => hk.kept hk67 (nb k hk)))
        have hB7 : Below w.heap.size w w7 := (below_alloc HB6.out _).grown Hg7.out (by simp; omega) (fun k hk => own_base HOwn.out k hk)
        have hown7 := Hown7.out
        have HSp' := HSp.out
        have hM7 : (L ++ [p]).length ≤ 241 := by simp; omega
        rw [show L.length + 1 = (L ++ [p]).length by simp] at hown7
        generalize L ++ [p] = M at hown7 hCh7 HSp' hM7
        have HM := Lib.hid HSp'
        have HC := Lib.hid hC7
        have HB7 := Lib.hid hB7
        obtain ⟨Ay, cy, rfl, hcy, hCy⟩ := Chs.to_C hown7 hCh7 (by omega)
        have Hcy := Lib.hid hCy
        clear hCy hown7 hCh7 HSp' hC7 hB7 hk67 nb
        have Hsp := Lib.hid (split_is HO.out Ht.out (by omega) (k := 1000) (by omega))
        rw [HM.out] at Hsp
        refine (chunker_Split.calls 1000 mn mx wd (2 ^ j - 1) A c t M 0 _ HC.out htc Hsp.out).mono ?_
        rintro e w8 ⟨v8, rfl, hS8, hb8⟩
        obtain ⟨As, cs, rfl, hcs, hCs⟩ := Kd.S_reads hS8
        have hCy8 := Kd.C_below Hcy.out hb8
        have hB8 := stepB HB7.out hb8
        have HCy8 := Lib.hid hCy8
        have HCs := Lib.hid hCs
        have HB8 := Lib.hid hB8
        clear hCy8 hCs hB8 hS8 hb8 b0 b1 b2 b3 Hsp
        go_wp2_with fail
        refine (stockyardmake_SameTexts.calls (M.length + 1) Ay cy M As cs M true w8 HCy8.out hcy HCs.out hcs (texts_is (by omega) (Nat.lt_succ_self _))).mono ?_
        rintro e w9 ⟨rfl, hd9⟩
        have hB9 := stepB HB8.out hd9.below
        go_wp2_with fail
        go_ret
        exact ⟨rfl, hB9⟩
      · rw [if_pos (by omega), List.append_nil] at hsplit
        obtain ⟨M, hM⟩ : ∃ M, M = L := ⟨_, rfl⟩
        subst hM
        have HM := Lib.hid hsplit
        have HC := Lib.hid hC
        have HOwn := Lib.hid hOwn
        have HCh := Lib.hid hCh
        have HBox := Lib.hid hBox
        have HB7 := Lib.hid hB6
        clear hsplit hcnt hC hOwn hCh hBox hB6 hC6 hA6 hs6 hF6 hk6
        obtain ⟨Ay, cy, rfl, hcy, hCy⟩ := Chs.to_C HOwn.out HCh.out (by omega)
        have b0 := blk_cell HBox.out 0
        have b1 := blk_cell HBox.out 1
        have b2 := blk_cell HBox.out 2
        have b3 := blk_cell HBox.out 3
        have Hcy := Lib.hid hCy
        simp only [List.getElem?_toArray, List.getElem?_cons_zero, List.getElem?_cons_succ] at b0 b1 b2 b3
        clear hCy
        go_wp2_with fail
        have Hsp := Lib.hid (split_is HO.out Ht.out (by omega) (k := 1000) (by omega))
        rw [HM.out] at Hsp
        refine (chunker_Split.calls 1000 mn mx wd (2 ^ j - 1) A c t M 0 _ HC.out htc Hsp.out).mono ?_
        rintro e w8 ⟨v8, rfl, hS8, hb8⟩
        obtain ⟨As, cs, rfl, hcs, hCs⟩ := Kd.S_reads hS8
        have hCy8 := Kd.C_below Hcy.out hb8
        have hB8 := stepB HB7.out hb8
        have HCy8 := Lib.hid hCy8
        have HCs := Lib.hid hCs
        have HB8 := Lib.hid hB8
        clear hCy8 hCs hB8 hS8 hb8 b0 b1 b2 b3 Hsp
        go_wp2_with fail
        refine (stockyardmake_SameTexts.calls (M.length + 1) Ay cy M As cs M true w8 HCy8.out hcy HCs.out hcs (texts_is (by omega) (Nat.lt_succ_self _))).mono ?_
        rintro e w9 ⟨rfl, hd9⟩
        have hB9 := stepB HB8.out hd9.below
        go_wp2_with fail
        go_ret
        exact ⟨rfl, hB9⟩
end Go.Proofs.Ytgfodmpdnhebjaa.Walk
