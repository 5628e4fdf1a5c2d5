/- The walk of ChunkerStream. -/
import Derived.Test.YtgfodmpdnhebjaaChm
import Derived.Test.YtgfodmpdnhebjaaGChunkerStream
import Derived.Test.YtgfodmpdnhebjaaPxf16
import Derived.Test.YtgfodmpdnhebjaaPxf18
import Derived.Test.YtgfodmpdnhebjaaPxf19
import Derived.Test.YtgfodmpdnhebjaaPxf24
import Derived.Test.YtgfodmpdnhebjaaPxf35
namespace Go.Proofs.Ytgfodmpdnhebjaa.Walk
open Go.RowKit Go.Proofs.Ytgfodmpdnhebjaa.P Go.Proofs.Ytgfodmpdnhebjaa.Fp Go.Proofs.Ytgfodmpdnhebjaa.FM Go.Proofs.Ytgfodmpdnhebjaa.Roll Go.Proofs.Ytgfodmpdnhebjaa.Ck Go.Proofs.Ytgfodmpdnhebjaa.Chk Go.Proofs.Ytgfodmpdnhebjaa.Cp Go.Proofs.YtgfodmpdnhebjaaW.PrintWords Go.Proofs.YtgfodmpdnhebjaaW.PrintLast Go.Proofs.YtgfodmpdnhebjaaW.PrintMore
set_option linter.unusedVariables false
set_option linter.unusedSimpArgs false
/-- What holds at the head of the loop of ChunkerStream. -/
def SInv (w : World) (l : List Int) (bx s f g mn mx wd : Nat) (ms : Int) (x z : Value) (wr : World) : Prop :=
  ∃ (kk : Nat) (a : Int) (A : Option Addr) (c : Nat) (p : List Int) (v : Value),
    kk ≤ 10 ∧ z = .int .i64 kk ∧ x = .slice A p.length c ∧ p.length ≤ c ∧ p.length + 30 * kk ≤ 300 ∧ Hid (IsBytes p) ∧ Hid (PQ w wr bx s f g mn mx wd ms A p [] [] p v) ∧ Hid (∀ j, 0 < j → j ≤ p.length → hit mn mx wd ms p j = false) ∧
    Hid (IsS25 w wr w.heap.size l a) ∧ 0 ≤ a ∧ a + 10003 * kk ≤ 200000 ∧ Hid (Below w.heap.size w wr)
set_option maxHeartbeats 8000000 in
set_option maxRecDepth 100000 in
theorem ChunkerStream : Goal.ChunkerStream := by
  intro A c l w hr hc hn hw
  have hl := Wf.of hn hw
  obtain ⟨mn, mx, wd, j, hm, hO, hj, hx⟩ := made_is hl (a := 0) (by omega) (by omega)
  have Hm := Lib.hid hm
  have HO := Lib.hid hO
  have hk := known_is (k := 4) (Nat.le_refl _)
  have Hk := Lib.hid hk
  have Hl := Lib.hid hl
  clear hm hO hk hl
  go_enter Try.func12, Try.ntmps12
  go_wp2_with fail
  have hI0 : IsS25 w (w.alloc (.cells #[.slice A l.length c, .int .i64 0] 25 (0, 0))) w.heap.size l 0 := ⟨A, c, heap_alloc_new _ _, Nat.le_refl _, hr⟩
  refine (stockyardlaw24_made.calls w.heap.size l 0 mn mx wd (2 ^ j - 1) (0 + 4) w _ hI0 ((Below.refl w.heap.size w).alloc (Nat.le_refl _) _) Hm.out).mono ?_
  rintro e w1 ⟨rfl, hI1, hB1, hK1⟩
  clear hK1
  go_wp2_with fail
  have hx2 := heap_alloc_new w1 (.cells #[.int .i64 mn, .int .i64 mx, .int .i64 wd, .int .u64 (2 ^ j - 1)] 28 (0, 0))
  have hI2 : IsS25 w (w1.alloc (.cells #[.int .i64 mn, .int .i64 mx, .int .i64 wd, .int .u64 (2 ^ j - 1)] 28 (0, 0))) w.heap.size l (0 + 4) := by
    apply IsS25.alloc
    exact hI1
  have hB2 := hB1.alloc hB1.size (.cells #[.int .i64 mn, .int .i64 mx, .int .i64 wd, .int .u64 (2 ^ j - 1)] 28 (0, 0))
  have hz1 := hB1.size
  generalize w1.alloc (.cells #[.int .i64 mn, .int .i64 mx, .int .i64 wd, .int .u64 (2 ^ j - 1)] 28 (0, 0)) = w2 at hx2 hI2 hB2 ⊢
  have HX2 := Lib.hid hx2
  have HI2 := Lib.hid hI2
  clear hx2 hI2 hI1
  refine (news_ok _ HO.out).mono ?_
  rintro e w3 ⟨s, f, g, rfl, hs3, hF3, h1, h2, h3, hB3⟩
  have hz2 := hB2.size
  have hz12 : w1.heap.size < w2.heap.size := blk_lt HX2.out
  have hs0 : w.heap.size ≤ s ∧ w.heap.size ≤ f ∧ w.heap.size ≤ g := ⟨by omega, by omega, by omega⟩
  have hP3 : PB w w3 w1.heap.size s f g mn mx wd (2 ^ j - 1) none [] (.slice none 0 0) [] [] [] (.slice none 0 0) := ⟨⟨Kd.C_nil _ _, fun ad h => (by cases h), trivial, ⟨hs3, own_nil _ _ _ _, hF3⟩, (hB3.block _ hz12).trans HX2.out⟩, own_nil _ _ _ _⟩
  have B3 := stepB hB2 hB3
  have hI3 : IsS25 w w3 w.heap.size l (0 + 4) := IsS25.below HI2.out hB3
  have HP3 := Lib.hid hP3
  have HI3 := Lib.hid hI3
  clear hs3 hF3 h1 h2 h3 hB3 hP3 hI3 HX2 HI2
  go_wp2_with fail
  refine (stockyardlaw24_known.calls 4 _ _ Hk.out).mono ?_
  rintro e w4 ⟨rfl, hB4⟩
  go_wp2_with fail
  obtain ⟨r, hr9, r0, r1⟩ := next_is Hl.out (a := 0 + 4) (n := 9) (by omega) (by omega) (by omega)
  have r1 := r1 (by omega)
  refine (stockyardmake_Tape_Next.calls w.heap.size l (0 + 4) 9 r (0 + 4 + 1) w w4 (IsS25.below HI3.out hB4) (stepB B3 hB4) hr9).mono ?_
  rintro e w5 ⟨rfl, hI5, hB5, hK5⟩
  obtain ⟨r, rfl⟩ := Int.eq_ofNat_of_zero_le r0
  have hz5 := hB5.size
  have hP5 := (HP3.out.below hB4).tape (HI3.out.below hB4) hK5
  have HP5 := Lib.hid hP5.toPQ
  have HI5 := Lib.hid hI5
  have HB5 := Lib.hid hB5
  clear hP5 hI5 hB5 hB4 B3 hK5 HI3 HP3 hr9 hj hx Hk
  go_wp2_with fail
  go_loopw [7, 8] (SInv w l w1.heap.size s f g mn mx wd (2 ^ j - 1)) (fun _ z _ => (intOf z).toNat)
  case atStart =>
    exact ⟨r + 2, 0 + 4 + 1, none, 0, [], _, by omega, by go_num, rfl, Nat.le_refl _, by simp; omega, Lib.hid (fun x hx => by cases hx), HP5, Lib.hid (fun j h1 h2 => by simp at h2; omega), HI5, by omega, by omega, HB5⟩
  case round =>
    obtain ⟨kk, a, A, c, p, v, hk8, rfl, rfl, hpc, hp30, Hp, HP, HH, HI, ha0, ha1, HB⟩ := hrel
    have hzr := HB.out.size
    by_cases hlt : 0 < kk
    · obtain ⟨d, hd6, d0, d1⟩ := next_is Hl.out (a := a) (n := 6) ha0 (by omega) (by omega)
      have d1 := d1 (by omega)
      obtain ⟨d, rfl⟩ := Int.eq_ofNat_of_zero_le d0
      have Hd6 := Lib.hid hd6
      clear hd6
      go_wp2_with fail
      refine (stockyardmake_Tape_Next.calls w.heap.size l a 6 d (a + 1) w wr HI.out HB.out Hd6.out).mono ?_
      rintro e w6 ⟨rfl, hI6, hB6, hK6⟩
      have hP6 := HP.out.tape HI.out hK6
      have HP6 := Lib.hid hP6
      have HI6 := Lib.hid hI6
      have HB6 := Lib.hid hB6
      have hz6 := hK6.1
      clear hP6 hI6 hB6 hK6
      by_cases hd0 : d = 0
      · subst hd0
        go_wp2_with fail
        have Hst : Hid (∀ W, Kd.C (Kd.int .u8) W A p.length p → (convert 30 9 (.slice A p.length c)).run Try.prog W = .ok (.string (strOfNums p)) W) := Lib.hid (fun W h => Kd.C_string Try.underlying30 Try.underlying5 Try.underlying9 h)
        have HP6' := Lib.hid (HP6.out.below (w' := w6.drew) (below_drew (Below.refl _ _)))
        refine start_ (n := 11) (S := fun w' => (convert 30 9 (.slice A p.length c)).run Try.prog w' = .ok (.string (strOfNums p)) w') (ds := []) #[false, false, false, false, false, false, false, false, false, false, false] (by kernel_rfl) rfl rfl (Hst.out _ (Kd.C_drew HP6.out.c)) (fun hHeld => ?_)
        refine pure_ (i := 0) (N := some 41) (v := ?_) (a' := ?_) #[true, false, false, false, false, false, false, false, false, false, false] rfl rfl (by kernel_rfl) (fun _ _ _ h => h) (Or.inl ⟨by rfl, ?_⟩) ?_ ?_
        rotate_left
        · intro w'
          go_simp
          try with_reducible rfl
        rotate_left
        · simp only [Act.put, List.setIfInBounds_toArray, List.set_cons_zero, List.set_cons_succ, i64_w, i32_w]
          rfl
        refine pure_ (i := 3) (N := some 44) (v := ?_) (a' := ?_) #[true, false, false, true, false, false, false, false, false, false, false] rfl rfl (by kernel_rfl) (fun _ _ _ h => h) (Or.inl ⟨by rfl, ?_⟩) ?_ ?_
        rotate_left
        · intro w'
          go_simp
          try with_reducible rfl
        rotate_left
        · simp only [Act.put, List.setIfInBounds_toArray, List.set_cons_zero, List.set_cons_succ, i64_w, i32_w]
          rfl
        refine take_ (i := 4) (N := some 45) (v := ?_) (a' := ?_) #[true, false, false, true, true, false, false, false, false, false, false] rfl rfl (by kernel_rfl) (fun _ _ _ h => h) (Or.inl ⟨by rfl, ?_⟩) hHeld ?_ ?_
        rotate_left
        · rintro w' s0
          go_simp
          try with_reducible rfl
        rotate_left
        · simp only [Act.put, List.setIfInBounds_toArray, List.set_cons_zero, List.set_cons_succ, i64_w, i32_w]
          rfl
        refine one_ (i := 1) (N := some 42) #[true, true, false, true, true, false, false, false, false, false, false] rfl rfl (by kernel_rfl) (by decide) (fun K hK => ?_)
        refine goes_ Try.func31 (by kernel_rfl) rfl #[.pointer (some ⟨s, 0, none⟩)] (by rfl) rfl rfl (by (try simp only [List.map_toArray, List.map_cons, List.map_nil]); first | done | rfl) ?_
        refine (close_c _ (HP6'.out.sv.st hs0.1 hs0.2.1 hs0.2.2) (by have := HO.out.w1; have := HO.out.wm; have := HO.out.mm; omega)).mono ?_
        rintro e w7 ⟨⟨A7, c7, rfl, hc7, hC7, hA7, hs7, hF7⟩, hk7⟩
        have hP7 : PQ w w7 w1.heap.size s f g mn mx wd (2 ^ j - 1) none [] [] [] [] (.slice none 0 0) := ⟨Kd.C_nil _ _, fun ad h => (by cases h), trivial, ⟨hs7, own_nil _ _ _ _, hF7⟩, (hk7.block _ (blk_lt HP6'.out.box) (fun hs => HP6'.out.sv.far HP6'.out.box (by decide) (by decide) (by rcases hs with e | e | e <;> simp [e]))).trans HP6'.out.box⟩
        have hI7 := HP6'.out.sv.farT (HI6.out.drew) hk7 (fun k hs => by rcases hs with e | e | e <;> simp [e])
        have hB7 : Below w.heap.size w w7 := KB.to_below (below_drew HB6.out) (by simp; omega) hk7 (fun i hi => by
          rcases hi with e | e | e
          · omega
          · omega
          · omega)
        have hCp7 : Kd.C (Kd.int .u8) w7 A p.length p := C_kept HP6'.out.c hk7.kept (fun ad e hs => by
          obtain ⟨cs, hc⟩ := HP6'.out.bt ad e
          obtain ⟨a1, a2, a3⟩ := HP6'.out.sv.other hc (by decide)
          rcases hs with e | e | e
          · exact a1 e
          · exact a2 e
          · exact a3 e)
        have hs7' := Hst.out _ hCp7
        have HP7 := Lib.hid hP7
        have HI7 := Lib.hid hI7
        have HB7 := Lib.hid hB7
        have Hs7 := Lib.hid (Kd.C_string Try.underlying30 Try.underlying5 Try.underlying9 (c := c7) hC7)
        refine ⟨_, rfl, hK.out _ _ hs7' (fun hHeld => ?_)⟩
        clear hK K hs7 hF7 hk7 hP7 hI7 hB7 hCp7 hs7' hC7 hA7
        refine norm_ (a' := ?_) ?_ ?_
        rotate_left
        · show Act.put _ (some 42) _ = _
          simp only [Act.put, List.setIfInBounds_toArray, List.set_cons_zero, List.set_cons_succ, i64_w, i32_w]
          rfl
        refine one_ (i := 2) (N := some 43) #[true, true, true, true, true, false, false, false, false, false, false] rfl rfl (by kernel_rfl) (by decide) (fun K hK => ?_)
        refine value_ (v := .string (strOfNums p)) (w1 := w7) (by rfl) rfl ?_ ?_
        · have hs := Hs7.out
          go_simp
          try with_reducible rfl
        refine hK.out _ _ hHeld (fun hHeld => ?_)
        clear hK K
        refine norm_ (a' := ?_) ?_ ?_
        rotate_left
        · show Act.put _ (some 43) _ = _
          simp only [Act.put, List.setIfInBounds_toArray, List.set_cons_zero, List.set_cons_succ, i64_w, i32_w]
          rfl
        refine pure_ (i := 5) (N := some 46) (v := ?_) (a' := ?_) #[true, true, true, true, true, true, false, false, false, false, false] rfl rfl (by kernel_rfl) (fun _ _ _ h => h) (Or.inl ⟨by rfl, ?_⟩) ?_ ?_
        rotate_left
        · intro w'
          go_simp
          try with_reducible rfl
        rotate_left
        · simp only [Act.put, List.setIfInBounds_toArray, List.set_cons_zero, List.set_cons_succ, i64_w, i32_w]
          rfl
        refine pure_ (i := 6) (N := some 47) (v := ?_) (a' := ?_) #[true, true, true, true, true, true, true, false, false, false, false] rfl rfl (by kernel_rfl) (fun _ _ _ h => h) (Or.inl ⟨by rfl, ?_⟩) ?_ ?_
        rotate_left
        · intro w'
          go_simp
          try with_reducible rfl
        rotate_left
        · simp only [Act.put, List.setIfInBounds_toArray, List.set_cons_zero, List.set_cons_succ, i64_w, i32_w]
          rfl
        refine pure_ (i := 7) (N := some 48) (v := ?_) (a' := ?_) #[true, true, true, true, true, true, true, true, false, false, false] rfl rfl (by kernel_rfl) (fun _ _ _ h => h) (Or.inl ⟨by rfl, ?_⟩) ?_ ?_
        rotate_left
        · intro w'
          go_simp
          try with_reducible rfl
        rotate_left
        · simp only [Act.put, List.setIfInBounds_toArray, List.set_cons_zero, List.set_cons_succ, i64_w, i32_w]
          rfl
        refine one_ (i := 8) (N := some 49) #[true, true, true, true, true, true, true, true, true, false, false] rfl rfl (by kernel_rfl) (by decide) (fun K hK => ?_)
        refine goes_ Try.func32 (by kernel_rfl) rfl #[.pointer (some ⟨s, 0, none⟩)] (by rfl) rfl rfl (by (try simp only [List.map_toArray, List.map_cons, List.map_nil]); first | done | rfl) ?_
        refine (pending_c _ (HP7.out.sv.st hs0.1 hs0.2.1 hs0.2.2)).mono ?_
        rintro e w8 ⟨rfl, rfl⟩
        refine ⟨_, rfl, hK.out _ _ hHeld (fun hHeld => ?_)⟩
        clear hK K
        refine norm_ (a' := ?_) ?_ ?_
        rotate_left
        · show Act.put _ (some 49) _ = _
          simp only [Act.put, List.setIfInBounds_toArray, List.set_cons_zero, List.set_cons_succ, i64_w, i32_w]
          rfl
        refine pure_ (i := 9) (N := some 50) (v := ?_) (a' := ?_) #[true, true, true, true, true, true, true, true, true, true, false] rfl rfl (by kernel_rfl) (fun _ _ _ h => h) (Or.inl ⟨by rfl, ?_⟩) ?_ ?_
        rotate_left
        · intro w'
          go_simp
          try with_reducible rfl
        rotate_left
        · simp only [Act.put, List.setIfInBounds_toArray, List.set_cons_zero, List.set_cons_succ, i64_w, i32_w]
          rfl
        refine pure_ (i := 10) (N := some 51) (v := ?_) (a' := ?_) #[true, true, true, true, true, true, true, true, true, true, true] rfl rfl (by kernel_rfl) (fun _ _ _ h => h) (Or.inl ⟨by rfl, ?_⟩) ?_ ?_
        rotate_left
        · intro w'
          go_simp
          try with_reducible rfl
        rotate_left
        · simp only [Act.put, List.setIfInBounds_toArray, List.set_cons_zero, List.set_cons_succ, i64_w, i32_w]
          rfl
        refine done_ (by kernel_rfl) ?_
        clear hHeld
        go_wp2_with fail
        go_roundw
        case rel => exact ⟨kk - 1, a + 1, none, 0, [], _, by omega, by go_num, rfl, Nat.le_refl _, by simp; omega, Lib.hid (fun x hx => by cases hx), HP7, Lib.hid (fun j h1 h2 => by simp at h2; omega), HI7, by omega, by omega, HB7⟩
        case measure => simp [intOf]; omega
      · have hd1 : (((d : Nat) : Int) == 0) = false := by simp; omega
        go_wp2_with fail
        obtain ⟨b, a', hb, hbl, hbb, ha2, ha3⟩ := text_is Hl.out (n := 30) (a := a + 1) (by omega) (by omega) (by omega) (by omega) (k := 10001) (Nat.le_refl _)
        have Hb := Lib.hid hb
        have Hbb := Lib.hid hbb
        have hbl : b.length ≤ 30 := by omega
        clear hb hbb
        refine (stockyardlaw24_text.calls 10001 w.heap.size l (a + 1) 30 b a' w w6 HI6.out HB6.out Hb.out).mono ?_
        rintro e w7 ⟨v7, rfl, hR7, hI7, hB7, hK7⟩
        obtain ⟨A7, c7, rfl, hc7, hC7⟩ := Kd.R_reads hR7
        have hA7 := R_blk hR7
        have hP7 := HP6.out.tape HI6.out hK7
        have hvl := Lib.hid (fun k hk => own_lt HP6.out.sv.own k hk)
        have HP7 := Lib.hid hP7
        have HC7 := Lib.hid hC7
        have HA7 := Lib.hid hA7
        have HI7 := Lib.hid hI7
        have HB7 := Lib.hid hB7
        have hz7 := hK7.1
        clear hP7 hC7 hA7 hI7 hB7 hR7 hK7
        go_wp2_with fail
        refine start_ (n := 11) (S := fun w' => w'.heap[w1.heap.size]? = some (.cells #[.int .i64 mn, .int .i64 mx, .int .i64 wd, .int .u64 (2 ^ j - 1)] 28 (0, 0))) (ds := []) #[false, false, false, false, false, false, false, false, false, false, false] (by kernel_rfl) rfl rfl HP7.out.box (fun hHeld => ?_)
        refine pure_ (i := 1) (N := some 56) (v := ?_) (a' := ?_) #[false, true, false, false, false, false, false, false, false, false, false] rfl rfl (by kernel_rfl) (fun _ _ _ h => h) (Or.inl ⟨by rfl, ?_⟩) ?_ ?_
        rotate_left
        · intro w'
          go_simp
          try with_reducible rfl
        rotate_left
        · simp only [Act.put, List.setIfInBounds_toArray, List.set_cons_zero, List.set_cons_succ, i64_w, i32_w]
          rfl
        refine pure_ (i := 2) (N := some 57) (v := ?_) (a' := ?_) #[false, true, true, false, false, false, false, false, false, false, false] rfl rfl (by kernel_rfl) (fun _ _ _ h => h) (Or.inl ⟨by rfl, ?_⟩) ?_ ?_
        rotate_left
        · intro w'
          go_simp
          try with_reducible rfl
        rotate_left
        · simp only [Act.put, List.setIfInBounds_toArray, List.set_cons_zero, List.set_cons_succ, i64_w, i32_w]
          rfl
        refine take_ (i := 0) (N := some 55) (v := ?_) (a' := ?_) #[true, true, true, false, false, false, false, false, false, false, false] rfl rfl (by kernel_rfl) (fun _ _ _ h => h) (Or.inl ⟨by rfl, ?_⟩) hHeld ?_ ?_
        rotate_left
        · rintro w' s0
          have b0 := blk_cell s0 0
          have b1 := blk_cell s0 1
          have b2 := blk_cell s0 2
          have b3 := blk_cell s0 3
          simp only [List.getElem?_toArray, List.getElem?_cons_zero, List.getElem?_cons_succ] at b0 b1 b2 b3
          clear s0
          go_simp
          try with_reducible rfl
        rotate_left
        · simp only [Act.put, List.setIfInBounds_toArray, List.set_cons_zero, List.set_cons_succ, i64_w, i32_w]
          rfl
        refine one_ (i := 3) (N := some 58) #[true, true, true, true, false, false, false, false, false, false, false] rfl rfl (by kernel_rfl) (by decide) (fun K hK => ?_)
        refine value_ (w1 := ?_) (v := ?_) (by rfl) rfl ?_ ?_
        rotate_left 2
        · go_simp
          constructor
          · rfl
          · rfl
        have hB78 : Below w7.heap.size w7 (w7.alloc (.cells #[.slice A p.length c, .slice A7 b.length c7] 30 (0, 0))).drew := below_drew ((Below.refl _ _).alloc (Nat.le_refl _) _)
        have hx8 : (w7.alloc (.cells #[.slice A p.length c, .slice A7 b.length c7] 30 (0, 0))).drew.heap[w7.heap.size]? = some (.cells #[.slice A p.length c, .slice A7 b.length c7] 30 (0, 0)) := heap_alloc_new _ _
        have hz78 : (w7.alloc (.cells #[.slice A p.length c, .slice A7 b.length c7] 30 (0, 0))).drew.heap.size = w7.heap.size + 1 := by simp
        refine hK.out _ _ (HP7.out.below hB78).box (fun hHeld => ?_)
        clear hK K
        refine norm_ (a' := ?_) ?_ ?_
        rotate_left
        · show Act.put _ (some 58) _ = _
          simp only [Act.put, List.setIfInBounds_toArray, List.set_cons_zero, List.set_cons_succ, i64_w, i32_w]
          rfl
        generalize (w7.alloc (.cells #[.slice A p.length c, .slice A7 b.length c7] 30 (0, 0))).drew = w8 at hB78 hx8 hz78 hHeld ⊢
        have hz8 : w7.heap.size < w8.heap.size := by omega
        have hC8 := Kd.C_below HC7.out hB78
        have hP8 := HP7.out.below hB78
        have hBt7 : ∀ ad, A7 = some ad → w6.heap.size ≤ ad.block ∧ Bt w8 ad.block := fun ad e => ⟨(HA7.out ad e).1, (HA7.out ad e).2.2.kept (kept_below hB78) (fun h => h)⟩
        have HB8 := Lib.hid (stepB HB7.out hB78)
        have HI8 := Lib.hid (HI7.out.below hB78)
        have HC8 := Lib.hid hC8
        have HP8 := Lib.hid hP8
        have HBt7 := Lib.hid hBt7
        have Hx8 := Lib.hid hx8
        clear hB78 hx8 hz78 hC8 hP8 hBt7
        refine one_ (i := 4) (N := some 59) #[true, true, true, true, true, false, false, false, false, false, false] rfl rfl (by kernel_rfl) (by decide) (fun K hK => ?_)
        refine goes_ Try.func19 (by kernel_rfl) rfl #[.slice (some ⟨w7.heap.size, 0, none⟩) 2 2] (by rfl) rfl rfl (by (try simp only [List.map_toArray, List.map_cons, List.map_nil]); first | done | rfl) ?_
        refine (joined2 w8 (blk_cell Hx8.out 0) (blk_cell Hx8.out 1) hpc hc7 HP8.out.c HC8.out (by omega)).mono ?_
        rintro e w9 ⟨A9, c9, t9, rfl, ht9, hc9, hC9, hA9, hB9⟩
        have hz9 := hB9.size
        have hP9 := HP8.out.below hB9
        have hlt9 : t9.length = p.length + b.length := by rw [ht9.out, List.length_append]
        have HP9 := Lib.hid hP9
        have HC9 := Lib.hid hC9
        have HC79 := Lib.hid (Kd.C_below HC8.out hB9)
        have HBt9 : Hid (∀ ad, A7 = some ad → w6.heap.size ≤ ad.block ∧ Bt w9 ad.block) := Lib.hid (fun ad e => ⟨(HBt7.out ad e).1, (HBt7.out ad e).2.kept (kept_below hB9) (fun h => h)⟩)
        have HB9 := Lib.hid (stepB HB8.out hB9)
        have HI9 := Lib.hid (HI8.out.below hB9)
        have Hlt9 := Lib.hid hlt9
        refine ⟨_, rfl, hK.out _ _ hP9.box (fun hHeld => ?_)⟩
        clear hK K hP9 hC9 hA9 hB9 hlt9
        refine norm_ (a' := ?_) ?_ ?_
        rotate_left
        · show Act.put _ (some 59) _ = _
          simp only [Act.put, List.setIfInBounds_toArray, List.set_cons_zero, List.set_cons_succ, i64_w, i32_w]
          rfl
        have hbt : IsBytes t9 := by rw [ht9.out]; exact IsBytes.append Hp.out Hbb.out
        have hrw := rwrite_is (mn := mn) (mx := mx) (wd := wd) (ms := 2 ^ j - 1) HO.out hbt (by have := Hlt9.out; omega) (k := 1000) (by have := Hlt9.out; omega)
        obtain ⟨L, q, hLq⟩ : ∃ L q, wc mn mx wd (2 ^ j - 1) (t9.length + 1) t9 = (L, q) := ⟨_, _, rfl⟩
        have hqr := wc_rest (mn := mn) (mx := mx) (wd := wd) (ms := 2 ^ j - 1) (t9.length + 1) t9 (by omega)
        have hcn := wc_count (mn := mn) (mx := mx) (wd := wd) (ms := 2 ^ j - 1) (t9.length + 1) t9 (by omega)
        have hqb : IsBytes q := by
          obtain ⟨i, hi⟩ := wc_tail (mn := mn) (mx := mx) (wd := wd) (ms := 2 ^ j - 1) (t9.length + 1) t9
          rw [hLq] at hi
          simp only at hi
          rw [hi]
          exact fun x hx => hbt x (List.mem_of_mem_drop hx)
        have hw9 : wrt mn mx wd (2 ^ j - 1) b.length p b = (L, q) := by
          rw [← hLq, wrt_fuel b.length (p.length + b.length) p b (Nat.le_refl _) (by omega), wrt_wc (p.length + b.length) p b (by omega) (fun j h1 h2 => by rw [hit_append h2]; exact HH.out j h1 h2), ← ht9.out, ← Hlt9.out]
        rw [hLq] at hrw hqr hcn
        simp only at hqr hcn
        have hcn : L.length + q.length ≤ p.length + 30 := by have := Hlt9.out; omega
        have Hrw := Lib.hid hrw
        have Hqr := Lib.hid hqr
        have Hqb := Lib.hid hqb
        have Hw9 := Lib.hid hw9
        clear hrw hbt hqr hqb hw9 hLq
        refine one_ (i := 5) (N := some 60) #[true, true, true, true, true, true, false, false, false, false, false] rfl rfl (by kernel_rfl) (by decide) (fun K hK => ?_)
        refine goes_ Try.func33 (by kernel_rfl) rfl #[.agg #[.int .i64 mn, .int .i64 mx, .int .i64 wd, .int .u64 (2 ^ j - 1)], .slice A9 t9.length c9] (by rfl) rfl rfl (by (try simp only [List.map_toArray, List.map_cons, List.map_nil]); first | done | rfl) ?_
        refine (stockyardref24_Write.calls 1000 mn mx wd (2 ^ j - 1) A9 c9 t9 L q w9 HC9.out hc9 Hrw.out).mono ?_
        rintro e w10 ⟨y10, q10, rfl, hS10, hR10, hB10⟩
        have hz10 := hB10.size
        have hP10 := HP9.out.below hB10
        have HP10 := Lib.hid hP10
        have HC10 := Lib.hid (Kd.C_below HC79.out hB10)
        have HBt10 : Hid (∀ ad, A7 = some ad → w6.heap.size ≤ ad.block ∧ Bt w10 ad.block) := Lib.hid (fun ad e => ⟨(HBt9.out ad e).1, (HBt9.out ad e).2.kept (kept_below hB10) (fun h => h)⟩)
        have HB10 := Lib.hid (stepB HB9.out hB10)
        have HI10 := Lib.hid (HI9.out.below hB10)
        have HS10 := Lib.hid hS10
        refine ⟨_, rfl, hK.out _ _ hP10.box (fun hHeld => ?_)⟩
        obtain ⟨Aq, cq, rfl, hcq, hCq⟩ := Kd.R_reads hR10
        have hAq := R_blk hR10
        have HCq := Lib.hid hCq
        have HAq := Lib.hid hAq
        clear hK K hP10 hB10 hS10 hR10 hCq hAq
        refine norm_ (a' := ?_) ?_ ?_
        rotate_left
        · show Act.put _ (some 60) _ = _
          simp only [Act.put, List.setIfInBounds_toArray, List.set_cons_zero, List.set_cons_succ, i64_w, i32_w]
          rfl
        refine pure_ (i := 6) (N := some 54) (v := ?_) (a' := ?_) #[true, true, true, true, true, true, true, false, false, false, false] rfl rfl (by kernel_rfl) (fun _ _ _ h => h) (Or.inl ⟨by rfl, ?_⟩) ?_ ?_
        rotate_left
        · intro w'
          go_simp
          try with_reducible rfl
        rotate_left
        · simp only [Act.put, List.setIfInBounds_toArray, List.set_cons_zero, List.set_cons_succ, i64_w, i32_w]
          rfl
        refine pure_ (i := 7) (N := some 61) (v := ?_) (a' := ?_) #[true, true, true, true, true, true, true, true, false, false, false] rfl rfl (by kernel_rfl) (fun _ _ _ h => h) (Or.inl ⟨by rfl, ?_⟩) ?_ ?_
        rotate_left
        · intro w'
          go_simp
          try with_reducible rfl
        rotate_left
        · simp only [Act.put, List.setIfInBounds_toArray, List.set_cons_zero, List.set_cons_succ, i64_w, i32_w]
          rfl
        refine pure_ (i := 8) (N := some 62) (v := ?_) (a' := ?_) #[true, true, true, true, true, true, true, true, true, false, false] rfl rfl (by kernel_rfl) (fun _ _ _ h => h) (Or.inl ⟨by rfl, ?_⟩) ?_ ?_
        rotate_left
        · intro w'
          go_simp
          try with_reducible rfl
        rotate_left
        · simp only [Act.put, List.setIfInBounds_toArray, List.set_cons_zero, List.set_cons_succ, i64_w, i32_w]
          rfl
        refine pure_ (i := 9) (N := some 10) (v := ?_) (a' := ?_) #[true, true, true, true, true, true, true, true, true, true, false] rfl rfl (by kernel_rfl) (fun _ _ _ h => h) (Or.inl ⟨by rfl, ?_⟩) ?_ ?_
        rotate_left
        · intro w'
          go_simp
          try with_reducible rfl
        rotate_left
        · simp only [Act.put, List.setIfInBounds_toArray, List.set_cons_zero, List.set_cons_succ, i64_w, i32_w]
          rfl
        refine pure_ (i := 10) (N := some 7) (v := ?_) (a' := ?_) #[true, true, true, true, true, true, true, true, true, true, true] rfl rfl (by kernel_rfl) (fun _ _ _ h => h) (Or.inl ⟨by rfl, ?_⟩) ?_ ?_
        rotate_left
        · intro w'
          go_simp
          try with_reducible rfl
        rotate_left
        · simp only [Act.put, List.setIfInBounds_toArray, List.set_cons_zero, List.set_cons_succ, i64_w, i32_w]
          rfl
        refine done_ (by kernel_rfl) ?_
        clear hHeld
        go_wp2_with fail
        have HPB : Hid (PB w w10 w1.heap.size s f g mn mx wd (2 ^ j - 1) Aq q (.slice none 0 0) [] [] p v) := Lib.hid ⟨⟨HCq.out, fun ad e => (HAq.out ad e).2.2, HP10.out.chs, HP10.out.sv, HP10.out.box⟩, own_nil _ _ _ _⟩
        refine (write_c w10 (HP10.out.sv.st hs0.1 hs0.2.1 hs0.2.2) HO.out HC10.out hc7 Hbb.out (by omega) (by omega) ?_ ?_).mono ?_
        · intro ad e
          obtain ⟨cs, hcs⟩ := (HBt10.out ad e).2
          exact ⟨blk_lt hcs, HP10.out.sv.other hcs (by decide)⟩
        · intro v' hv' ad e h
          rw [SC_inj (hv'.symm.trans HP10.out.sv.blk)] at h
          have := hvl.out _ h
          have := (HBt10.out ad e).1
          omega
        rintro e w11 hpost
        obtain ⟨y11, v11, V11, L11, q11, hw11, rfl, ho11, _, hQ11, hk11⟩ := HPB.out.write (fun ad e h => by have := hvl.out _ h.symm; have := (HAq.out ad e).1; omega) hpost
        have hpair := Hw9.out.symm.trans hw11.out
        simp only [Prod.mk.injEq] at hpair
        obtain ⟨rfl, rfl⟩ := hpair
        rw [List.nil_append, List.nil_append] at hQ11
        have hI11 := HP10.out.sv.farT HI10.out hk11 (fun k hs => hs)
        have hB11 : Below w.heap.size w w11 := KB.to_below HB10.out (by omega) hk11 (fun i hi => by
          rcases hi with e | e | e | e
          · omega
          · omega
          · omega
          · exact own_base HP10.out.sv.own i e.symm)
        have hlts : s < w9.heap.size ∧ f < w9.heap.size ∧ g < w9.heap.size := ⟨blk_lt HP9.out.sv.blk, HP9.out.sv.fi.lt, HP9.out.sv.fi.2.1.lt⟩
        have hS11 := Kd.S_kept (Kd.S_mono (ok' := fun k => w9.heap.size ≤ k) (Kd.S_bound HS10.out) (fun k hk => hk.2.1)) hk11.kept (fun k hk hs => by
          rcases hs with e | e | e | e
          · omega
          · omega
          · omega
          · have := hvl.out _ e.symm; omega)
        obtain ⟨Ay, cy, rfl, hcy, hCy⟩ := Kd.S_reads hS11
        obtain ⟨Ax, cx, rfl, hcx, hCx⟩ := Chs.to_C ho11 hQ11.chs (by omega)
        have HPf : Hid (PQ w w11 w1.heap.size s f g mn mx wd (2 ^ j - 1) Aq q [] [] q v11) := Lib.hid ⟨hQ11.c, hQ11.bt, trivial, hQ11.sv, hQ11.box⟩
        have HI11 := Lib.hid hI11
        have HB11 := Lib.hid hB11
        have HCy := Lib.hid hCy
        have HCx := Lib.hid hCx
        have Hsv := Lib.hid (hQ11.sv.st hs0.1 hs0.2.1 hs0.2.2)
        clear hpost ho11 hQ11 hk11 hI11 hB11 hS11 hCy hCx hw11 hlts
        go_wp2_with fail
        refine (stockyardmake_SameTexts.calls (L.length + 1) Ax cx L Ay cy L true w11 HCx.out hcx HCy.out hcy (texts_is (by omega) (Nat.lt_succ_self _))).mono ?_
        rintro e w12 ⟨rfl, hd12⟩
        have HPg := Lib.hid (HPf.out.below hd12.below)
        have HI12 := Lib.hid (HI11.out.below hd12.below)
        have HB12 := Lib.hid (stepB HB11.out hd12.below)
        clear hd12
        go_wp2_with fail
        refine (pending_c w12 (HPg.out.sv.st hs0.1 hs0.2.1 hs0.2.2)).mono ?_
        rintro e w13 ⟨rfl, rfl⟩
        go_wp2_with fail
        go_roundw
        case rel => exact ⟨kk - 1, a', Aq, cq, q, _, by omega, by go_num, rfl, hcq, by omega, Hqb, HPg, Hqr, HI12, by omega, by omega, HB12⟩
        case measure => simp [intOf]; omega
    · obtain rfl : kk = 0 := by omega
      go_wp2_with fail
      go_ret
      exact ⟨rfl, HB.out⟩
end Go.Proofs.Ytgfodmpdnhebjaa.Walk
