-- What this claim does not use is left out (shake.py).
import Derived.Test.YtleapbbdpediiaaRg
import Derived.Test.YtleapbbdpediiaaPx0
import Derived.Test.YtleapbbdpediiaaPxf63
import Derived.Test.YtleapbbdpediiaaPxf55
/- The reference's find and Range. -/
namespace Go.Proofs.Ytleapbbdpediiaa.Rg
open Go.RowKit Go.Proofs.Ytleapbbdpediiaa.P Go.Proofs.Ytleapbbdpediiaa.Fp Go.Proofs.Ytleapbbdpediiaa.FM Go.Proofs.Ytleapbbdpediiaa.Mp Go.Proofs.Ytleapbbdpediiaa.Mf Go.Proofs.YtleapbbdpediiaaW.PrintWords Go.Proofs.YtleapbbdpediiaaW.PrintLast Go.Proofs.YtleapbbdpediiaaW.PrintMore
set_option linter.unusedVariables false
set_option linter.unusedSimpArgs false
attribute [local go_sem high] eqA51
theorem Of_is {l : List Int} (hl : IsBytes l) (hn : l.length ≤ 140737488351232) {k : Nat} (hk : l.length < k) : stockyardref22_Of.f k l = some (fp l, (l.length : Int)) := by
  unfold stockyardref22_Of.f
  rw [Sum_is hl hn hk, Option.bind_some]
theorem Of_c {A : Option Addr} {c : Nat} {l : List Int} (w : World) (hr : Kd.C (Kd.int .u8) w A l.length l) (hc : l.length ≤ c) (hl : IsBytes l) (hn : l.length ≤ 140737488351232) :
    Calls Try.prog 55 #[.slice A l.length c] w fun e w' => e = .returned (.agg #[.int .u64 (fp l), .int .i64 (l.length : Int)]) ∧ Below w.heap.size w w' :=
  stockyardref22_Of.calls _ A c l _ _ w hr hc (Of_is hl hn (Nat.lt_succ_self _))
theorem fnd_cons (c : S53) (r : List S53) (y : Int × Int) : fnd (c :: r) y = if pr c.f0 = y then some 0 else (fnd r y).map (· + 1) := rfl
theorem drop53 {l : List S53} {j : Nat} (h : j < l.length) : l.drop j = rd_T53 l (j : Int) :: l.drop (j + 1) := by
  rw [List.drop_eq_getElem_cons h]
  simp [rd_T53, List.getD_eq_getElem?_getD, h]
/-- What find returns of the first chunk with an ID. -/
def FindPost (w0 : World) (l : List S53) (y : Int × Int) (e : Ending) (w' : World) : Prop :=
  Below w0.heap.size w0 w' ∧ ((fnd l y = none ∧ e = .returned (.tuple #[.slice none 0 0, .int .i64 254])) ∨ ∃ i, fnd l y = some i ∧
    ((ofP (rd_T53 l (i : Int)).f1 ≠ y ∧ e = .returned (.tuple #[.slice none 0 0, .int .i64 255])) ∨ (ofP (rd_T53 l (i : Int)).f1 = y ∧ ∃ A c, e = .returned (.tuple #[.slice A (rd_T53 l (i : Int)).f1.length c, .int .i64 0]) ∧ (rd_T53 l (i : Int)).f1.length ≤ c ∧ Kd.C (Kd.int .u8) w0 A (rd_T53 l (i : Int)).f1.length (rd_T53 l (i : Int)).f1)))
set_option maxRecDepth 100000 in
set_option maxHeartbeats 4000000 in
theorem find_c {l : List S53} {A : Option Addr} {c : Nat} {x0 x1 : Int} (w0 : World) (hr : Kd.C k53 w0 A l.length l) (hc : l.length ≤ c) (hG : Good [] l) :
    Calls Try.prog 57 #[.slice A l.length c, .agg #[.int .u64 x0, .int .i64 x1]] w0 (FindPost w0 l (x0, x1)) := by
  have HG := Lib.hid hG
  have hl1 := hG.2.2.1
  clear hG
  go_enter Try.func57, Try.ntmps57
  go_wp2_with fail
  have HI0 : Hid (Below w0.heap.size w0 (w0.alloc (.cells #[.int .u64 x0, .int .i64 x1] 51 (0, 0)))) := Lib.hid ((Below.refl _ _).alloc (Nat.le_refl _) _)
  have hb0 := Lib.hid (heap_alloc_new w0 (.cells #[.int .u64 x0, .int .i64 x1] 51 (0, 0)))
  generalize w0.alloc (.cells #[.int .u64 x0, .int .i64 x1] 51 (0, 0)) = W0 at HI0 hb0 ⊢
  go_loopw [6] (fun x wr => ∃ j : Nat, j ≤ l.length ∧ x = .int .i64 j ∧ Hid (Below w0.heap.size w0 wr) ∧ Hid (wr.heap[w0.heap.size]? = some (.cells #[.int .u64 x0, .int .i64 x1] 51 (0, 0))) ∧ Hid (fnd l (x0, x1) = (fnd (l.drop j) (x0, x1)).map (· + j))) (fun x _ => l.length - (intOf x).toNat)
  case atStart => exact ⟨0, Nat.zero_le _, rfl, HI0, hb0, Lib.hid (by rw [List.drop_zero]; cases fnd l (x0, x1) <;> rfl)⟩
  case round =>
    obtain ⟨j, hj, rfl, HB, Hb, HF⟩ := hrel
    clear HI0 hb0
    have hbl := blk_lt Hb.out
    by_cases hlt : j < l.length
    · obtain ⟨ad, Aj, cj, rfl, m0, m1, m2, hcj, hCj⟩ := at_T53 hr (j : Int) (by omega) (by omega)
      simp only [Int.toNat_natCast] at m0 m1 m2
      have hg : IsBytes (rd_T53 l (j : Int)).f1 ∧ (rd_T53 l (j : Int)).f1.length ≤ 140737488351232 := (HG.out.2.1 _ (by simp [rd_T53, List.getD_eq_getElem?_getD, hlt])).2
      have hF := HF.out
      rw [drop53 hlt, fnd_cons] at hF
      have hrd : ∀ i : Nat, i = j → rd_T53 l (i : Int) = rd_T53 l (j : Int) := fun i e => by rw [e]
      have Hrd := Lib.hid hrd
      clear hrd
      generalize hx : rd_T53 l (j : Int) = x at *
      obtain ⟨⟨y0, y1⟩, bs⟩ := x
      simp only at m0 m1 m2 hcj hCj hg
      have hF : fnd l (x0, x1) = Option.map (fun x => x + j) (if (y0, y1) = (x0, x1) then some 0 else Option.map (fun x => x + 1) (fnd (List.drop (j + 1) l) (x0, x1))) := hF
      have hml := World.block_lt_of_cell? _ _ m2
      have Hm : Hid (∀ w', Below w0.heap.size w0 w' → w'.cell? (ad.add (j * 3)) = some (.int .u64 y0) ∧ w'.cell? ⟨(ad.add (j * 3)).block, (ad.add (j * 3)).off + 1, none⟩ = some (.int .i64 y1) ∧ w'.cell? ⟨(ad.add (j * 3)).block, (ad.add (j * 3)).off + 2, none⟩ = some (.slice Aj bs.length cj)) :=
        Lib.hid (fun w' h => ⟨(h.cell (p := ad.add (j * 3)) hml).trans m0, (h.cell (p := ⟨(ad.add (j * 3)).block, (ad.add (j * 3)).off + 1, none⟩) hml).trans m1, (h.cell (p := ⟨(ad.add (j * 3)).block, (ad.add (j * 3)).off + 2, none⟩) hml).trans m2⟩)
      have hB0 : ∀ w', Below wr.heap.size wr w' → Below w0.heap.size w0 w' := fun w' h => stepB HB.out h
      have HB0 := Lib.hid hB0
      have HCj := Lib.hid hCj
      have Hq : Hid (∀ w', Below wr.heap.size wr w' → w'.cell? ⟨w0.heap.size, 0, none⟩ = some (.int .u64 x0) ∧ w'.cell? ⟨w0.heap.size, 1, none⟩ = some (.int .i64 x1)) := Lib.hid (fun w' h => ⟨(h.cell (p := ⟨w0.heap.size, 0, none⟩) hbl).trans (blk_cell Hb.out 0), (h.cell (p := ⟨w0.heap.size, 1, none⟩) hbl).trans (blk_cell Hb.out 1)⟩)
      have hj2 : (j : Int) < (l.length : Int) := by omega
      have hj0 : (0 : Int) ≤ (j : Int) := by omega
      have hgb := Lib.hid hg.1
      have hgl := hg.2
      clear m0 m1 m2 hB0 hCj hg HF
      by_cases hy : (y0, y1) = (x0, x1)
      · rw [if_pos hy] at hF
        have hq : (y0 == x0 && y1 == x1) = true := by
          simp only [Prod.mk.injEq] at hy
          simp [hy.1, hy.2]
        have Hqq := Lib.hid hq
        have hF' : fnd l (x0, x1) = some j := by rw [hF]; simp
        have HF' := Lib.hid hF'
        clear hq hF hF'
        go_wp2_with fail
        refine start_ (n := 7) (S := fun w' => Below wr.heap.size wr w') (ds := []) #[false, false, false, false, false, false, false] (by kernel_rfl) rfl rfl (below_drew (Below.refl _ _)) (fun hHeld => ?_)
        refine pure_ (i := 0) (N := some 13) (v := ?_) (a' := ?_) #[true, false, false, false, false, false, false] rfl rfl (by kernel_rfl) (fun _ _ _ h => h) (Or.inl ⟨by rfl, ?_⟩) ?_ ?_
        rotate_left
        · intro w'
          go_simp
          try with_reducible rfl
        rotate_left
        · simp only [Act.put, List.setIfInBounds_toArray, List.set_cons_zero, List.set_cons_succ, i64_w, i32_w]
          rfl
        refine pure_ (i := 1) (N := some 14) (v := ?_) (a' := ?_) #[true, true, false, false, false, false, false] rfl rfl (by kernel_rfl) (fun _ _ _ h => h) (Or.inl ⟨by rfl, ?_⟩) ?_ ?_
        rotate_left
        · intro w'
          go_simp
          try with_reducible rfl
        rotate_left
        · simp only [Act.put, List.setIfInBounds_toArray, List.set_cons_zero, List.set_cons_succ, i64_w, i32_w]
          rfl
        refine pure_ (i := 2) (N := some 15) (v := ?_) (a' := ?_) #[true, true, true, false, false, false, false] rfl rfl (by kernel_rfl) (fun _ _ _ h => h) (Or.inl ⟨by rfl, ?_⟩) ?_ ?_
        rotate_left
        · intro w'
          go_simp
          try with_reducible rfl
        rotate_left
        · simp only [Act.put, List.setIfInBounds_toArray, List.set_cons_zero, List.set_cons_succ, i64_w, i32_w]
          rfl
        refine pure_ (i := 3) (N := some 16) (v := ?_) (a' := ?_) #[true, true, true, true, false, false, false] rfl rfl (by kernel_rfl) (fun _ _ _ h => h) (Or.inl ⟨by rfl, ?_⟩) ?_ ?_
        rotate_left
        · intro w'
          go_simp
          try with_reducible rfl
        rotate_left
        · simp only [Act.put, List.setIfInBounds_toArray, List.set_cons_zero, List.set_cons_succ, i64_w, i32_w]
          rfl
        refine take_ (i := 4) (N := some 17) (v := ?_) (a' := ?_) #[true, true, true, true, true, false, false] rfl rfl (by kernel_rfl) (fun _ _ _ h => h) (Or.inl ⟨by rfl, ?_⟩) hHeld ?_ ?_
        rotate_left
        · rintro w' hb
          have e0 := (Hm.out _ (HB0.out _ hb)).1
          have e1 := (Hm.out _ (HB0.out _ hb)).2.1
          go_simp
          try with_reducible rfl
        rotate_left
        · simp only [Act.put, List.setIfInBounds_toArray, List.set_cons_zero, List.set_cons_succ, i64_w, i32_w]
          rfl
        refine take_ (i := 5) (N := some 18) (v := ?_) (a' := ?_) #[true, true, true, true, true, true, false] rfl rfl (by kernel_rfl) (fun _ _ _ h => h) (Or.inl ⟨by rfl, ?_⟩) hHeld ?_ ?_
        rotate_left
        · rintro w' hb
          have e0 := (Hq.out _ hb).1
          have e1 := (Hq.out _ hb).2
          go_simp
          try with_reducible rfl
        rotate_left
        · simp only [Act.put, List.setIfInBounds_toArray, List.set_cons_zero, List.set_cons_succ, i64_w, i32_w]
          rfl
        have hqq := Hqq.out
        refine pure_ (i := 6) (N := some 19) (v := ?_) (a' := ?_) #[true, true, true, true, true, true, true] rfl rfl (by kernel_rfl) (fun _ _ _ h => h) (Or.inl ⟨by rfl, ?_⟩) ?_ ?_
        rotate_left
        · intro w'
          go_simp
          try with_reducible rfl
        rotate_left
        · simp only [Act.put, List.setIfInBounds_toArray, List.set_cons_zero, List.set_cons_succ, i64_w, i32_w]
          rfl
        clear hqq
        refine done_ (by kernel_rfl) ?_
        clear hHeld
        have hB6 : Below wr.heap.size wr wr.drew := below_drew (Below.refl _ _)
        generalize wr.drew = w6 at hB6 ⊢
        have Hofc : Hid (∀ w', Below wr.heap.size wr w' → Calls Try.prog 55 #[.slice Aj bs.length cj] w' fun e w'' => e = .returned (.agg #[.int .u64 (fp bs), .int .i64 (bs.length : Int)]) ∧ Below w'.heap.size w' w'') := Lib.hid (fun w' h => Of_c w' (Kd.C_below HCj.out (HB0.out w' h)) hcj hgb.out hgl)
        by_cases hof : ofP bs = (x0, x1)
        · have hq : (fp bs == x0 && (bs.length : Int) == x1) = true := by
            have h := hof
            simp only [ofP, Prod.mk.injEq] at h
            simp [h.1, h.2]
          have Hqq := Lib.hid hq
          clear hq
          go_wp2_with fail
          refine start_ (n := 8) (S := fun w' => Below wr.heap.size wr w') (ds := []) #[false, false, false, false, false, false, false, false] (by kernel_rfl) rfl rfl (below_drew hB6) (fun hHeld => ?_)
          refine pure_ (i := 0) (N := some 20) (v := ?_) (a' := ?_) #[true, false, false, false, false, false, false, false] rfl rfl (by kernel_rfl) (fun _ _ _ h => h) (Or.inl ⟨by rfl, ?_⟩) ?_ ?_
          rotate_left
          · intro w'
            go_simp
            try with_reducible rfl
          rotate_left
          · simp only [Act.put, List.setIfInBounds_toArray, List.set_cons_zero, List.set_cons_succ, i64_w, i32_w]
            rfl
          refine pure_ (i := 1) (N := some 21) (v := ?_) (a' := ?_) #[true, true, false, false, false, false, false, false] rfl rfl (by kernel_rfl) (fun _ _ _ h => h) (Or.inl ⟨by rfl, ?_⟩) ?_ ?_
          rotate_left
          · intro w'
            go_simp
            try with_reducible rfl
          rotate_left
          · simp only [Act.put, List.setIfInBounds_toArray, List.set_cons_zero, List.set_cons_succ, i64_w, i32_w]
            rfl
          refine pure_ (i := 2) (N := some 22) (v := ?_) (a' := ?_) #[true, true, true, false, false, false, false, false] rfl rfl (by kernel_rfl) (fun _ _ _ h => h) (Or.inl ⟨by rfl, ?_⟩) ?_ ?_
          rotate_left
          · intro w'
            go_simp
            try with_reducible rfl
          rotate_left
          · simp only [Act.put, List.setIfInBounds_toArray, List.set_cons_zero, List.set_cons_succ, i64_w, i32_w]
            rfl
          refine pure_ (i := 3) (N := some 23) (v := ?_) (a' := ?_) #[true, true, true, true, false, false, false, false] rfl rfl (by kernel_rfl) (fun _ _ _ h => h) (Or.inl ⟨by rfl, ?_⟩) ?_ ?_
          rotate_left
          · intro w'
            go_simp
            try with_reducible rfl
          rotate_left
          · simp only [Act.put, List.setIfInBounds_toArray, List.set_cons_zero, List.set_cons_succ, i64_w, i32_w]
            rfl
          refine take_ (i := 4) (N := some 24) (v := ?_) (a' := ?_) #[true, true, true, true, true, false, false, false] rfl rfl (by kernel_rfl) (fun _ _ _ h => h) (Or.inl ⟨by rfl, ?_⟩) hHeld ?_ ?_
          rotate_left
          · rintro w' hb
            have e2 := (Hm.out _ (HB0.out _ hb)).2.2
            go_simp
            try with_reducible rfl
          rotate_left
          · simp only [Act.put, List.setIfInBounds_toArray, List.set_cons_zero, List.set_cons_succ, i64_w, i32_w]
            rfl
          refine take_ (i := 6) (N := some 26) (v := ?_) (a' := ?_) #[true, true, true, true, true, false, true, false] rfl rfl (by kernel_rfl) (fun _ _ _ h => h) (Or.inl ⟨by rfl, ?_⟩) hHeld ?_ ?_
          rotate_left
          · rintro w' hb
            have e0 := (Hq.out _ hb).1
            have e1 := (Hq.out _ hb).2
            go_simp
            try with_reducible rfl
          rotate_left
          · simp only [Act.put, List.setIfInBounds_toArray, List.set_cons_zero, List.set_cons_succ, i64_w, i32_w]
            rfl
          refine one_ (i := 5) (N := some 25) #[true, true, true, true, true, true, true, false] rfl rfl (by kernel_rfl) (by decide) (fun K hK => ?_)
          refine goes_ Try.func55 (by kernel_rfl) rfl #[.slice Aj bs.length cj] (by rfl) rfl rfl (by (try simp only [List.map_toArray, List.map_cons, List.map_nil]); first | done | rfl) ?_
          refine (Hofc.out _ (below_drew hB6)).mono ?_
          rintro e w7 ⟨rfl, hb7⟩
          have hB7 : Below wr.heap.size wr w7 := stepB (below_drew hB6) hb7
          refine ⟨_, rfl, hK.out _ _ hB7 (fun hHeld => ?_)⟩
          clear hK K hb7
          refine norm_ (a' := ?_) ?_ ?_
          rotate_left
          · show Act.put _ (some 25) _ = _
            simp only [Act.put, List.setIfInBounds_toArray, List.set_cons_zero, List.set_cons_succ, i64_w, i32_w]
            rfl
          have hqq := Hqq.out
          refine pure_ (i := 7) (N := some 27) (v := ?_) (a' := ?_) #[true, true, true, true, true, true, true, true] rfl rfl (by kernel_rfl) (fun _ _ _ h => h) (Or.inl ⟨by rfl, ?_⟩) ?_ ?_
          rotate_left
          · intro w'
            go_simp
            try with_reducible rfl
          rotate_left
          · simp only [Act.put, List.setIfInBounds_toArray, List.set_cons_zero, List.set_cons_succ, i64_w, i32_w]
            rfl
          clear hqq
          refine done_ (by kernel_rfl) ?_
          clear hHeld hB6
          have hB6 := hB7
          clear hB7
          have e2 := (Hm.out _ (HB0.out _ hB6)).2.2
          have HB6 := Lib.hid hB6
          clear hB6
          go_wp2_with fail
          go_ret2
          refine ⟨HB0.out _ HB6.out, .inr ⟨j, HF'.out, .inr ?_⟩⟩
          rw [hx]
          exact ⟨hof, Aj, cj, rfl, hcj, HCj.out⟩
        · have hq : (fp bs == x0 && (bs.length : Int) == x1) = false := by
            have h := hof
            simp only [ofP, Prod.mk.injEq] at h
            simpa using h
          have Hqq := Lib.hid hq
          clear hq
          go_wp2_with fail
          refine start_ (n := 8) (S := fun w' => Below wr.heap.size wr w') (ds := []) #[false, false, false, false, false, false, false, false] (by kernel_rfl) rfl rfl (below_drew hB6) (fun hHeld => ?_)
          refine pure_ (i := 0) (N := some 20) (v := ?_) (a' := ?_) #[true, false, false, false, false, false, false, false] rfl rfl (by kernel_rfl) (fun _ _ _ h => h) (Or.inl ⟨by rfl, ?_⟩) ?_ ?_
          rotate_left
          · intro w'
            go_simp
            try with_reducible rfl
          rotate_left
          · simp only [Act.put, List.setIfInBounds_toArray, List.set_cons_zero, List.set_cons_succ, i64_w, i32_w]
            rfl
          refine pure_ (i := 1) (N := some 21) (v := ?_) (a' := ?_) #[true, true, false, false, false, false, false, false] rfl rfl (by kernel_rfl) (fun _ _ _ h => h) (Or.inl ⟨by rfl, ?_⟩) ?_ ?_
          rotate_left
          · intro w'
            go_simp
            try with_reducible rfl
          rotate_left
          · simp only [Act.put, List.setIfInBounds_toArray, List.set_cons_zero, List.set_cons_succ, i64_w, i32_w]
            rfl
          refine pure_ (i := 2) (N := some 22) (v := ?_) (a' := ?_) #[true, true, true, false, false, false, false, false] rfl rfl (by kernel_rfl) (fun _ _ _ h => h) (Or.inl ⟨by rfl, ?_⟩) ?_ ?_
          rotate_left
          · intro w'
            go_simp
            try with_reducible rfl
          rotate_left
          · simp only [Act.put, List.setIfInBounds_toArray, List.set_cons_zero, List.set_cons_succ, i64_w, i32_w]
            rfl
          refine pure_ (i := 3) (N := some 23) (v := ?_) (a' := ?_) #[true, true, true, true, false, false, false, false] rfl rfl (by kernel_rfl) (fun _ _ _ h => h) (Or.inl ⟨by rfl, ?_⟩) ?_ ?_
          rotate_left
          · intro w'
            go_simp
            try with_reducible rfl
          rotate_left
          · simp only [Act.put, List.setIfInBounds_toArray, List.set_cons_zero, List.set_cons_succ, i64_w, i32_w]
            rfl
          refine take_ (i := 4) (N := some 24) (v := ?_) (a' := ?_) #[true, true, true, true, true, false, false, false] rfl rfl (by kernel_rfl) (fun _ _ _ h => h) (Or.inl ⟨by rfl, ?_⟩) hHeld ?_ ?_
          rotate_left
          · rintro w' hb
            have e2 := (Hm.out _ (HB0.out _ hb)).2.2
            go_simp
            try with_reducible rfl
          rotate_left
          · simp only [Act.put, List.setIfInBounds_toArray, List.set_cons_zero, List.set_cons_succ, i64_w, i32_w]
            rfl
          refine take_ (i := 6) (N := some 26) (v := ?_) (a' := ?_) #[true, true, true, true, true, false, true, false] rfl rfl (by kernel_rfl) (fun _ _ _ h => h) (Or.inl ⟨by rfl, ?_⟩) hHeld ?_ ?_
          rotate_left
          · rintro w' hb
            have e0 := (Hq.out _ hb).1
            have e1 := (Hq.out _ hb).2
            go_simp
            try with_reducible rfl
          rotate_left
          · simp only [Act.put, List.setIfInBounds_toArray, List.set_cons_zero, List.set_cons_succ, i64_w, i32_w]
            rfl
          refine one_ (i := 5) (N := some 25) #[true, true, true, true, true, true, true, false] rfl rfl (by kernel_rfl) (by decide) (fun K hK => ?_)
          refine goes_ Try.func55 (by kernel_rfl) rfl #[.slice Aj bs.length cj] (by rfl) rfl rfl (by (try simp only [List.map_toArray, List.map_cons, List.map_nil]); first | done | rfl) ?_
          refine (Hofc.out _ (below_drew hB6)).mono ?_
          rintro e w7 ⟨rfl, hb7⟩
          have hB7 : Below wr.heap.size wr w7 := stepB (below_drew hB6) hb7
          refine ⟨_, rfl, hK.out _ _ hB7 (fun hHeld => ?_)⟩
          clear hK K hb7
          refine norm_ (a' := ?_) ?_ ?_
          rotate_left
          · show Act.put _ (some 25) _ = _
            simp only [Act.put, List.setIfInBounds_toArray, List.set_cons_zero, List.set_cons_succ, i64_w, i32_w]
            rfl
          have hqq := Hqq.out
          refine pure_ (i := 7) (N := some 27) (v := ?_) (a' := ?_) #[true, true, true, true, true, true, true, true] rfl rfl (by kernel_rfl) (fun _ _ _ h => h) (Or.inl ⟨by rfl, ?_⟩) ?_ ?_
          rotate_left
          · intro w'
            go_simp
            try with_reducible rfl
          rotate_left
          · simp only [Act.put, List.setIfInBounds_toArray, List.set_cons_zero, List.set_cons_succ, i64_w, i32_w]
            rfl
          clear hqq
          refine done_ (by kernel_rfl) ?_
          clear hHeld hB6
          have hB6 := hB7
          clear hB7
          have HB6 := Lib.hid hB6
          clear hB6
          go_wp2_with fail
          go_ret2
          refine ⟨HB0.out _ HB6.out, .inr ⟨j, HF'.out, .inl ?_⟩⟩
          rw [hx]
          exact ⟨hof, rfl⟩
      · rw [if_neg hy] at hF
        have hq : (y0 == x0 && y1 == x1) = false := by
          simp only [Prod.mk.injEq] at hy
          simpa using hy
        have Hqq := Lib.hid hq
        have HF' : Hid (fnd l (x0, x1) = (fnd (l.drop (j + 1)) (x0, x1)).map (· + (j + 1))) := Lib.hid (by rw [hF]; cases fnd (l.drop (j + 1)) (x0, x1) <;> simp; omega)
        clear hq hF
        go_wp2_with fail
        refine start_ (n := 7) (S := fun w' => Below wr.heap.size wr w') (ds := []) #[false, false, false, false, false, false, false] (by kernel_rfl) rfl rfl (below_drew (Below.refl _ _)) (fun hHeld => ?_)
        refine pure_ (i := 0) (N := some 13) (v := ?_) (a' := ?_) #[true, false, false, false, false, false, false] rfl rfl (by kernel_rfl) (fun _ _ _ h => h) (Or.inl ⟨by rfl, ?_⟩) ?_ ?_
        rotate_left
        · intro w'
          go_simp
          try with_reducible rfl
        rotate_left
        · simp only [Act.put, List.setIfInBounds_toArray, List.set_cons_zero, List.set_cons_succ, i64_w, i32_w]
          rfl
        refine pure_ (i := 1) (N := some 14) (v := ?_) (a' := ?_) #[true, true, false, false, false, false, false] rfl rfl (by kernel_rfl) (fun _ _ _ h => h) (Or.inl ⟨by rfl, ?_⟩) ?_ ?_
        rotate_left
        · intro w'
          go_simp
          try with_reducible rfl
        rotate_left
        · simp only [Act.put, List.setIfInBounds_toArray, List.set_cons_zero, List.set_cons_succ, i64_w, i32_w]
          rfl
        refine pure_ (i := 2) (N := some 15) (v := ?_) (a' := ?_) #[true, true, true, false, false, false, false] rfl rfl (by kernel_rfl) (fun _ _ _ h => h) (Or.inl ⟨by rfl, ?_⟩) ?_ ?_
        rotate_left
        · intro w'
          go_simp
          try with_reducible rfl
        rotate_left
        · simp only [Act.put, List.setIfInBounds_toArray, List.set_cons_zero, List.set_cons_succ, i64_w, i32_w]
          rfl
        refine pure_ (i := 3) (N := some 16) (v := ?_) (a' := ?_) #[true, true, true, true, false, false, false] rfl rfl (by kernel_rfl) (fun _ _ _ h => h) (Or.inl ⟨by rfl, ?_⟩) ?_ ?_
        rotate_left
        · intro w'
          go_simp
          try with_reducible rfl
        rotate_left
        · simp only [Act.put, List.setIfInBounds_toArray, List.set_cons_zero, List.set_cons_succ, i64_w, i32_w]
          rfl
        refine take_ (i := 4) (N := some 17) (v := ?_) (a' := ?_) #[true, true, true, true, true, false, false] rfl rfl (by kernel_rfl) (fun _ _ _ h => h) (Or.inl ⟨by rfl, ?_⟩) hHeld ?_ ?_
        rotate_left
        · rintro w' hb
          have e0 := (Hm.out _ (HB0.out _ hb)).1
          have e1 := (Hm.out _ (HB0.out _ hb)).2.1
          go_simp
          try with_reducible rfl
        rotate_left
        · simp only [Act.put, List.setIfInBounds_toArray, List.set_cons_zero, List.set_cons_succ, i64_w, i32_w]
          rfl
        refine take_ (i := 5) (N := some 18) (v := ?_) (a' := ?_) #[true, true, true, true, true, true, false] rfl rfl (by kernel_rfl) (fun _ _ _ h => h) (Or.inl ⟨by rfl, ?_⟩) hHeld ?_ ?_
        rotate_left
        · rintro w' hb
          have e0 := (Hq.out _ hb).1
          have e1 := (Hq.out _ hb).2
          go_simp
          try with_reducible rfl
        rotate_left
        · simp only [Act.put, List.setIfInBounds_toArray, List.set_cons_zero, List.set_cons_succ, i64_w, i32_w]
          rfl
        have hqq := Hqq.out
        refine pure_ (i := 6) (N := some 19) (v := ?_) (a' := ?_) #[true, true, true, true, true, true, true] rfl rfl (by kernel_rfl) (fun _ _ _ h => h) (Or.inl ⟨by rfl, ?_⟩) ?_ ?_
        rotate_left
        · intro w'
          go_simp
          try with_reducible rfl
        rotate_left
        · simp only [Act.put, List.setIfInBounds_toArray, List.set_cons_zero, List.set_cons_succ, i64_w, i32_w]
          rfl
        clear hqq
        refine done_ (by kernel_rfl) ?_
        clear hHeld
        have hB6 : Below wr.heap.size wr wr.drew := below_drew (Below.refl _ _)
        generalize wr.drew = w6 at hB6 ⊢
        have HB6 := Lib.hid hB6
        clear hB6
        go_wp2_with fail
        go_roundw
        case rel => exact ⟨j + 1, by omega, by go_num, Lib.hid (HB0.out _ HB6.out), Lib.hid ((HB6.out.block _ hbl).trans Hb.out), HF'⟩
        case measure => simp [intOf]; omega
    · obtain rfl : j = l.length := by omega
      have hF := HF.out
      rw [List.drop_length] at hF
      have HF' := Lib.hid hF
      clear hF HF
      go_wp2_with fail
      go_ret2
      exact ⟨HB.out, .inl ⟨HF'.out, rfl⟩⟩
end Go.Proofs.Ytleapbbdpediiaa.Rg
