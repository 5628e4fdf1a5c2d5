-- What this claim does not use is left out (shake.py).
import Derived.Test.YtleapbbdpediiaaBk
import Derived.Test.YtleapbbdpediiaaMm
import Derived.Test.YtleapbbdpediiaaFj
import Derived.Maps.OwnIn
import Derived.Test.YtleapbbdpediiaaPxe51
import Derived.Test.YtleapbbdpediiaaPxf45
/- manifest.Range: the bytes between two bounds, out of the first chunks with the IDs. -/
namespace Go.Proofs.Ytleapbbdpediiaa.Rg
open Go.RowKit Go.Shelf Go.Proofs.Ytleapbbdpediiaa.P Go.Proofs.Ytleapbbdpediiaa.Fp Go.Proofs.Ytleapbbdpediiaa.FM Go.Proofs.Ytleapbbdpediiaa.Mp Go.Proofs.Ytleapbbdpediiaa.Mf Go.Proofs.Ytleapbbdpediiaa.Bk Go.Proofs.YtleapbbdpediiaaW.PrintWords Go.Proofs.YtleapbbdpediiaaW.PrintLast Go.Proofs.YtleapbbdpediiaaW.PrintMore
set_option linter.unusedVariables false
set_option linter.unusedSimpArgs false
attribute [local go_sem] Oper.semAt_some
attribute [local go_sem high] eqA51
/-- The first chunk with an ID. -/
def fnd : List S53 → Int × Int → Option Nat
  | [], _ => none
  | c :: r, y => if pr c.f0 = y then some 0 else (fnd r y).map (· + 1)
theorem fnd_some {y : Int × Int} : ∀ {l : List S53} {i : Nat}, fnd l y = some i → i < l.length ∧ pr (rd_T53 l (i : Int)).f0 = y
  | c :: r, i, h => by
    unfold fnd at h
    by_cases hc : pr c.f0 = y
    · rw [if_pos hc] at h
      cases h
      exact ⟨by simp, by simpa [rd_T53] using hc⟩
    · rw [if_neg hc] at h
      obtain ⟨j, hj, rfl⟩ := Option.map_eq_some_iff.1 h
      obtain ⟨h1, h2⟩ := fnd_some hj
      refine ⟨by simp; omega, ?_⟩
      simpa [rd_T53] using h2
def ofP (b : List Int) : Int × Int := (fp b, (b.length : Int))
/-- The pieces' bytes, one behind another. -/
def rg (l : List S53) (ch : List S51) : List S48 → List Int → Option (List Int × Int)
  | [], out => some (out, 0)
  | p :: ps, out =>
    if 0 ≤ p.f0 ∧ p.f0 < ch.length then
      match fnd l (pr (rd_T51 ch p.f0)) with
      | none => some ([], 254)
      | some i =>
        if ofP (rd_T53 l i).f1 = pr (rd_T51 ch p.f0) then
          if 0 ≤ p.f1 ∧ p.f1 ≤ p.f2 ∧ p.f2 ≤ ((rd_T53 l i).f1.length : Int) ∧ out.length + (rd_T53 l i).f1.length ≤ 140737488355328 then rg l ch ps (out ++ ((rd_T53 l i).f1.take p.f2.toNat).drop p.f1.toNat) else none
        else some ([], 255)
    else none
/-- What a Go program can hold. -/
def Good (ch : List S51) (l : List S53) : Prop := WfL ch ∧ (∀ c ∈ l, WfI (pr c.f0) ∧ IsBytes c.f1 ∧ c.f1.length ≤ 140737488351232) ∧ l.length ≤ 140737488351232 ∧ ch.length ≤ 140737488351232
instance (l : List Int) : Decidable (IsBytes l) := inferInstanceAs (Decidable (∀ x ∈ l, 0 ≤ x ∧ x ≤ 255))
instance (ch : List S51) (l : List S53) : Decidable (Good ch l) := inferInstanceAs (Decidable (_ ∧ _ ∧ _ ∧ _))
def rangeF (size : Int) (ch : List S51) (l : List S53) (a b : Int) : Option (List Int × Int) :=
  if Good ch l then (manifest_Slice.f (ch.length + 2) size ch a b).bind fun p => if p.2 = 0 then (if p.1.length ≤ 140737488351232 then rg l ch p.1 [] else none) else some ([], p.2) else none
/-- The map 'first' when some indices have been put in, one behind another. -/
def fmL (l : List S53) (pre : List Nat) : Int × Int → Option Value := pre.foldl (fun m (i : Nat) => put m (pr (rd_T53 l (i : Int)).f0) (.int .i64 ((i : Nat) : Int))) (fun _ => none)
theorem fmL_snoc (l : List S53) (pre : List Nat) (x : Nat) : fmL l (pre ++ [x]) = put (fmL l pre) (pr (rd_T53 l (x : Int)).f0) (.int .i64 (x : Int)) := by simp [fmL]
theorem fmL_downs (l : List S53) : ∀ k, k ≤ l.length → ∀ y, fmL l (downs l.length k) y = (fnd (l.drop (l.length - k)) y).map (fun i => Value.int .i64 ((i + (l.length - k) : Nat) : Int))
  | 0, _, y => by simp [downs, fmL, fnd]
  | k + 1, hk, y => by
    rw [downs_succ, fmL_snoc]
    have hd : l.drop (l.length - (k + 1)) = rd_T53 l ((l.length - 1 - k : Nat) : Int) :: l.drop (l.length - k) := by
      rw [show l.length - (k + 1) = l.length - 1 - k by omega, List.drop_eq_getElem_cons (by omega), show l.length - 1 - k + 1 = l.length - k by omega]
      congr 1
      simp [rd_T53, List.getD_eq_getElem?_getD, show l.length - 1 - k < l.length by omega]
    rw [hd]
    unfold put fnd
    by_cases h : y = pr (rd_T53 l ((l.length - 1 - k : Nat) : Int)).f0
    · rw [if_pos h, if_pos h.symm]
      simp only [Option.map_some, Option.some.injEq, Value.int.injEq, true_and]
      omega
    · rw [if_neg h, if_neg (fun e => h e.symm), fmL_downs l k (by omega) y]
      cases fnd (l.drop (l.length - k)) y with
      | none => rfl
      | some i =>
        simp only [Option.map_some, Option.some.injEq, Value.int.injEq, true_and]
        omega
theorem fmL_all (l : List S53) (y : Int × Int) : fmL l (downs l.length l.length) y = (fnd l y).map (fun (i : Nat) => Value.int .i64 (i : Int)) := by
  rw [fmL_downs l l.length (Nat.le_refl _) y]
  simp only [Nat.sub_self, List.drop_zero, Nat.add_zero]
section
variable {F : Fence} {nF : Nat} {w : World} {ops : Array Oper} {rest : List Oper} {o : Oper} {a : Act} {Q : Exit → Act → World → Prop} {b n : Nat} {m : Int × Int → Option Value}
theorem wplIn_update (hg : o.guard = none) (p q r : Operand) (t e : TypeId) (hop : o.op = Op.mapUpdate t p q r) (ht : Try.prog.underlying t = some (.map 51 e)) (hm : a.eval p = .map (some b)) (x : Int × Int) (hq : a.eval q = idV x) (hx : WfI x) (v : Value) (hv : a.eval r = v)
    (hn : n < maxLen) (h : Mp w b n m) (hK : ∀ w', Mp w' b (n + 1) (put m x v) → w.grownBy w' (some b) → wpListIn F nF Try.prog ops Q rest (a.put o.dst undef) w') : wpListIn F nF Try.prog ops Q (o :: rest) a w := by
  refine wpListIn_plain hg fun K' hK' => ?_
  obtain ⟨w', hrun, h1, h2⟩ := h.update hx ht hn v
  unfold Oper.wpIn
  refine ⟨by simp [Oper.about, hop], ?_⟩
  rw [Oper.semAt_plain F _ _ (by rw [hop]; intro c hc'; cases hc')]
  simp [execOp, hop, hm, hq, hv, hrun, Result.andThen]
  exact hK' _ _ (hK w' h1 h2)
end
theorem rd53_good {ch : List S51} {l : List S53} (h : Good ch l) (j : Nat) : WfI (pr (rd_T53 l (j : Int)).f0) := by
  unfold rd_T53
  rcases Nat.lt_or_ge j l.length with hj | hj
  · have : l.getD (j : Int).toNat z53 ∈ l := by simp [List.getD_eq_getElem?_getD, hj]
    exact (h.2.1 _ this).1
  · have : l.getD (j : Int).toNat z53 = z53 := by simp [List.getD_eq_getElem?_getD, hj]
    rw [this]
    exact ⟨by decide, by decide⟩
/-- Behind manifest.Range. -/
def RangePost (w0 : World) (r1 : List Int) (r2 : Int) (e : Ending) (w' : World) : Prop := ∃ v : Value, e = .returned (.tuple #[v, .int .i64 r2]) ∧ Kd.R (Kd.int .u8) 5 w' w0.heap.size (fun _ => True) v r1 ∧ Below w0.heap.size w0 w'
/-- What holds at the head of manifest.Range's loop: y the bytes' row, x the counter. -/
def RInv (w0 w1 : World) (size : Int) (A1 : Option Addr) (c1 : Nat) (l : List S53) (ch : List S51) (ps : List S48) (br D : Nat) (r1 : List Int) (r2 : Int) (y x : Value) (wr : World) : Prop :=
  ∃ (j n1 nb : Nat) (out : List Int) (V : List S51), j ≤ ps.length ∧ x = .int .i64 j ∧ Hid (Mp wr w1.heap.size n1 (fun y => (fnd l y).map (fun (i : Nat) => Value.int .i64 (i : Int)))) ∧ Hid (Mp wr br nb (seenS V)) ∧ nb ≤ j ∧
    Hid (∀ x ∈ V, ∀ i, fnd l (pr x) = some i → ofP (rd_T53 l (i : Int)).f1 = pr x) ∧ Hid (Kd.R (Kd.int .u8) 5 wr w1.heap.size (fun _ => True) y out) ∧ Hid (rg l ch (ps.drop j) out = some (r1, r2)) ∧
    Hid (wr.heap[w0.heap.size]? = some (.cells #[.int .i64 size, .slice A1 ch.length c1] 31 (0, 0))) ∧ Hid (wr.heap[w1.heap.size + 1]? = some (.cells #[.map (some w1.heap.size)] 91 (0, 0))) ∧
    Hid (wr.heap[D]? = some (.deferred (some []))) ∧ Hid (Below w1.heap.size w1 wr) ∧ w1.heap.size + 3 < wr.heap.size
theorem drop48 {l : List S48} {j : Nat} (h : j < l.length) : l.drop j = rd_T48 l (j : Int) :: l.drop (j + 1) := by
  rw [List.drop_eq_getElem_cons h]
  simp [rd_T48, List.getD_eq_getElem?_getD, h]
theorem rg_cons {l : List S53} {ch : List S51} {p : S48} {ps : List S48} {out r1 : List Int} {r2 : Int} (h : rg l ch (p :: ps) out = some (r1, r2)) :
    (0 ≤ p.f0 ∧ p.f0 < ch.length) ∧ ((fnd l (pr (rd_T51 ch p.f0)) = none ∧ r1 = [] ∧ r2 = 254) ∨ ∃ i, fnd l (pr (rd_T51 ch p.f0)) = some i ∧
      ((ofP (rd_T53 l (i : Int)).f1 ≠ pr (rd_T51 ch p.f0) ∧ r1 = [] ∧ r2 = 255) ∨ (ofP (rd_T53 l (i : Int)).f1 = pr (rd_T51 ch p.f0) ∧ (0 ≤ p.f1 ∧ p.f1 ≤ p.f2 ∧ p.f2 ≤ ((rd_T53 l (i : Int)).f1.length : Int) ∧ out.length + (rd_T53 l (i : Int)).f1.length ≤ 140737488355328) ∧
        rg l ch ps (out ++ ((rd_T53 l (i : Int)).f1.take p.f2.toNat).drop p.f1.toNat) = some (r1, r2)))) := by
  unfold rg at h
  by_cases h1 : 0 ≤ p.f0 ∧ p.f0 < ch.length
  · rw [if_pos h1] at h
    refine ⟨h1, ?_⟩
    cases hf : fnd l (pr (rd_T51 ch p.f0)) with
    | none =>
      rw [hf] at h
      simp only [Option.some.injEq, Prod.mk.injEq] at h
      exact .inl ⟨rfl, h.1.symm, h.2.symm⟩
    | some i =>
      rw [hf] at h
      simp only at h
      refine .inr ⟨i, rfl, ?_⟩
      by_cases h2 : ofP (rd_T53 l (i : Int)).f1 = pr (rd_T51 ch p.f0)
      · rw [if_pos h2] at h
        by_cases h3 : 0 ≤ p.f1 ∧ p.f1 ≤ p.f2 ∧ p.f2 ≤ ((rd_T53 l (i : Int)).f1.length : Int) ∧ out.length + (rd_T53 l (i : Int)).f1.length ≤ 140737488355328
        · rw [if_pos h3] at h
          exact .inr ⟨h2, h3, h⟩
        · rw [if_neg h3] at h
          cases h
      · rw [if_neg h2] at h
        simp only [Option.some.injEq, Prod.mk.injEq] at h
        exact .inl ⟨h2, h.1.symm, h.2.symm⟩
  · rw [if_neg h1] at h
    cases h
theorem leave_post {w0 w1 W3 wr : World} {D : Nat} {v : Value} {r1 : List Int} {r2 : Int} (h01 : w0.heap.size ≤ w1.heap.size) (h1 : Below w0.heap.size w0 w1) (h2 : Below w1.heap.size w1 wr) (hD : W3.heap.size ≤ D) (hs : W3.heap.size = w1.heap.size + 3) (hK : wr.heap[D]? = some (.deferred (some [])))
    (hR' : Kd.R (Kd.int .u8) 5 wr w1.heap.size (fun _ => True) v r1) : RangePost w0 r1 r2 (.returned (.tuple #[v, .int .i64 r2])) (wr.putObj D (.deferred none)) := by
  have hR := Kd.R_lower hR' h01
  have hb : Below w1.heap.size wr (wr.putObj D (.deferred none)) := belowK_b (w := w1) (Nat.le_refl _) wr D _ _ (by omega) hK rfl rfl
  refine ⟨v, rfl, ?_, stepB h1 (h2.trans hb)⟩
  refine Kd.R_step (ok := fun k => True ∧ k ≠ D) (Kd.R_mono (Kd.R_bound hR) (fun k hk => ⟨trivial, fun e => ?_⟩)) (fun k hk hlt => World.putObj_heap_other hk.2) |> fun h => Kd.R_mono h (fun _ _ => trivial)
  obtain ⟨_, _, _, q, _, cs, hc⟩ := hk
  rw [e, hK] at hc
  cases hc
theorem wp_normal {c : Code} {Q : Exit → Act → World → Prop} {a : Act} {w : World} (h : c.wp Try.prog (Exit.then (fun a w => Q .normal a w) (fun _ _ _ => False)) a w) : c.wp Try.prog Q a w :=
  wp_mono h (fun e a w h => by cases e <;> first | exact h | exact h.elim)
theorem then_n {Q : Exit → Act → World → Prop} {a : Act} {w : World} (h : Q .normal a w) : Exit.then (fun a w => Q .normal a w) (fun _ _ _ => False) .normal a w := h
theorem zeroInt (w : World) : (zeroValue 3).run Try.prog w = .ok (.int .i64 0) w := by kernel_rfl
set_option maxRecDepth 100000 in
set_option maxHeartbeats 4000000 in
theorem range_c {size a b : Int} {ch : List S51} {l : List S53} {A1 A : Option Addr} {c1 c : Nat} {r1 : List Int} {r2 : Int} (w0 : World) (hr1 : Kd.C k51 w0 A1 ch.length ch) (hc1 : ch.length ≤ c1) (hr : Kd.C k53 w0 A l.length l) (hc : l.length ≤ c)
    (h : rangeF size ch l a b = some (r1, r2)) : Calls Try.prog 21 #[.agg #[.int .i64 size, .slice A1 ch.length c1], .slice A l.length c, .int .i64 a, .int .i64 b] w0 (RangePost w0 r1 r2) := by
  unfold rangeF at h
  by_cases hG : Good ch l
  · rw [if_pos hG] at h
    obtain ⟨⟨ps, e1⟩, hs, h⟩ := Option.bind_eq_some_iff.1 h
    simp only at h
    have HG := Lib.hid hG
    have Hs := Lib.hid hs
    clear hG hs
    have hl1 := HG.out.2.2.1
    have hl2 := HG.out.2.2.2
    refine (callsIn_wide (n := 10)).1 (callsIn_of_wp_marks Try.func21 rfl trivial ?_ rfl)
    simp only [Try.ntmps21, List.size_toArray, List.length_cons, List.length_nil, Nat.reduceAdd, Nat.reduceSub, Array.replicate_succ, Array.replicate_zero, List.push_toArray, List.append_toArray, List.nil_append, List.cons_append]
    refine wpIn_wide.2 ?_
    by_cases he : e1 = 0
    · subst he
      rw [if_pos rfl] at h
      by_cases hpl : ps.length ≤ 140737488351232
      · rw [if_pos hpl] at h
        have H := Lib.hid h
        clear h
        have hmm := @run_makeMap Try.prog
        go_wp2_with fail
        have B0 : Below w0.heap.size w0 (w0.alloc (.cells #[.int .i64 size, .slice A1 ch.length c1] 31 (0, 0))) := (Below.refl w0.heap.size w0).alloc (Nat.le_refl _) _
        refine (manifest_Slice.calls (ch.length + 2) _ _ _ _ _ _ _ _ _ (Kd.C_below hr1 B0) hc1 Hs.out).mono ?_
        rintro e w1 ⟨v1, rfl, hR1, hb1⟩
        have B1 := stepB B0 hb1
        have hbx := (hb1.block w0.heap.size (by simp)).trans (heap_alloc_new w0 _)
        have hz1 := hb1.size
        obtain ⟨Ap, cp, rfl, hcp, hCp⟩ := Kd.R_reads hR1
        simp only [World.size_alloc] at hz1
        have Hbx := Lib.hid hbx
        have HCp := Lib.hid hCp
        have HB1 := Lib.hid B1
        clear hb1 hbx hCp hR1 B1 B0
        go_wp2_with fail
        refine (back_c A l.length c _).mono ?_
        rintro e w2 ⟨rfl, rfl⟩
        go_wp2_with fail
        refine wpIn_wide.1 (?_ : Code.wpIn Fence.wide 10 _ _ _ _ _)
        have hbn := heap_alloc_new ((w1.alloc (.map #[] 0)).alloc (.cells #[.map (some w1.heap.size)] 91 (0, 0))) (.cells #[.slice A l.length c] 23 (0, 0))
        have h4 := heap_alloc_new (w1.alloc (.map #[] 0)) (.cells #[.map (some w1.heap.size)] 91 (0, 0))
        rw [World.size_alloc] at h4
        have hvn := (Below.heap_alloc ((w1.alloc (.map #[] 0)).alloc (.cells #[.map (some w1.heap.size)] 91 (0, 0))) (.cells #[.slice A l.length c] 23 (0, 0)) (w1.heap.size + 1) (by simp)).trans h4
        clear h4
        have hMn := (((Mp.made w1).alloc (.cells #[.map (some w1.heap.size)] 91 (0, 0))).alloc (.cells #[.slice A l.length c] 23 (0, 0)))
        have hBn : Below w1.heap.size w1 (((w1.alloc (.map #[] 0)).alloc (.cells #[.map (some w1.heap.size)] 91 (0, 0))).alloc (.cells #[.slice A l.length c] 23 (0, 0))) := ((((Below.refl _ _).alloc (Nat.le_refl _) _).alloc (by simp) _).alloc (by simp; omega) _)
        have hsn : (((w1.alloc (.map #[] 0)).alloc (.cells #[.map (some w1.heap.size)] 91 (0, 0))).alloc (.cells #[.slice A l.length c] 23 (0, 0))).heap.size = w1.heap.size + 3 := by simp
        simp only [World.size_alloc] at hbn
        generalize (((w1.alloc (.map #[] 0)).alloc (.cells #[.map (some w1.heap.size)] 91 (0, 0))).alloc (.cells #[.slice A l.length c] 23 (0, 0))) = W3 at hbn hvn hMn hBn hsn ⊢
        have hB03 := stepB HB1.out hBn
        have hsq := back_stops 9 (by omega) (w1.heap.size + 1 + 1) A c l hl1 w0 W3 hr hB03 (by omega) (blk_cell hbn 0)
        refine wpIn_rangeFunc_ownH rfl (by omega) (gf := 76) (lb := #[.pointer (some ⟨w1.heap.size + 1 + 1, 0, none⟩)]) rfl trivial (enters_of Try.func76 (by kernel_rfl) rfl)
          hsq (fun h k => KpB.trans h k) (kpB_b (by omega) (by omega)) (Below.refl _ _) (fun _ => rfl)
          (fun pre W => (w1.heap.size + 3 ≤ W.heap.size ∧ W.heap[w1.heap.size + 1]? = some (.cells #[.map (some w1.heap.size)] 91 (0, 0)) ∧ Mp W w1.heap.size pre.length (fmL l pre)) ∧ Below w1.heap.size w1 W)
          (fun _ _ _ => False)
          (OwnFrom.and (fun s X Y row hs hg hr => ⟨Nat.le_trans hs.1 hg.size, blk_grown hs.2.1 hg (fun e => by have := (hr _ e.symm).1; omega), hs.2.2.grown hg (fun e => by have := (hr _ e.symm).1; omega)⟩) (ownFrom_below (Nat.le_refl _) (by omega)))
          (fun _ _ _ _ _ hs _ _ => hs)
          ⟨⟨by omega, hvn, hMn⟩, hBn⟩
          (fun (x : Nat) (a' : Act) (W : World) => ∃ gx, a' = { tmps := #[.agg #[.int .i64 size, .slice A1 ch.length c1], .slice A l.length c, .int .i64 a, .int .i64 b, .pointer (some ⟨w0.heap.size, 0, none⟩), undef, undef, undef, .slice none 0 0, .int .i64 0, .slice Ap ps.length cp, .int .i64 0, .pointer (some ⟨w1.heap.size + 1, 0, none⟩), .int .i64 (x : Int), .pointer (some ⟨gx, 0, none⟩), undef, undef, undef, undef, undef, undef, undef, .tuple #[.slice Ap ps.length cp, .int .i64 0], .agg #[.int .i64 size, .slice A1 ch.length c1], .int .i64 a, .int .i64 b, .tuple #[.slice Ap ps.length cp, .int .i64 0], .slice Ap ps.length cp, .int .i64 0, .int .i64 0, .bool false, undef, .map (some w1.heap.size), .slice A l.length c, .func (.func 76) #[] #[.pointer (some ⟨w1.heap.size + 1 + 1, 0, none⟩)], .int .i64 (x : Int), valD l w0 A x, undef, undef, undef, undef, undef, undef, undef, undef, undef, undef, undef, undef, undef, undef, undef, undef, undef, undef, undef, undef, undef, undef, undef, undef, undef, undef, undef, undef, undef, undef, undef, undef, undef, undef, undef, undef, undef, undef, undef, undef, undef, undef, undef, undef, undef, undef, undef, undef, undef, undef, undef, undef, undef, undef, undef], defers := [] } ∧ W.heap[gx]? = some (.cells #[.int .u64 (rd_T53 l (x : Int)).f0.f0, .int .i64 (rd_T53 l (x : Int)).f0.f1, .slice (hdrD w0 A x).1 (hdrD w0 A x).2.1 (hdrD w0 A x).2.2] 53 (0, 0)) ∧ w1.heap.size + 3 ≤ gx)
          (fun x a' _ X Y row hs hg hr => by
            obtain ⟨gx, h1, h2, h3⟩ := hs
            exact ⟨gx, h1, blk_grown h2 hg (fun e => by
              obtain ⟨_, o, ho, hc⟩ := hr _ e.symm
              rw [h2] at ho
              cases ho
              cases hc), h3⟩) ?assign ?body ?done ?stop
        case assign =>
          rintro l' pre x W K ⟨⟨hz, hv, hM⟩, hB⟩ hK
          have Hv := Lib.hid hv
          have HM := Lib.hid hM
          have HB := Lib.hid hB
          clear hv hM hB
          simp only [valD]
          gi_wp2
          have hsz := HB.out.size
          refine hK _ _ ((KeepsOthers.alloc _ _).from _) ⟨(Below.refl _ _).alloc (by omega) _, Below.heap_alloc _ _ _ (by omega)⟩ ⟨⟨by simp; omega, blk_alloc Hv.out _, HM.out.alloc _⟩, HB.out.alloc (by omega) _⟩ ⟨_, rfl, heap_alloc_new _ _, hz⟩
        case body =>
          rintro l' pre x a' W hl' hloop ⟨⟨hz, hv, hM⟩, hB⟩ ⟨gx, rfl, hgx, hgl⟩ hlt
          have Hv := Lib.hid hv
          have HM := Lib.hid hM
          have HB := Lib.hid hB
          have cv := blk_cell hv 0
          have cx0 := blk_cell hgx 0
          have cx1 := blk_cell hgx 1
          simp only [List.getElem?_toArray, List.getElem?_cons_zero, List.getElem?_cons_succ] at cv cx0 cx1
          clear hv hM hB
          gi_wp2_with (gi_at_mapUpdate; refine wplIn_update rfl _ _ _ 91 3 rfl Try.underlying91 rfl (pr (rd_T53 l (x : Int)).f0) rfl (rd53_good HG.out x) (.int .i64 (x : Int)) rfl (by unfold maxLen; omega) HM.out ?_; intro w5 hM5 hg5)
          have hsz := HB.out.size
          refine ⟨KeepsFrom.of_grownBy hg5 (fun j e => by cases e; omega), ⟨(Below.refl _ _).grown hg5 (by omega) (fun k e => by cases e; omega), hg5.block _ (by omega) (by simp; omega)⟩, ⟨Nat.le_trans hz hg5.size, blk_grown Hv.out hg5 (by simp), ?_⟩, HB.out.grown hg5 hsz (fun k e => by cases e; exact Nat.le_refl _)⟩
          rw [fmL_snoc, List.length_append]
          exact hM5
        case done =>
          rintro D ys W hD rfl ⟨⟨hz, hv, hM⟩, hB⟩ hK
          have hM' := hM.congr (fun y _ => fmL_all l y)
          have hBx := (hB.block w0.heap.size (by omega)).trans Hbx.out
          have HM := Lib.hid hM'
          have Hv := Lib.hid hv
          have HB := Lib.hid hB
          have HK := Lib.hid hK
          have HBx := Lib.hid hBx
          have hDl := blk_lt hK
          clear hM hM' hv hB hK hBx hsq hbn hvn hMn hBn
          go_wp2_with fail
          have hMb : Mp (W.alloc (.map #[] 0)) W.heap.size 0 (seenS []) := (Mp.made W).congr (fun x _ => by simp [seenS])
          have HI0 : RInv w0 w1 size A1 c1 l ch ps W.heap.size D r1 r2 (.slice none 0 0) (.int .i64 ((0 : Nat) : Int)) (W.alloc (.map #[] 0)) :=
            ⟨0, _, 0, [], [], Nat.zero_le _, rfl, Lib.hid (HM.out.alloc _), Lib.hid hMb, Nat.le_refl _, Lib.hid (fun x hx => by cases hx), Lib.hid (Kd.R_nil _ _ _ _ _), H, Lib.hid (blk_alloc HBx.out _), Lib.hid (blk_alloc Hv.out _), Lib.hid (blk_alloc HK.out _), Lib.hid (HB.out.alloc HB.out.size _), by simp; omega⟩
          have HI0 := Lib.hid HI0
          have hbr : w1.heap.size + 3 ≤ W.heap.size := hz
          clear hMb H HM Hv HB HK HBx hz
          generalize W.alloc (.map #[] 0) = W2 at HI0 ⊢
          generalize W.heap.size = br at HI0 hbr hDl ⊢
          go_loopw [16, 44] (fun y x wr => Hid (RInv w0 w1 size A1 c1 l ch ps br D r1 r2 y x wr)) (fun _ x _ => ps.length - (intOf x).toNat)
          case atStart => exact HI0
          case round =>
            obtain ⟨j, n1, nb, out, V, hj, rfl, HM1, HM2, hnb, HV, HR, HE, HBx, Hv, HD, HB, hsz⟩ := hrel.out
            clear hrel
            by_cases hlt : j < ps.length
            · have hE := HE.out
              rw [drop48 hlt] at hE
              obtain ⟨ad, rfl, l0, l1, l2⟩ := at_T48 (Kd.C_below HCp.out HB.out) (j : Int) (by omega) (by omega)
              simp only [Int.toNat_natCast] at l0 l1 l2
              generalize rd_T48 ps (j : Int) = p at *
              obtain ⟨f0, f1, f2⟩ := p
              simp only at l0 l1 l2
              obtain ⟨⟨hf0, hf1⟩, hcase⟩ := rg_cons hE
              simp only at hf0 hf1 hcase
              obtain ⟨ad1, rfl, k0, k1⟩ := at_T51 (Kd.C_below hr1 (stepB HB1.out HB.out)) f0 hf0 hf1
              have hwf : WfI (pr (rd_T51 ch f0)) := HG.out.1 _ (by simp [rd_T51, List.getD_eq_getElem?_getD, show f0.toNat < ch.length by omega])
              generalize hx : rd_T51 ch f0 = x at *
              obtain ⟨x0, x1⟩ := x
              simp only at k0 k1
              have hk0 := World.block_lt_of_cell? _ _ k0
              have hk1 := World.block_lt_of_cell? _ _ k1
              have k0 := (World.cell?_alloc_lt wr (.cells #[.int .i64 f0, .int .i64 f1, .int .i64 f2] 48 (0, 0)) _ hk0).trans k0
              have k1 := (World.cell?_alloc_lt wr (.cells #[.int .i64 f0, .int .i64 f1, .int .i64 f2] 48 (0, 0)) _ hk1).trans k1
              clear hk0 hk1
              have b0 := blk_cell HBx.out 0
              have b1 := blk_cell HBx.out 1
              have bv := blk_cell Hv.out 0
              simp only [List.getElem?_toArray, List.getElem?_cons_zero, List.getElem?_cons_succ] at b0 b1 bv
              have hs0 : w0.heap.size < wr.heap.size := blk_lt HBx.out
              have hs1 : w1.heap.size + 1 < wr.heap.size := blk_lt Hv.out
              have hs2 : w1.heap.size < wr.heap.size := by omega
              have hcase := Lib.hid hcase
              clear hE HE
              rcases hcase.out with ⟨hfn, rfl, rfl⟩ | ⟨i, hfi, hc2⟩
              · have hget : (((fnd l (pr ⟨x0, x1⟩)).map (fun (i : Nat) => Value.int .i64 (i : Int))).getD (.int .i64 0) = .int .i64 0) ∧ ((fnd l (pr ⟨x0, x1⟩)).map (fun (i : Nat) => Value.int .i64 (i : Int))).isSome = false := by rw [hfn]; exact ⟨rfl, rfl⟩
                have Hget := Lib.hid hget
                clear hget hfn hcase
                go_wp2_with (at_lookup; go_must (refine wpl_look_ok rfl _ _ 91 3 rfl Try.underlying91 (zeroInt _) rfl (pr ⟨x0, x1⟩) rfl hwf ((HM1.out.alloc _).alloc _) ?_); rw [Hget.out.1, Hget.out.2])
                have hDD := blk_alloc (blk_alloc HD.out (.cells #[.int .i64 f0, .int .i64 f1, .int .i64 f2] 48 (0, 0))) (.cells #[.int .u64 x0, .int .i64 x1] 51 (0, 0))
                refine ⟨by simp, .inl ⟨_, _, rfl, run_takeDeferred hDD, ?_⟩⟩
                exact ⟨_, results_tmp2 rfl _ _ _, leave_post (by omega) HB1.out ((HB.out.alloc (by omega) _).alloc (by simp; omega) _) hD hsn hDD (Kd.R_nil _ _ _ _ _)⟩
              · obtain ⟨hil, hid⟩ := fnd_some hfi
                obtain ⟨adl, Al, cl, rfl, m0, m1, m2, hcl, hCl⟩ := at_T53 hr (i : Int) (by omega) (by omega)
                simp only [Int.toNat_natCast] at m0 m1 m2
                have hgl : IsBytes (rd_T53 l (i : Int)).f1 ∧ (rd_T53 l (i : Int)).f1.length ≤ 140737488351232 := (HG.out.2.1 _ (by simp [rd_T53, List.getD_eq_getElem?_getD, hil])).2
                generalize hbsd : (rd_T53 l (i : Int)).f1 = bs at m2 hcl hCl hgl hc2
                have hm2l := World.block_lt_of_cell? _ _ m2
                have Hm2 := Lib.hid m2
                have hbsd := Lib.hid hbsd
                have hget : (((fnd l (pr ⟨x0, x1⟩)).map (fun (i : Nat) => Value.int .i64 (i : Int))).getD (.int .i64 0) = .int .i64 (i : Int)) ∧ ((fnd l (pr ⟨x0, x1⟩)).map (fun (i : Nat) => Value.int .i64 (i : Int))).isSome = true := by rw [hfi]; exact ⟨rfl, rfl⟩
                have Hget := Lib.hid hget
                have Hfi := Lib.hid hfi
                have HCl := Lib.hid hCl
                have Hbs := Lib.hid hgl.1
                have hbl := hgl.2
                have Hc2 := Lib.hid hc2
                clear hget hcase hfi hid hCl hgl hc2 m0 m1 m2
                go_wp2_with (at_lookup; go_must (refine wpl_look_ok rfl _ _ 91 3 rfl Try.underlying91 (zeroInt _) rfl (pr ⟨x0, x1⟩) rfl hwf ((HM1.out.alloc _).alloc _) ?_); rw [Hget.out.1, Hget.out.2])
                clear k0 k1 l0 l1 l2 b0 b1 bv
                have c18 := blk_alloc (heap_alloc_new wr (.cells #[.int .i64 f0, .int .i64 f1, .int .i64 f2] 48 (0, 0))) (.cells #[.int .u64 x0, .int .i64 x1] 51 (0, 0))
                have c19 := heap_alloc_new (wr.alloc (.cells #[.int .i64 f0, .int .i64 f1, .int .i64 f2] 48 (0, 0))) (.cells #[.int .u64 x0, .int .i64 x1] 51 (0, 0))
                have hB5 : Below wr.heap.size wr ((wr.alloc (.cells #[.int .i64 f0, .int .i64 f1, .int .i64 f2] 48 (0, 0))).alloc (.cells #[.int .u64 x0, .int .i64 x1] 51 (0, 0))) := ((Below.refl _ _).alloc (Nat.le_refl _) _).alloc (by simp) _
                rw [World.size_alloc] at c19
                generalize ((wr.alloc (.cells #[.int .i64 f0, .int .i64 f1, .int .i64 f2] 48 (0, 0))).alloc (.cells #[.int .u64 x0, .int .i64 x1] 51 (0, 0))) = w5 at c18 c19 hB5 ⊢
                have hz5 := hB5.size
                have hzr : w1.heap.size ≤ wr.heap.size := HB.out.size
                have hlt19 : wr.heap.size + 1 < w5.heap.size := blk_lt c19
                have HM15 := Lib.hid (HM1.out.move (hB5.block _ (by omega)))
                have HM25 := Lib.hid (HM2.out.below hB5)
                have hbrl := HM2.out.lt
                have HR5 := Lib.hid (Kd.R_below HR.out hB5)
                have HD5 := Lib.hid ((hB5.block _ (blk_lt HD.out)).trans HD.out)
                have HBx5 := Lib.hid ((hB5.block _ hs0).trans HBx.out)
                have Hv5 := Lib.hid ((hB5.block _ hs1).trans Hv.out)
                have Hq : Hid (w5.cell? ⟨wr.heap.size + 1, 0, none⟩ = some (.int .u64 x0) ∧ w5.cell? ⟨wr.heap.size + 1, 1, none⟩ = some (.int .i64 x1)) := Lib.hid ⟨blk_cell c19 0, blk_cell c19 1⟩
                have Hc18 := Lib.hid c18
                clear c18 c19
                by_cases hV : pr ⟨x0, x1⟩ ∈ V.map pr
                · have hof : ofP bs = pr ⟨x0, x1⟩ := by
                    obtain ⟨y, hy, hyx⟩ := List.mem_map.1 hV
                    have := HV.out y hy i (by rw [hyx]; exact Hfi.out)
                    rw [hbsd.out, hyx] at this
                    exact this
                  obtain ⟨⟨hb1, hb2, hb3, hb4⟩, hE2⟩ := (Hc2.out.resolve_left (fun h => h.1 hof)).2
                  have Hlk : Hid (∀ w', Below w5.heap.size w5 w' → (Instr.lookup 95 (.map (some br)) (.agg #[.int .u64 x0, .int .i64 x1]) false).run Try.prog w' = .ok (.bool true) w') := Lib.hid (fun w' h => by
                    have := (HM25.out.below h).look hwf Try.underlying95 (zeroBool w')
                    rw [seenS_get V ⟨x0, x1⟩ false rfl, show decide (pr ⟨x0, x1⟩ ∈ V.map pr) = true by simpa using hV] at this
                    exact this)
                  clear hV
                  refine wp_normal ?_
                  refine start_ (n := 14) (S := fun w' => Below w5.heap.size w5 w') (ds := []) #[false, false, false, false, false, false, false, false, false, false, false, false, false, false] (by kernel_rfl) rfl rfl (below_drew (Below.refl _ _)) (fun hHeld => ?_)
                  refine pure_ (i := 0) (N := some 62) (v := ?_) (a' := ?_) #[true, false, false, false, false, false, false, false, false, false, false, false, false, false] rfl rfl (by kernel_rfl) (fun _ _ _ h => h) (Or.inl ⟨by rfl, ?_⟩) ?_ ?_
                  rotate_left
                  · intro w'
                    go_simp
                    try with_reducible rfl
                  rotate_left
                  · simp only [Act.put, List.setIfInBounds_toArray, List.set_cons_zero, List.set_cons_succ, i64_w, i32_w]
                    rfl
                  refine take_ (i := 1) (N := some 63) (v := ?_) (a' := ?_) #[true, true, false, false, false, false, false, false, false, false, false, false, false, false] rfl rfl (by kernel_rfl) (fun _ _ _ h => h) (Or.inl ⟨by rfl, ?_⟩) hHeld ?_ ?_
                  rotate_left
                  · rintro w' hb
                    have e0 := (hb.cell (p := ⟨wr.heap.size + 1, 0, none⟩) hlt19).trans Hq.out.1
                    have e1 := (hb.cell (p := ⟨wr.heap.size + 1, 1, none⟩) hlt19).trans Hq.out.2
                    go_simp
                    try with_reducible rfl
                  rotate_left
                  · simp only [Act.put, List.setIfInBounds_toArray, List.set_cons_zero, List.set_cons_succ, i64_w, i32_w]
                    rfl
                  refine take_ (i := 2) (N := some 64) (v := ?_) (a' := ?_) #[true, true, true, false, false, false, false, false, false, false, false, false, false, false] rfl rfl (by kernel_rfl) (fun _ _ _ h => h) (Or.inl ⟨by rfl, ?_⟩) hHeld ?_ ?_
                  rotate_left
                  · rintro w' hb
                    have hlk := Hlk.out _ hb
                    go_simp
                    try with_reducible rfl
                  rotate_left
                  · simp only [Act.put, List.setIfInBounds_toArray, List.set_cons_zero, List.set_cons_succ, i64_w, i32_w]
                    rfl
                  refine pure_ (i := 3) (N := some 65) (v := ?_) (a' := ?_) #[true, true, true, true, false, false, false, false, false, false, false, false, false, false] rfl rfl (by kernel_rfl) (fun _ _ _ h => h) (Or.inl ⟨by rfl, ?_⟩) ?_ ?_
                  rotate_left
                  · intro w'
                    go_simp
                    try with_reducible rfl
                  rotate_left
                  · simp only [Act.put, List.setIfInBounds_toArray, List.set_cons_zero, List.set_cons_succ, i64_w, i32_w]
                    rfl
                  refine pure_ (i := 4) (N := some 66) (v := ?_) (a' := ?_) #[true, true, true, true, true, false, false, false, false, false, false, false, false, false] rfl rfl (by kernel_rfl) (fun _ _ _ h => h) (Or.inl ⟨by rfl, ?_⟩) ?_ ?_
                  rotate_left
                  · intro w'
                    go_simp
                    try with_reducible rfl
                  rotate_left
                  · simp only [Act.put, List.setIfInBounds_toArray, List.set_cons_zero, List.set_cons_succ, i64_w, i32_w]
                    rfl
                  refine pure_ (i := 5) (N := some 67) (v := undef) (a' := ?_) #[true, true, true, true, true, true, false, false, false, false, false, false, false, false] rfl rfl (by kernel_rfl) (fun _ _ _ h => h) (Or.inr ⟨by rfl, rfl⟩) ?_ ?_
                  rotate_left
                  · simp only [Act.put, List.setIfInBounds_toArray, List.set_cons_zero, List.set_cons_succ, i64_w, i32_w]
                    rfl
                  refine pure_ (i := 6) (N := some 68) (v := undef) (a' := ?_) #[true, true, true, true, true, true, true, false, false, false, false, false, false, false] rfl rfl (by kernel_rfl) (fun _ _ _ h => h) (Or.inr ⟨by rfl, rfl⟩) ?_ ?_
                  rotate_left
                  · simp only [Act.put, List.setIfInBounds_toArray, List.set_cons_zero, List.set_cons_succ, i64_w, i32_w]
                    rfl
                  refine pure_ (i := 7) (N := some 69) (v := undef) (a' := ?_) #[true, true, true, true, true, true, true, true, false, false, false, false, false, false] rfl rfl (by kernel_rfl) (fun _ _ _ h => h) (Or.inr ⟨by rfl, rfl⟩) ?_ ?_
                  rotate_left
                  · simp only [Act.put, List.setIfInBounds_toArray, List.set_cons_zero, List.set_cons_succ, i64_w, i32_w]
                    rfl
                  refine pure_ (i := 8) (N := some 70) (v := undef) (a' := ?_) #[true, true, true, true, true, true, true, true, true, false, false, false, false, false] rfl rfl (by kernel_rfl) (fun _ _ _ h => h) (Or.inr ⟨by rfl, rfl⟩) ?_ ?_
                  rotate_left
                  · simp only [Act.put, List.setIfInBounds_toArray, List.set_cons_zero, List.set_cons_succ, i64_w, i32_w]
                    rfl
                  refine pure_ (i := 9) (N := some 71) (v := undef) (a' := ?_) #[true, true, true, true, true, true, true, true, true, true, false, false, false, false] rfl rfl (by kernel_rfl) (fun _ _ _ h => h) (Or.inr ⟨by rfl, rfl⟩) ?_ ?_
                  rotate_left
                  · simp only [Act.put, List.setIfInBounds_toArray, List.set_cons_zero, List.set_cons_succ, i64_w, i32_w]
                    rfl
                  refine pure_ (i := 10) (N := some 72) (v := undef) (a' := ?_) #[true, true, true, true, true, true, true, true, true, true, true, false, false, false] rfl rfl (by kernel_rfl) (fun _ _ _ h => h) (Or.inr ⟨by rfl, rfl⟩) ?_ ?_
                  rotate_left
                  · simp only [Act.put, List.setIfInBounds_toArray, List.set_cons_zero, List.set_cons_succ, i64_w, i32_w]
                    rfl
                  refine pure_ (i := 11) (N := some 73) (v := undef) (a' := ?_) #[true, true, true, true, true, true, true, true, true, true, true, true, false, false] rfl rfl (by kernel_rfl) (fun _ _ _ h => h) (Or.inr ⟨by rfl, rfl⟩) ?_ ?_
                  rotate_left
                  · simp only [Act.put, List.setIfInBounds_toArray, List.set_cons_zero, List.set_cons_succ, i64_w, i32_w]
                    rfl
                  refine pure_ (i := 12) (N := some 74) (v := undef) (a' := ?_) #[true, true, true, true, true, true, true, true, true, true, true, true, true, false] rfl rfl (by kernel_rfl) (fun _ _ _ h => h) (Or.inr ⟨by rfl, rfl⟩) ?_ ?_
                  rotate_left
                  · simp only [Act.put, List.setIfInBounds_toArray, List.set_cons_zero, List.set_cons_succ, i64_w, i32_w]
                    rfl
                  refine pure_ (i := 13) (N := some 75) (v := ?_) (a' := ?_) #[true, true, true, true, true, true, true, true, true, true, true, true, true, true] rfl rfl (by kernel_rfl) (fun _ _ _ h => h) (Or.inl ⟨by rfl, ?_⟩) ?_ ?_
                  rotate_left
                  · intro w'
                    go_simp
                    try with_reducible rfl
                  rotate_left
                  · simp only [Act.put, List.setIfInBounds_toArray, List.set_cons_zero, List.set_cons_succ, i64_w, i32_w]
                    rfl
                  refine done_ (by kernel_rfl) ?_
                  refine then_n ?_
                  clear hHeld
                  have hB6 : Below w5.heap.size w5 w5.drew := below_drew (Below.refl _ _)
                  generalize w5.drew = w6 at hB6 ⊢
                  have hz6 := hB6.size
                  have B06 := stepB (stepB (stepB HB1.out HB.out) hB5) hB6
                  have e0 := (hB6.cell (p := ⟨wr.heap.size + 1, 0, none⟩) hlt19).trans Hq.out.1
                  have e1 := (hB6.cell (p := ⟨wr.heap.size + 1, 1, none⟩) hlt19).trans Hq.out.2
                  have HM26 := Lib.hid (HM25.out.below hB6)
                  go_wp2_with (at_mapUpdate; go_must (refine wpl_update rfl _ _ _ 95 4 rfl Try.underlying95 rfl (pr ⟨x0, x1⟩) rfl hwf (.bool true) rfl (by unfold maxLen; omega) HM26.out ?_); intro w7 hM7 hg7)
                  rw [seenS_put] at hM7
                  have hz7 := hg7.size
                  have B07 : Below w0.heap.size w0 w7 := B06.grown hg7 B06.size (fun k hk => by cases hk; omega)
                  have B17 : Below w1.heap.size w1 w7 := ((HB.out.trans (hB5.mono hzr)).trans (hB6.mono (by omega))).grown hg7 (by omega) (fun k hk => by cases hk; omega)
                  have hmv : ∀ k, k < w6.heap.size → k ≠ br → w7.heap[k]? = w6.heap[k]? := fun k hk hn => hg7.block k hk (fun e => hn (Option.some.inj e))
                  have Hmv := Lib.hid hmv
                  have HM17 := Lib.hid ((HM15.out.below hB6).move (hmv _ (by have := HM15.out.lt; omega) (by omega)))
                  have HM27 := Lib.hid hM7
                  have HR7 : Hid (Kd.R (Kd.int .u8) 5 w7 w1.heap.size (fun _ => True) u16 out) := Lib.hid (Kd.R_mono (Kd.R_grown (ok := fun k => True ∧ k ≠ br) (Kd.R_mono (Kd.R_bound (Kd.R_below HR5.out hB6)) (fun k hk => ⟨trivial, fun e => by
                    obtain ⟨_, _, _, q, _, cs, hc⟩ := hk
                    rw [e] at hc
                    exact HM26.out.not_row hc⟩)) hg7 (fun k hk e => hk.2 (Option.some.inj e))) (fun _ _ => trivial))
                  have HD7 : Hid (w7.heap[D]? = some (.deferred (some []))) := Lib.hid ((hmv D (by have := blk_lt HD5.out; omega) (by omega)).trans ((hB6.block D (blk_lt HD5.out)).trans HD5.out))
                  have HBx7 : Hid (w7.heap[w0.heap.size]? = some (.cells #[.int .i64 size, .slice (some ad1) ch.length c1] 31 (0, 0))) := Lib.hid ((hmv _ (by omega) (by omega)).trans ((hB6.block _ (by omega)).trans HBx5.out))
                  have Hv7 : Hid (w7.heap[w1.heap.size + 1]? = some (.cells #[.map (some w1.heap.size)] 91 (0, 0))) := Lib.hid ((hmv _ (by omega) (by omega)).trans ((hB6.block _ (by omega)).trans Hv5.out))
                  have Hp7 : Hid (w7.heap[wr.heap.size]? = some (.cells #[.int .i64 f0, .int .i64 f1, .int .i64 f2] 48 (0, 0))) := Lib.hid ((hmv _ (by omega) (by omega)).trans ((hB6.block _ (by omega)).trans Hc18.out))
                  have Hm7 := Lib.hid ((B07.cell (p := ⟨(adl.add (i * 3)).block, (adl.add (i * 3)).off + 2, none⟩) hm2l).trans Hm2.out)
                  have hm7l : (adl.add (i * 3)).block < w7.heap.size := by have := B07.size; have h : (adl.add (i * 3)).block < w0.heap.size := hm2l; omega
                  have HC7 := Lib.hid (Kd.C_below HCl.out B07)
                  have HB07 := Lib.hid B07
                  have HB17 := Lib.hid B17
                  clear e0 e1 hM7 hg7 B06 B07 B17 hmv hB6 hB5 hz5
                  obtain ⟨lo, rfl⟩ := Int.eq_ofNat_of_zero_le hb1
                  obtain ⟨hi, rfl⟩ := Int.eq_ofNat_of_zero_le (Int.le_trans hb1 hb2)
                  simp only [Int.toNat_natCast] at hE2
                  obtain ⟨i5, hi5, hz5', hs5, hy5⟩ := info_parts info5
                  obtain ⟨A9, c9, l9, h9, hc9, hC9, hcut⟩ := cut_r (Kd.int .u8) 34 5 Try.underlying34 hi5 hs5 Al cl bs lo hi (by omega) (by omega) hcl
                  have hl9 : l9.length ≤ bs.length := by rw [h9.out, List.length_drop, List.length_take]; omega
                  rw [← h9.out] at hE2
                  have HE2 := Lib.hid hE2
                  have HC9 := Lib.hid hC9
                  clear hE2 hC9
                  have hil2 : (i : Int) < (l.length : Int) := by omega
                  have hil0 : (0 : Int) ≤ (i : Int) := by omega
                  have hwr7 : wr.heap.size < w7.heap.size := by omega
                  refine wp_normal ?_
                  refine start_ (n := 13) (S := fun w' => Below w7.heap.size w7 w') (ds := [11]) #[false, false, false, false, false, false, false, false, false, false, false, false, false] (by kernel_rfl) rfl rfl (below_drew (Below.refl _ _)) (fun hHeld => ?_)
                  refine pure_ (i := 0) (N := some 78) (v := ?_) (a' := ?_) #[true, false, false, false, false, false, false, false, false, false, false, false, false] rfl rfl (by kernel_rfl) (fun _ _ _ h => h) (Or.inl ⟨by rfl, ?_⟩) ?_ ?_
                  rotate_left
                  · intro w'
                    go_simp
                    try with_reducible rfl
                  rotate_left
                  · simp only [Act.put, List.setIfInBounds_toArray, List.set_cons_zero, List.set_cons_succ, i64_w, i32_w]
                    rfl
                  refine pure_ (i := 1) (N := some 79) (v := ?_) (a' := ?_) #[true, true, false, false, false, false, false, false, false, false, false, false, false] rfl rfl (by kernel_rfl) (fun _ _ _ h => h) (Or.inl ⟨by rfl, ?_⟩) ?_ ?_
                  rotate_left
                  · intro w'
                    go_simp
                    try with_reducible rfl
                  rotate_left
                  · simp only [Act.put, List.setIfInBounds_toArray, List.set_cons_zero, List.set_cons_succ, i64_w, i32_w]
                    rfl
                  refine pure_ (i := 2) (N := some 80) (v := ?_) (a' := ?_) #[true, true, true, false, false, false, false, false, false, false, false, false, false] rfl rfl (by kernel_rfl) (fun _ _ _ h => h) (Or.inl ⟨by rfl, ?_⟩) ?_ ?_
                  rotate_left
                  · intro w'
                    go_simp
                    try with_reducible rfl
                  rotate_left
                  · simp only [Act.put, List.setIfInBounds_toArray, List.set_cons_zero, List.set_cons_succ, i64_w, i32_w]
                    rfl
                  refine pure_ (i := 3) (N := some 81) (v := ?_) (a' := ?_) #[true, true, true, true, false, false, false, false, false, false, false, false, false] rfl rfl (by kernel_rfl) (fun _ _ _ h => h) (Or.inl ⟨by rfl, ?_⟩) ?_ ?_
                  rotate_left
                  · intro w'
                    go_simp
                    try with_reducible rfl
                  rotate_left
                  · simp only [Act.put, List.setIfInBounds_toArray, List.set_cons_zero, List.set_cons_succ, i64_w, i32_w]
                    rfl
                  refine pure_ (i := 4) (N := some 82) (v := ?_) (a' := ?_) #[true, true, true, true, true, false, false, false, false, false, false, false, false] rfl rfl (by kernel_rfl) (fun _ _ _ h => h) (Or.inl ⟨by rfl, ?_⟩) ?_ ?_
                  rotate_left
                  · intro w'
                    go_simp
                    try with_reducible rfl
                  rotate_left
                  · simp only [Act.put, List.setIfInBounds_toArray, List.set_cons_zero, List.set_cons_succ, i64_w, i32_w]
                    rfl
                  refine take_ (i := 5) (N := some 83) (v := ?_) (a' := ?_) #[true, true, true, true, true, true, false, false, false, false, false, false, false] rfl rfl (by kernel_rfl) (fun _ _ _ h => h) (Or.inl ⟨by rfl, ?_⟩) hHeld ?_ ?_
                  rotate_left
                  · rintro w' hb
                    have e2 := (hb.cell (p := ⟨(adl.add (i * 3)).block, (adl.add (i * 3)).off + 2, none⟩) hm7l).trans Hm7.out
                    go_simp
                    try with_reducible rfl
                  rotate_left
                  · simp only [Act.put, List.setIfInBounds_toArray, List.set_cons_zero, List.set_cons_succ, i64_w, i32_w]
                    rfl
                  refine pure_ (i := 6) (N := some 84) (v := ?_) (a' := ?_) #[true, true, true, true, true, true, true, false, false, false, false, false, false] rfl rfl (by kernel_rfl) (fun _ _ _ h => h) (Or.inl ⟨by rfl, ?_⟩) ?_ ?_
                  rotate_left
                  · intro w'
                    go_simp
                    try with_reducible rfl
                  rotate_left
                  · simp only [Act.put, List.setIfInBounds_toArray, List.set_cons_zero, List.set_cons_succ, i64_w, i32_w]
                    rfl
                  refine take_ (i := 7) (N := some 85) (v := ?_) (a' := ?_) #[true, true, true, true, true, true, true, true, false, false, false, false, false] rfl rfl (by kernel_rfl) (fun _ _ _ h => h) (Or.inl ⟨by rfl, ?_⟩) hHeld ?_ ?_
                  rotate_left
                  · rintro w' hb
                    have g1 := (hb.cell (p := ⟨wr.heap.size, 1, none⟩) hwr7).trans (blk_cell Hp7.out 1)
                    simp only [List.getElem?_toArray, List.getElem?_cons_zero, List.getElem?_cons_succ] at g1
                    go_simp
                    try with_reducible rfl
                  rotate_left
                  · simp only [Act.put, List.setIfInBounds_toArray, List.set_cons_zero, List.set_cons_succ, i64_w, i32_w]
                    rfl
                  refine pure_ (i := 8) (N := some 86) (v := ?_) (a' := ?_) #[true, true, true, true, true, true, true, true, true, false, false, false, false] rfl rfl (by kernel_rfl) (fun _ _ _ h => h) (Or.inl ⟨by rfl, ?_⟩) ?_ ?_
                  rotate_left
                  · intro w'
                    go_simp
                    try with_reducible rfl
                  rotate_left
                  · simp only [Act.put, List.setIfInBounds_toArray, List.set_cons_zero, List.set_cons_succ, i64_w, i32_w]
                    rfl
                  refine take_ (i := 9) (N := some 87) (v := ?_) (a' := ?_) #[true, true, true, true, true, true, true, true, true, true, false, false, false] rfl rfl (by kernel_rfl) (fun _ _ _ h => h) (Or.inl ⟨by rfl, ?_⟩) hHeld ?_ ?_
                  rotate_left
                  · rintro w' hb
                    have g1 := (hb.cell (p := ⟨wr.heap.size, 2, none⟩) hwr7).trans (blk_cell Hp7.out 2)
                    simp only [List.getElem?_toArray, List.getElem?_cons_zero, List.getElem?_cons_succ] at g1
                    go_simp
                    try with_reducible rfl
                  rotate_left
                  · simp only [Act.put, List.setIfInBounds_toArray, List.set_cons_zero, List.set_cons_succ, i64_w, i32_w]
                    rfl
                  refine pure_ (i := 10) (N := some 88) (v := ?_) (a' := ?_) #[true, true, true, true, true, true, true, true, true, true, true, false, false] rfl rfl (by kernel_rfl) (fun _ _ _ h => h) (Or.inl ⟨by rfl, ?_⟩) ?_ ?_
                  rotate_left
                  · intro w'
                    go_simp
                    try with_reducible rfl
                  rotate_left
                  · simp only [Act.put, List.setIfInBounds_toArray, List.set_cons_zero, List.set_cons_succ, i64_w, i32_w]
                    rfl
                  refine last_ (i := 11) (N := some 89) #[true, true, true, true, true, true, true, true, true, true, true, true, false] rfl rfl (by kernel_rfl) (by decide) (fun K hK => ?_)
                  refine Kd.R_append_rows_step (Kd.int .u8) (w0 := w1) w1.heap.size (by rfl) (.tmp 78) (.tmp 88) 34 5 (.int .u8 0) 1 rfl Try.underlying34 info5 rfl (by decide) (by omega) u16 out l9 A9 l9.length c9 (fun _ => True) (fun _ => False) rfl rfl (Kd.R_drew HR7.out) (Kd.C_drew (HC9.out _ HC7.out)) (fun _ _ h => h) (fun _ h => h.elim) (fun _ _ => trivial) (below_drew HB17.out) (by have := HB17.out.size; simpa using this) (by omega) ?_
                  intro v8 w8 ho8 hb8 hg8 hat8
                  refine hK.out _ _ ?_
                  clear hK K
                  refine norm_ (a' := ?_) ?_ ?_
                  rotate_left
                  · show Act.put _ (some 89) _ = _
                    simp only [Act.put, List.setIfInBounds_toArray, List.set_cons_zero, List.set_cons_succ, i64_w, i32_w]
                    rfl
                  refine pure_ (i := 12) (N := some 16) (v := ?_) (a' := ?_) #[true, true, true, true, true, true, true, true, true, true, true, true, true] rfl rfl (by kernel_rfl) (fun _ _ _ h => h) (Or.inl ⟨by rfl, ?_⟩) ?_ ?_
                  rotate_left
                  · intro w'
                    go_simp
                    try with_reducible rfl
                  rotate_left
                  · simp only [Act.put, List.setIfInBounds_toArray, List.set_cons_zero, List.set_cons_succ, i64_w, i32_w]
                    rfl
                  refine done_ (by kernel_rfl) ?_
                  refine then_n ?_
                  have hg8 : w7.grownBy w8 u16.ownBlock := ⟨hg8.os, hg8.tape, hg8.output, hg8.size, hg8.block⟩
                  have hz8 := hg8.size
                  have hown := HR7.out
                  obtain ⟨inner, hown⟩ := Kd.R_own hown
                  have nrow : ∀ k cs t, w7.heap[k]? = some (.cells cs t (0, 0)) → t ≠ 5 → some k ≠ u16.ownBlock := fun k cs t hk ht e => by
                    obtain ⟨cs', hc'⟩ := own_typed hown k e.symm
                    rw [hk] at hc'
                    injection hc' with hc'
                    injection hc' with _ hc' _
                    exact ht hc'
                  have nD : some D ≠ u16.ownBlock := fun e => by
                    obtain ⟨cs', hc'⟩ := own_typed hown D e.symm
                    rw [HD7.out] at hc'
                    cases hc'
                  have HI8 : Hid (RInv w0 w1 size (some ad1) c1 l ch ps br D r1 r2 v8 (.int .i64 ((j + 1 : Nat) : Int)) w8) := Lib.hid
                    ⟨j + 1, n1, nb + 1, out ++ l9, V ++ [⟨x0, x1⟩], by omega, rfl, Lib.hid (HM17.out.grown (w' := w8) hg8 (HM17.out.ne_own hown)), Lib.hid (HM27.out.grown (w' := w8) hg8 (HM27.out.ne_own hown)), by omega, Lib.hid (fun y hy i' hi' => by
                      rcases List.mem_append.1 hy with hy | hy
                      · exact HV.out y hy i' hi'
                      · obtain rfl : y = ⟨x0, x1⟩ := by simpa using hy
                        rw [Hfi.out] at hi'
                        cases hi'
                        rw [hbsd.out]
                        exact hof), Lib.hid ho8, HE2, Lib.hid ((hg8.block _ (blk_lt HBx7.out) (nrow _ _ _ HBx7.out (by decide))).trans HBx7.out), Lib.hid ((hg8.block _ (blk_lt Hv7.out) (nrow _ _ _ Hv7.out (by decide))).trans Hv7.out), Lib.hid ((hg8.block _ (blk_lt HD7.out) nD).trans HD7.out),
                      Lib.hid (HB17.out.grown (w' := w8) hg8 (by omega) (fun k hk => own_base hown k hk)), by omega⟩
                  clear hHeld ho8 hb8 hg8 hat8 hown nrow nD hcut
                  go_wp2
                  go_roundw
                  case rel => exact HI8
                  case measure => simp [intOf]; omega
                · have Hlk : Hid (∀ w', Below w5.heap.size w5 w' → (Instr.lookup 95 (.map (some br)) (.agg #[.int .u64 x0, .int .i64 x1]) false).run Try.prog w' = .ok (.bool false) w') := Lib.hid (fun w' h => by
                    have := (HM25.out.below h).look hwf Try.underlying95 (zeroBool w')
                    rw [seenS_get V ⟨x0, x1⟩ false rfl, show decide (pr ⟨x0, x1⟩ ∈ V.map pr) = false by simpa using hV] at this
                    exact this)
                  clear hV
                  have hofc : Calls Try.prog 42 #[.slice Al bs.length cl] w5.drew fun e w' => e = .returned (.agg #[.int .u64 (fp bs), .int .i64 (bs.length : Int)]) ∧ Below w5.drew.heap.size w5.drew w' :=
                    of_c w5.drew (Kd.C_drew (Kd.C_below HCl.out (stepB (stepB HB1.out HB.out) hB5))) hcl Hbs.out hbl
                  have Hofc := Lib.hid hofc
                  have Hm5 := Lib.hid (((stepB (stepB HB1.out HB.out) hB5).cell (p := ⟨(adl.add (i * 3)).block, (adl.add (i * 3)).off + 2, none⟩) hm2l).trans Hm2.out)
                  have hm5l : (adl.add (i * 3)).block < w5.heap.size := by have h : (adl.add (i * 3)).block < w0.heap.size := hm2l; omega
                  have hil2 : (i : Int) < (l.length : Int) := by omega
                  have hil0 : (0 : Int) ≤ (i : Int) := by omega
                  clear hofc
                  by_cases hof : ofP bs = pr ⟨x0, x1⟩
                  · obtain ⟨⟨hb1, hb2, hb3, hb4⟩, hE2⟩ := (Hc2.out.resolve_left (fun h => h.1 hof)).2
                    have hq : (fp bs == x0 && (bs.length : Int) == x1) = true := by
                      have h := hof
                      simp only [ofP, pr, Prod.mk.injEq] at h
                      simp [h.1, h.2]
                    have Hqq := Lib.hid hq
                    clear hq
                    refine wp_normal ?_
                    refine start_ (n := 14) (S := fun w' => Below w5.heap.size w5 w') (ds := []) #[false, false, false, false, false, false, false, false, false, false, false, false, false, false] (by kernel_rfl) rfl rfl (below_drew (Below.refl _ _)) (fun hHeld => ?_)
                    refine pure_ (i := 0) (N := some 62) (v := ?_) (a' := ?_) #[true, false, false, false, false, false, false, false, false, false, false, false, false, false] rfl rfl (by kernel_rfl) (fun _ _ _ h => h) (Or.inl ⟨by rfl, ?_⟩) ?_ ?_
                    rotate_left
                    · intro w'
                      go_simp
                      try with_reducible rfl
                    rotate_left
                    · simp only [Act.put, List.setIfInBounds_toArray, List.set_cons_zero, List.set_cons_succ, i64_w, i32_w]
                      rfl
                    refine take_ (i := 1) (N := some 63) (v := ?_) (a' := ?_) #[true, true, false, false, false, false, false, false, false, false, false, false, false, false] rfl rfl (by kernel_rfl) (fun _ _ _ h => h) (Or.inl ⟨by rfl, ?_⟩) hHeld ?_ ?_
                    rotate_left
                    · rintro w' hb
                      have e0 := (hb.cell (p := ⟨wr.heap.size + 1, 0, none⟩) hlt19).trans Hq.out.1
                      have e1 := (hb.cell (p := ⟨wr.heap.size + 1, 1, none⟩) hlt19).trans Hq.out.2
                      go_simp
                      try with_reducible rfl
                    rotate_left
                    · simp only [Act.put, List.setIfInBounds_toArray, List.set_cons_zero, List.set_cons_succ, i64_w, i32_w]
                      rfl
                    refine take_ (i := 2) (N := some 64) (v := ?_) (a' := ?_) #[true, true, true, false, false, false, false, false, false, false, false, false, false, false] rfl rfl (by kernel_rfl) (fun _ _ _ h => h) (Or.inl ⟨by rfl, ?_⟩) hHeld ?_ ?_
                    rotate_left
                    · rintro w' hb
                      have hlk := Hlk.out _ hb
                      go_simp
                      try with_reducible rfl
                    rotate_left
                    · simp only [Act.put, List.setIfInBounds_toArray, List.set_cons_zero, List.set_cons_succ, i64_w, i32_w]
                      rfl
                    refine pure_ (i := 3) (N := some 65) (v := ?_) (a' := ?_) #[true, true, true, true, false, false, false, false, false, false, false, false, false, false] rfl rfl (by kernel_rfl) (fun _ _ _ h => h) (Or.inl ⟨by rfl, ?_⟩) ?_ ?_
                    rotate_left
                    · intro w'
                      go_simp
                      try with_reducible rfl
                    rotate_left
                    · simp only [Act.put, List.setIfInBounds_toArray, List.set_cons_zero, List.set_cons_succ, i64_w, i32_w]
                      rfl
                    refine pure_ (i := 4) (N := some 66) (v := ?_) (a' := ?_) #[true, true, true, true, true, false, false, false, false, false, false, false, false, false] rfl rfl (by kernel_rfl) (fun _ _ _ h => h) (Or.inl ⟨by rfl, ?_⟩) ?_ ?_
                    rotate_left
                    · intro w'
                      go_simp
                      try with_reducible rfl
                    rotate_left
                    · simp only [Act.put, List.setIfInBounds_toArray, List.set_cons_zero, List.set_cons_succ, i64_w, i32_w]
                      rfl
                    refine pure_ (i := 5) (N := some 67) (v := ?_) (a' := ?_) #[true, true, true, true, true, true, false, false, false, false, false, false, false, false] rfl rfl (by kernel_rfl) (fun _ _ _ h => h) (Or.inl ⟨by rfl, ?_⟩) ?_ ?_
                    rotate_left
                    · intro w'
                      go_simp
                      try with_reducible rfl
                    rotate_left
                    · simp only [Act.put, List.setIfInBounds_toArray, List.set_cons_zero, List.set_cons_succ, i64_w, i32_w]
                      rfl
                    refine pure_ (i := 6) (N := some 68) (v := ?_) (a' := ?_) #[true, true, true, true, true, true, true, false, false, false, false, false, false, false] rfl rfl (by kernel_rfl) (fun _ _ _ h => h) (Or.inl ⟨by rfl, ?_⟩) ?_ ?_
                    rotate_left
                    · intro w'
                      go_simp
                      try with_reducible rfl
                    rotate_left
                    · simp only [Act.put, List.setIfInBounds_toArray, List.set_cons_zero, List.set_cons_succ, i64_w, i32_w]
                      rfl
                    refine pure_ (i := 7) (N := some 69) (v := ?_) (a' := ?_) #[true, true, true, true, true, true, true, true, false, false, false, false, false, false] rfl rfl (by kernel_rfl) (fun _ _ _ h => h) (Or.inl ⟨by rfl, ?_⟩) ?_ ?_
                    rotate_left
                    · intro w'
                      go_simp
                      try with_reducible rfl
                    rotate_left
                    · simp only [Act.put, List.setIfInBounds_toArray, List.set_cons_zero, List.set_cons_succ, i64_w, i32_w]
                      rfl
                    refine pure_ (i := 8) (N := some 70) (v := ?_) (a' := ?_) #[true, true, true, true, true, true, true, true, true, false, false, false, false, false] rfl rfl (by kernel_rfl) (fun _ _ _ h => h) (Or.inl ⟨by rfl, ?_⟩) ?_ ?_
                    rotate_left
                    · intro w'
                      go_simp
                      try with_reducible rfl
                    rotate_left
                    · simp only [Act.put, List.setIfInBounds_toArray, List.set_cons_zero, List.set_cons_succ, i64_w, i32_w]
                      rfl
                    refine take_ (i := 9) (N := some 71) (v := ?_) (a' := ?_) #[true, true, true, true, true, true, true, true, true, true, false, false, false, false] rfl rfl (by kernel_rfl) (fun _ _ _ h => h) (Or.inl ⟨by rfl, ?_⟩) hHeld ?_ ?_
                    rotate_left
                    · rintro w' hb
                      have e2 := (hb.cell (p := ⟨(adl.add (i * 3)).block, (adl.add (i * 3)).off + 2, none⟩) hm5l).trans Hm5.out
                      go_simp
                      try with_reducible rfl
                    rotate_left
                    · simp only [Act.put, List.setIfInBounds_toArray, List.set_cons_zero, List.set_cons_succ, i64_w, i32_w]
                      rfl
                    refine take_ (i := 11) (N := some 73) (v := ?_) (a' := ?_) #[true, true, true, true, true, true, true, true, true, true, false, true, false, false] rfl rfl (by kernel_rfl) (fun _ _ _ h => h) (Or.inl ⟨by rfl, ?_⟩) hHeld ?_ ?_
                    rotate_left
                    · rintro w' hb
                      have e0 := (hb.cell (p := ⟨wr.heap.size + 1, 0, none⟩) hlt19).trans Hq.out.1
                      have e1 := (hb.cell (p := ⟨wr.heap.size + 1, 1, none⟩) hlt19).trans Hq.out.2
                      go_simp
                      try with_reducible rfl
                    rotate_left
                    · simp only [Act.put, List.setIfInBounds_toArray, List.set_cons_zero, List.set_cons_succ, i64_w, i32_w]
                      rfl
                    refine one_ (i := 10) (N := some 72) #[true, true, true, true, true, true, true, true, true, true, true, true, false, false] rfl rfl (by kernel_rfl) (by decide) (fun K hK => ?_)
                    refine goes_ Try.func42 (by kernel_rfl) rfl #[.slice Al bs.length cl] (by rfl) rfl rfl (by (try simp only [List.map_toArray, List.map_cons, List.map_nil]); first | done | rfl) ?_
                    refine Hofc.out.mono ?_
                    rintro e w6 ⟨rfl, hb6⟩
                    have hB6 : Below w5.heap.size w5 w6 := ⟨hb6.os, hb6.tape, hb6.output, hb6.size, hb6.block⟩
                    refine ⟨_, rfl, hK.out _ _ hB6 (fun hHeld => ?_)⟩
                    clear hK K hb6
                    refine norm_ (a' := ?_) ?_ ?_
                    rotate_left
                    · show Act.put _ (some 72) _ = _
                      simp only [Act.put, List.setIfInBounds_toArray, List.set_cons_zero, List.set_cons_succ, i64_w, i32_w]
                      rfl
                    have hqq := Hqq.out
                    refine pure_ (i := 12) (N := some 74) (v := ?_) (a' := ?_) #[true, true, true, true, true, true, true, true, true, true, true, true, true, false] rfl rfl (by kernel_rfl) (fun _ _ _ h => h) (Or.inl ⟨by rfl, ?_⟩) ?_ ?_
                    rotate_left
                    · intro w'
                      go_simp
                      try with_reducible rfl
                    rotate_left
                    · simp only [Act.put, List.setIfInBounds_toArray, List.set_cons_zero, List.set_cons_succ, i64_w, i32_w]
                      rfl
                    clear hqq
                    refine pure_ (i := 13) (N := some 75) (v := ?_) (a' := ?_) #[true, true, true, true, true, true, true, true, true, true, true, true, true, true] rfl rfl (by kernel_rfl) (fun _ _ _ h => h) (Or.inl ⟨by rfl, ?_⟩) ?_ ?_
                    rotate_left
                    · intro w'
                      go_simp
                      try with_reducible rfl
                    rotate_left
                    · simp only [Act.put, List.setIfInBounds_toArray, List.set_cons_zero, List.set_cons_succ, i64_w, i32_w]
                      rfl
                    refine done_ (by kernel_rfl) ?_
                    refine then_n ?_
                    clear hHeld
                    have HB6 := Lib.hid hB6
                    clear hB6
                    have hB6 := HB6.out
                    have hz6 := hB6.size
                    have B06 := stepB (stepB (stepB HB1.out HB.out) hB5) hB6
                    have e0 := (hB6.cell (p := ⟨wr.heap.size + 1, 0, none⟩) hlt19).trans Hq.out.1
                    have e1 := (hB6.cell (p := ⟨wr.heap.size + 1, 1, none⟩) hlt19).trans Hq.out.2
                    have HM26 := Lib.hid (HM25.out.below hB6)
                    go_wp2_with (at_mapUpdate; go_must (refine wpl_update rfl _ _ _ 95 4 rfl Try.underlying95 rfl (pr ⟨x0, x1⟩) rfl hwf (.bool true) rfl (by unfold maxLen; omega) HM26.out ?_); intro w7 hM7 hg7)
                    rw [seenS_put] at hM7
                    have hz7 := hg7.size
                    have B07 : Below w0.heap.size w0 w7 := B06.grown hg7 B06.size (fun k hk => by cases hk; omega)
                    have B17 : Below w1.heap.size w1 w7 := ((HB.out.trans (hB5.mono hzr)).trans (hB6.mono (by omega))).grown hg7 (by omega) (fun k hk => by cases hk; omega)
                    have hmv : ∀ k, k < w6.heap.size → k ≠ br → w7.heap[k]? = w6.heap[k]? := fun k hk hn => hg7.block k hk (fun e => hn (Option.some.inj e))
                    have Hmv := Lib.hid hmv
                    have HM17 := Lib.hid ((HM15.out.below hB6).move (hmv _ (by have := HM15.out.lt; omega) (by omega)))
                    have HM27 := Lib.hid hM7
                    have HR7 : Hid (Kd.R (Kd.int .u8) 5 w7 w1.heap.size (fun _ => True) u16 out) := Lib.hid (Kd.R_mono (Kd.R_grown (ok := fun k => True ∧ k ≠ br) (Kd.R_mono (Kd.R_bound (Kd.R_below HR5.out hB6)) (fun k hk => ⟨trivial, fun e => by
                      obtain ⟨_, _, _, q, _, cs, hc⟩ := hk
                      rw [e] at hc
                      exact HM26.out.not_row hc⟩)) hg7 (fun k hk e => hk.2 (Option.some.inj e))) (fun _ _ => trivial))
                    have HD7 : Hid (w7.heap[D]? = some (.deferred (some []))) := Lib.hid ((hmv D (by have := blk_lt HD5.out; omega) (by omega)).trans ((hB6.block D (blk_lt HD5.out)).trans HD5.out))
                    have HBx7 : Hid (w7.heap[w0.heap.size]? = some (.cells #[.int .i64 size, .slice (some ad1) ch.length c1] 31 (0, 0))) := Lib.hid ((hmv _ (by omega) (by omega)).trans ((hB6.block _ (by omega)).trans HBx5.out))
                    have Hv7 : Hid (w7.heap[w1.heap.size + 1]? = some (.cells #[.map (some w1.heap.size)] 91 (0, 0))) := Lib.hid ((hmv _ (by omega) (by omega)).trans ((hB6.block _ (by omega)).trans Hv5.out))
                    have Hp7 : Hid (w7.heap[wr.heap.size]? = some (.cells #[.int .i64 f0, .int .i64 f1, .int .i64 f2] 48 (0, 0))) := Lib.hid ((hmv _ (by omega) (by omega)).trans ((hB6.block _ (by omega)).trans Hc18.out))
                    have Hm7 := Lib.hid ((B07.cell (p := ⟨(adl.add (i * 3)).block, (adl.add (i * 3)).off + 2, none⟩) hm2l).trans Hm2.out)
                    have hm7l : (adl.add (i * 3)).block < w7.heap.size := by have := B07.size; have h : (adl.add (i * 3)).block < w0.heap.size := hm2l; omega
                    have HC7 := Lib.hid (Kd.C_below HCl.out B07)
                    have HB07 := Lib.hid B07
                    have HB17 := Lib.hid B17
                    clear e0 e1 hM7 hg7 B06 B07 B17 hmv hB6 hB5 hz5
                    obtain ⟨lo, rfl⟩ := Int.eq_ofNat_of_zero_le hb1
                    obtain ⟨hi, rfl⟩ := Int.eq_ofNat_of_zero_le (Int.le_trans hb1 hb2)
                    simp only [Int.toNat_natCast] at hE2
                    obtain ⟨i5, hi5, hz5', hs5, hy5⟩ := info_parts info5
                    obtain ⟨A9, c9, l9, h9, hc9, hC9, hcut⟩ := cut_r (Kd.int .u8) 34 5 Try.underlying34 hi5 hs5 Al cl bs lo hi (by omega) (by omega) hcl
                    have hl9 : l9.length ≤ bs.length := by rw [h9.out, List.length_drop, List.length_take]; omega
                    rw [← h9.out] at hE2
                    have HE2 := Lib.hid hE2
                    have HC9 := Lib.hid hC9
                    clear hE2 hC9
                    have hil2 : (i : Int) < (l.length : Int) := by omega
                    have hil0 : (0 : Int) ≤ (i : Int) := by omega
                    have hwr7 : wr.heap.size < w7.heap.size := by omega
                    refine wp_normal ?_
                    refine start_ (n := 13) (S := fun w' => Below w7.heap.size w7 w') (ds := [11]) #[false, false, false, false, false, false, false, false, false, false, false, false, false] (by kernel_rfl) rfl rfl (below_drew (Below.refl _ _)) (fun hHeld => ?_)
                    refine pure_ (i := 0) (N := some 78) (v := ?_) (a' := ?_) #[true, false, false, false, false, false, false, false, false, false, false, false, false] rfl rfl (by kernel_rfl) (fun _ _ _ h => h) (Or.inl ⟨by rfl, ?_⟩) ?_ ?_
                    rotate_left
                    · intro w'
                      go_simp
                      try with_reducible rfl
                    rotate_left
                    · simp only [Act.put, List.setIfInBounds_toArray, List.set_cons_zero, List.set_cons_succ, i64_w, i32_w]
                      rfl
                    refine pure_ (i := 1) (N := some 79) (v := ?_) (a' := ?_) #[true, true, false, false, false, false, false, false, false, false, false, false, false] rfl rfl (by kernel_rfl) (fun _ _ _ h => h) (Or.inl ⟨by rfl, ?_⟩) ?_ ?_
                    rotate_left
                    · intro w'
                      go_simp
                      try with_reducible rfl
                    rotate_left
                    · simp only [Act.put, List.setIfInBounds_toArray, List.set_cons_zero, List.set_cons_succ, i64_w, i32_w]
                      rfl
                    refine pure_ (i := 2) (N := some 80) (v := ?_) (a' := ?_) #[true, true, true, false, false, false, false, false, false, false, false, false, false] rfl rfl (by kernel_rfl) (fun _ _ _ h => h) (Or.inl ⟨by rfl, ?_⟩) ?_ ?_
                    rotate_left
                    · intro w'
                      go_simp
                      try with_reducible rfl
                    rotate_left
                    · simp only [Act.put, List.setIfInBounds_toArray, List.set_cons_zero, List.set_cons_succ, i64_w, i32_w]
                      rfl
                    refine pure_ (i := 3) (N := some 81) (v := ?_) (a' := ?_) #[true, true, true, true, false, false, false, false, false, false, false, false, false] rfl rfl (by kernel_rfl) (fun _ _ _ h => h) (Or.inl ⟨by rfl, ?_⟩) ?_ ?_
                    rotate_left
                    · intro w'
                      go_simp
                      try with_reducible rfl
                    rotate_left
                    · simp only [Act.put, List.setIfInBounds_toArray, List.set_cons_zero, List.set_cons_succ, i64_w, i32_w]
                      rfl
                    refine pure_ (i := 4) (N := some 82) (v := ?_) (a' := ?_) #[true, true, true, true, true, false, false, false, false, false, false, false, false] rfl rfl (by kernel_rfl) (fun _ _ _ h => h) (Or.inl ⟨by rfl, ?_⟩) ?_ ?_
                    rotate_left
                    · intro w'
                      go_simp
                      try with_reducible rfl
                    rotate_left
                    · simp only [Act.put, List.setIfInBounds_toArray, List.set_cons_zero, List.set_cons_succ, i64_w, i32_w]
                      rfl
                    refine take_ (i := 5) (N := some 83) (v := ?_) (a' := ?_) #[true, true, true, true, true, true, false, false, false, false, false, false, false] rfl rfl (by kernel_rfl) (fun _ _ _ h => h) (Or.inl ⟨by rfl, ?_⟩) hHeld ?_ ?_
                    rotate_left
                    · rintro w' hb
                      have e2 := (hb.cell (p := ⟨(adl.add (i * 3)).block, (adl.add (i * 3)).off + 2, none⟩) hm7l).trans Hm7.out
                      go_simp
                      try with_reducible rfl
                    rotate_left
                    · simp only [Act.put, List.setIfInBounds_toArray, List.set_cons_zero, List.set_cons_succ, i64_w, i32_w]
                      rfl
                    refine pure_ (i := 6) (N := some 84) (v := ?_) (a' := ?_) #[true, true, true, true, true, true, true, false, false, false, false, false, false] rfl rfl (by kernel_rfl) (fun _ _ _ h => h) (Or.inl ⟨by rfl, ?_⟩) ?_ ?_
                    rotate_left
                    · intro w'
                      go_simp
                      try with_reducible rfl
                    rotate_left
                    · simp only [Act.put, List.setIfInBounds_toArray, List.set_cons_zero, List.set_cons_succ, i64_w, i32_w]
                      rfl
                    refine take_ (i := 7) (N := some 85) (v := ?_) (a' := ?_) #[true, true, true, true, true, true, true, true, false, false, false, false, false] rfl rfl (by kernel_rfl) (fun _ _ _ h => h) (Or.inl ⟨by rfl, ?_⟩) hHeld ?_ ?_
                    rotate_left
                    · rintro w' hb
                      have g1 := (hb.cell (p := ⟨wr.heap.size, 1, none⟩) hwr7).trans (blk_cell Hp7.out 1)
                      simp only [List.getElem?_toArray, List.getElem?_cons_zero, List.getElem?_cons_succ] at g1
                      go_simp
                      try with_reducible rfl
                    rotate_left
                    · simp only [Act.put, List.setIfInBounds_toArray, List.set_cons_zero, List.set_cons_succ, i64_w, i32_w]
                      rfl
                    refine pure_ (i := 8) (N := some 86) (v := ?_) (a' := ?_) #[true, true, true, true, true, true, true, true, true, false, false, false, false] rfl rfl (by kernel_rfl) (fun _ _ _ h => h) (Or.inl ⟨by rfl, ?_⟩) ?_ ?_
                    rotate_left
                    · intro w'
                      go_simp
                      try with_reducible rfl
                    rotate_left
                    · simp only [Act.put, List.setIfInBounds_toArray, List.set_cons_zero, List.set_cons_succ, i64_w, i32_w]
                      rfl
                    refine take_ (i := 9) (N := some 87) (v := ?_) (a' := ?_) #[true, true, true, true, true, true, true, true, true, true, false, false, false] rfl rfl (by kernel_rfl) (fun _ _ _ h => h) (Or.inl ⟨by rfl, ?_⟩) hHeld ?_ ?_
                    rotate_left
                    · rintro w' hb
                      have g1 := (hb.cell (p := ⟨wr.heap.size, 2, none⟩) hwr7).trans (blk_cell Hp7.out 2)
                      simp only [List.getElem?_toArray, List.getElem?_cons_zero, List.getElem?_cons_succ] at g1
                      go_simp
                      try with_reducible rfl
                    rotate_left
                    · simp only [Act.put, List.setIfInBounds_toArray, List.set_cons_zero, List.set_cons_succ, i64_w, i32_w]
                      rfl
                    refine pure_ (i := 10) (N := some 88) (v := ?_) (a' := ?_) #[true, true, true, true, true, true, true, true, true, true, true, false, false] rfl rfl (by kernel_rfl) (fun _ _ _ h => h) (Or.inl ⟨by rfl, ?_⟩) ?_ ?_
                    rotate_left
                    · intro w'
                      go_simp
                      try with_reducible rfl
                    rotate_left
                    · simp only [Act.put, List.setIfInBounds_toArray, List.set_cons_zero, List.set_cons_succ, i64_w, i32_w]
                      rfl
                    refine last_ (i := 11) (N := some 89) #[true, true, true, true, true, true, true, true, true, true, true, true, false] rfl rfl (by kernel_rfl) (by decide) (fun K hK => ?_)
                    refine Kd.R_append_rows_step (Kd.int .u8) (w0 := w1) w1.heap.size (by rfl) (.tmp 78) (.tmp 88) 34 5 (.int .u8 0) 1 rfl Try.underlying34 info5 rfl (by decide) (by omega) u16 out l9 A9 l9.length c9 (fun _ => True) (fun _ => False) rfl rfl (Kd.R_drew HR7.out) (Kd.C_drew (HC9.out _ HC7.out)) (fun _ _ h => h) (fun _ h => h.elim) (fun _ _ => trivial) (below_drew HB17.out) (by have := HB17.out.size; simpa using this) (by omega) ?_
                    intro v8 w8 ho8 hb8 hg8 hat8
                    refine hK.out _ _ ?_
                    clear hK K
                    refine norm_ (a' := ?_) ?_ ?_
                    rotate_left
                    · show Act.put _ (some 89) _ = _
                      simp only [Act.put, List.setIfInBounds_toArray, List.set_cons_zero, List.set_cons_succ, i64_w, i32_w]
                      rfl
                    refine pure_ (i := 12) (N := some 16) (v := ?_) (a' := ?_) #[true, true, true, true, true, true, true, true, true, true, true, true, true] rfl rfl (by kernel_rfl) (fun _ _ _ h => h) (Or.inl ⟨by rfl, ?_⟩) ?_ ?_
                    rotate_left
                    · intro w'
                      go_simp
                      try with_reducible rfl
                    rotate_left
                    · simp only [Act.put, List.setIfInBounds_toArray, List.set_cons_zero, List.set_cons_succ, i64_w, i32_w]
                      rfl
                    refine done_ (by kernel_rfl) ?_
                    refine then_n ?_
                    have hg8 : w7.grownBy w8 u16.ownBlock := ⟨hg8.os, hg8.tape, hg8.output, hg8.size, hg8.block⟩
                    have hz8 := hg8.size
                    have hown := HR7.out
                    obtain ⟨inner, hown⟩ := Kd.R_own hown
                    have nrow : ∀ k cs t, w7.heap[k]? = some (.cells cs t (0, 0)) → t ≠ 5 → some k ≠ u16.ownBlock := fun k cs t hk ht e => by
                      obtain ⟨cs', hc'⟩ := own_typed hown k e.symm
                      rw [hk] at hc'
                      injection hc' with hc'
                      injection hc' with _ hc' _
                      exact ht hc'
                    have nD : some D ≠ u16.ownBlock := fun e => by
                      obtain ⟨cs', hc'⟩ := own_typed hown D e.symm
                      rw [HD7.out] at hc'
                      cases hc'
                    have HI8 : Hid (RInv w0 w1 size (some ad1) c1 l ch ps br D r1 r2 v8 (.int .i64 ((j + 1 : Nat) : Int)) w8) := Lib.hid
                      ⟨j + 1, n1, nb + 1, out ++ l9, V ++ [⟨x0, x1⟩], by omega, rfl, Lib.hid (HM17.out.grown (w' := w8) hg8 (HM17.out.ne_own hown)), Lib.hid (HM27.out.grown (w' := w8) hg8 (HM27.out.ne_own hown)), by omega, Lib.hid (fun y hy i' hi' => by
                        rcases List.mem_append.1 hy with hy | hy
                        · exact HV.out y hy i' hi'
                        · obtain rfl : y = ⟨x0, x1⟩ := by simpa using hy
                          rw [Hfi.out] at hi'
                          cases hi'
                          rw [hbsd.out]
                          exact hof), Lib.hid ho8, HE2, Lib.hid ((hg8.block _ (blk_lt HBx7.out) (nrow _ _ _ HBx7.out (by decide))).trans HBx7.out), Lib.hid ((hg8.block _ (blk_lt Hv7.out) (nrow _ _ _ Hv7.out (by decide))).trans Hv7.out), Lib.hid ((hg8.block _ (blk_lt HD7.out) nD).trans HD7.out),
                        Lib.hid (HB17.out.grown (w' := w8) hg8 (by omega) (fun k hk => own_base hown k hk)), by omega⟩
                    clear hHeld ho8 hb8 hg8 hat8 hown nrow nD hcut
                    go_wp2
                    go_roundw
                    case rel => exact HI8
                    case measure => simp [intOf]; omega
                  · obtain ⟨_, rfl, rfl⟩ := Hc2.out.resolve_right (fun h => hof h.1)
                    have hq : (fp bs == x0 && (bs.length : Int) == x1) = false := by
                      have h := hof
                      simp only [ofP, pr, Prod.mk.injEq] at h
                      simpa using h
                    have Hqq := Lib.hid hq
                    clear hq
                    refine wp_normal ?_
                    refine start_ (n := 14) (S := fun w' => Below w5.heap.size w5 w') (ds := []) #[false, false, false, false, false, false, false, false, false, false, false, false, false, false] (by kernel_rfl) rfl rfl (below_drew (Below.refl _ _)) (fun hHeld => ?_)
                    refine pure_ (i := 0) (N := some 62) (v := ?_) (a' := ?_) #[true, false, false, false, false, false, false, false, false, false, false, false, false, false] rfl rfl (by kernel_rfl) (fun _ _ _ h => h) (Or.inl ⟨by rfl, ?_⟩) ?_ ?_
                    rotate_left
                    · intro w'
                      go_simp
                      try with_reducible rfl
                    rotate_left
                    · simp only [Act.put, List.setIfInBounds_toArray, List.set_cons_zero, List.set_cons_succ, i64_w, i32_w]
                      rfl
                    refine take_ (i := 1) (N := some 63) (v := ?_) (a' := ?_) #[true, true, false, false, false, false, false, false, false, false, false, false, false, false] rfl rfl (by kernel_rfl) (fun _ _ _ h => h) (Or.inl ⟨by rfl, ?_⟩) hHeld ?_ ?_
                    rotate_left
                    · rintro w' hb
                      have e0 := (hb.cell (p := ⟨wr.heap.size + 1, 0, none⟩) hlt19).trans Hq.out.1
                      have e1 := (hb.cell (p := ⟨wr.heap.size + 1, 1, none⟩) hlt19).trans Hq.out.2
                      go_simp
                      try with_reducible rfl
                    rotate_left
                    · simp only [Act.put, List.setIfInBounds_toArray, List.set_cons_zero, List.set_cons_succ, i64_w, i32_w]
                      rfl
                    refine take_ (i := 2) (N := some 64) (v := ?_) (a' := ?_) #[true, true, true, false, false, false, false, false, false, false, false, false, false, false] rfl rfl (by kernel_rfl) (fun _ _ _ h => h) (Or.inl ⟨by rfl, ?_⟩) hHeld ?_ ?_
                    rotate_left
                    · rintro w' hb
                      have hlk := Hlk.out _ hb
                      go_simp
                      try with_reducible rfl
                    rotate_left
                    · simp only [Act.put, List.setIfInBounds_toArray, List.set_cons_zero, List.set_cons_succ, i64_w, i32_w]
                      rfl
                    refine pure_ (i := 3) (N := some 65) (v := ?_) (a' := ?_) #[true, true, true, true, false, false, false, false, false, false, false, false, false, false] rfl rfl (by kernel_rfl) (fun _ _ _ h => h) (Or.inl ⟨by rfl, ?_⟩) ?_ ?_
                    rotate_left
                    · intro w'
                      go_simp
                      try with_reducible rfl
                    rotate_left
                    · simp only [Act.put, List.setIfInBounds_toArray, List.set_cons_zero, List.set_cons_succ, i64_w, i32_w]
                      rfl
                    refine pure_ (i := 4) (N := some 66) (v := ?_) (a' := ?_) #[true, true, true, true, true, false, false, false, false, false, false, false, false, false] rfl rfl (by kernel_rfl) (fun _ _ _ h => h) (Or.inl ⟨by rfl, ?_⟩) ?_ ?_
                    rotate_left
                    · intro w'
                      go_simp
                      try with_reducible rfl
                    rotate_left
                    · simp only [Act.put, List.setIfInBounds_toArray, List.set_cons_zero, List.set_cons_succ, i64_w, i32_w]
                      rfl
                    refine pure_ (i := 5) (N := some 67) (v := ?_) (a' := ?_) #[true, true, true, true, true, true, false, false, false, false, false, false, false, false] rfl rfl (by kernel_rfl) (fun _ _ _ h => h) (Or.inl ⟨by rfl, ?_⟩) ?_ ?_
                    rotate_left
                    · intro w'
                      go_simp
                      try with_reducible rfl
                    rotate_left
                    · simp only [Act.put, List.setIfInBounds_toArray, List.set_cons_zero, List.set_cons_succ, i64_w, i32_w]
                      rfl
                    refine pure_ (i := 6) (N := some 68) (v := ?_) (a' := ?_) #[true, true, true, true, true, true, true, false, false, false, false, false, false, false] rfl rfl (by kernel_rfl) (fun _ _ _ h => h) (Or.inl ⟨by rfl, ?_⟩) ?_ ?_
                    rotate_left
                    · intro w'
                      go_simp
                      try with_reducible rfl
                    rotate_left
                    · simp only [Act.put, List.setIfInBounds_toArray, List.set_cons_zero, List.set_cons_succ, i64_w, i32_w]
                      rfl
                    refine pure_ (i := 7) (N := some 69) (v := ?_) (a' := ?_) #[true, true, true, true, true, true, true, true, false, false, false, false, false, false] rfl rfl (by kernel_rfl) (fun _ _ _ h => h) (Or.inl ⟨by rfl, ?_⟩) ?_ ?_
                    rotate_left
                    · intro w'
                      go_simp
                      try with_reducible rfl
                    rotate_left
                    · simp only [Act.put, List.setIfInBounds_toArray, List.set_cons_zero, List.set_cons_succ, i64_w, i32_w]
                      rfl
                    refine pure_ (i := 8) (N := some 70) (v := ?_) (a' := ?_) #[true, true, true, true, true, true, true, true, true, false, false, false, false, false] rfl rfl (by kernel_rfl) (fun _ _ _ h => h) (Or.inl ⟨by rfl, ?_⟩) ?_ ?_
                    rotate_left
                    · intro w'
                      go_simp
                      try with_reducible rfl
                    rotate_left
                    · simp only [Act.put, List.setIfInBounds_toArray, List.set_cons_zero, List.set_cons_succ, i64_w, i32_w]
                      rfl
                    refine take_ (i := 9) (N := some 71) (v := ?_) (a' := ?_) #[true, true, true, true, true, true, true, true, true, true, false, false, false, false] rfl rfl (by kernel_rfl) (fun _ _ _ h => h) (Or.inl ⟨by rfl, ?_⟩) hHeld ?_ ?_
                    rotate_left
                    · rintro w' hb
                      have e2 := (hb.cell (p := ⟨(adl.add (i * 3)).block, (adl.add (i * 3)).off + 2, none⟩) hm5l).trans Hm5.out
                      go_simp
                      try with_reducible rfl
                    rotate_left
                    · simp only [Act.put, List.setIfInBounds_toArray, List.set_cons_zero, List.set_cons_succ, i64_w, i32_w]
                      rfl
                    refine take_ (i := 11) (N := some 73) (v := ?_) (a' := ?_) #[true, true, true, true, true, true, true, true, true, true, false, true, false, false] rfl rfl (by kernel_rfl) (fun _ _ _ h => h) (Or.inl ⟨by rfl, ?_⟩) hHeld ?_ ?_
                    rotate_left
                    · rintro w' hb
                      have e0 := (hb.cell (p := ⟨wr.heap.size + 1, 0, none⟩) hlt19).trans Hq.out.1
                      have e1 := (hb.cell (p := ⟨wr.heap.size + 1, 1, none⟩) hlt19).trans Hq.out.2
                      go_simp
                      try with_reducible rfl
                    rotate_left
                    · simp only [Act.put, List.setIfInBounds_toArray, List.set_cons_zero, List.set_cons_succ, i64_w, i32_w]
                      rfl
                    refine one_ (i := 10) (N := some 72) #[true, true, true, true, true, true, true, true, true, true, true, true, false, false] rfl rfl (by kernel_rfl) (by decide) (fun K hK => ?_)
                    refine goes_ Try.func42 (by kernel_rfl) rfl #[.slice Al bs.length cl] (by rfl) rfl rfl (by (try simp only [List.map_toArray, List.map_cons, List.map_nil]); first | done | rfl) ?_
                    refine Hofc.out.mono ?_
                    rintro e w6 ⟨rfl, hb6⟩
                    have hB6 : Below w5.heap.size w5 w6 := ⟨hb6.os, hb6.tape, hb6.output, hb6.size, hb6.block⟩
                    refine ⟨_, rfl, hK.out _ _ hB6 (fun hHeld => ?_)⟩
                    clear hK K hb6
                    refine norm_ (a' := ?_) ?_ ?_
                    rotate_left
                    · show Act.put _ (some 72) _ = _
                      simp only [Act.put, List.setIfInBounds_toArray, List.set_cons_zero, List.set_cons_succ, i64_w, i32_w]
                      rfl
                    have hqq := Hqq.out
                    refine pure_ (i := 12) (N := some 74) (v := ?_) (a' := ?_) #[true, true, true, true, true, true, true, true, true, true, true, true, true, false] rfl rfl (by kernel_rfl) (fun _ _ _ h => h) (Or.inl ⟨by rfl, ?_⟩) ?_ ?_
                    rotate_left
                    · intro w'
                      go_simp
                      try with_reducible rfl
                    rotate_left
                    · simp only [Act.put, List.setIfInBounds_toArray, List.set_cons_zero, List.set_cons_succ, i64_w, i32_w]
                      rfl
                    clear hqq
                    refine pure_ (i := 13) (N := some 75) (v := ?_) (a' := ?_) #[true, true, true, true, true, true, true, true, true, true, true, true, true, true] rfl rfl (by kernel_rfl) (fun _ _ _ h => h) (Or.inl ⟨by rfl, ?_⟩) ?_ ?_
                    rotate_left
                    · intro w'
                      go_simp
                      try with_reducible rfl
                    rotate_left
                    · simp only [Act.put, List.setIfInBounds_toArray, List.set_cons_zero, List.set_cons_succ, i64_w, i32_w]
                      rfl
                    refine done_ (by kernel_rfl) ?_
                    refine then_n ?_
                    clear hHeld
                    have hB6' := Lib.hid hB6
                    go_wp2_with fail
                    have hD6 := (hB6'.out.block D (blk_lt HD5.out)).trans HD5.out
                    refine ⟨by simp, .inl ⟨_, _, rfl, run_takeDeferred hD6, ?_⟩⟩
                    exact ⟨_, results_tmp2 rfl _ _ _, leave_post (by omega) HB1.out ((HB.out.trans (hB5.mono hzr)).trans (hB6'.out.mono (by omega))) hD hsn hD6 (Kd.R_nil _ _ _ _ _)⟩
            · obtain rfl : j = ps.length := by omega
              have hE := HE.out
              rw [List.drop_length] at hE
              unfold rg at hE
              simp only [Option.some.injEq, Prod.mk.injEq] at hE
              obtain ⟨rfl, rfl⟩ := hE
              clear HE
              go_wp2_with fail
              refine ⟨by simp, .inl ⟨_, _, rfl, run_takeDeferred HD.out, ?_⟩⟩
              exact ⟨_, results_tmp2 rfl _ _ _, leave_post (by omega) HB1.out HB.out hD hsn HD.out HR.out⟩
        case stop =>
          rintro D c pre W _ _ h _
          exact h.elim
      · rw [if_neg hpl] at h
        cases h
    · rw [if_neg he] at h
      simp only [Option.some.injEq, Prod.mk.injEq] at h
      obtain ⟨rfl, rfl⟩ := h
      have he1 : (e1 == 0) = false := by simpa using he
      have he2 : (e1 != 0) = true := by simpa using he
      go_wp2_with fail
      have B0 : Below w0.heap.size w0 (w0.alloc (.cells #[.int .i64 size, .slice A1 ch.length c1] 31 (0, 0))) := (Below.refl w0.heap.size w0).alloc (Nat.le_refl _) _
      refine (manifest_Slice.calls (ch.length + 2) _ _ _ _ _ _ _ _ _ (Kd.C_below hr1 B0) hc1 Hs.out).mono ?_
      rintro e w1 ⟨v1, rfl, hR1, hb1⟩
      have B1 := stepB B0 hb1
      go_wp2_with fail
      exact ⟨_, results_tmp2 rfl _ _ _, _, rfl, Kd.R_nil _ _ _ _ _, B1⟩
  · rw [if_neg hG] at h
    cases h
end Go.Proofs.Ytleapbbdpediiaa.Rg
