-- What this claim does not use is left out (shake.py).
import Derived.Test.YtleapbbdpediiaaProg
import Derived.Test.YtleapbbdpediiaaWWords
import Derived.Maps.OwnOps
import Derived.Maps.OwnSet
import Derived.Maps.Range
import Derived.DeepKeys4
import Derived.Lib.Hide
import Derived.Test.YtleapbbdpediiaaFc
import Derived.LoopTactic
import Derived.Deep.DeepMust
import Derived.Outline
import Derived.Test.YtleapbbdpediiaaPxf45
/- Maps whose keys are IDs: what they hold, as a function of the ID; the laws of their operations. -/
namespace Go.Proofs.Ytleapbbdpediiaa.Mp
open Go.RowKit Go.Maps Go.Proofs.YtleapbbdpediiaaW.PrintWords
set_option linter.unusedVariables false
set_option linter.unusedSimpArgs false
/-- An ID as a value. -/
def idV (x : Int × Int) : Value := .agg #[.int .u64 x.1, .int .i64 x.2]
def WfI (x : Int × Int) : Prop := (Lit.int .u64 x.1).wf = true ∧ (Lit.int .i64 x.2).wf = true
theorem idV_inj {x y : Int × Int} (h : idV x = idV y) : x = y := by
  simp [idV] at h
  exact Prod.ext h.1 h.2
theorem laidOut : laidOutB Try.prog = true := by kernel_rfl
theorem keyed : Keyed Try.prog 51 := Keyed.of_law (deep_law_laid laidOut (m := 100) (by omega) (of_decide_eq_true (by kernel_rfl)) (by kernel_rfl) (by kernel_rfl))
theorem key_some (x : Int × Int) (h : WfI x) : ∃ l, keyOf Try.prog 51 (idV x) = some l := by
  have h1 : Try.prog.keyType 51 = true := by kernel_rfl
  have h2 : Try.prog.cellsOf 51 = 2 := by kernel_rfl
  have h3 : Try.prog.cellsOf 49 = 1 := by kernel_rfl
  have h4 : Try.prog.cellsOf 3 = 1 := by kernel_rfl
  have hu := Try.underlying51
  have hs := Try.underlying49
  have hn := Try.underlying3
  have h0 : 0 < Try.prog.types.size := of_decide_eq_true (by kernel_rfl)
  have hz := Nat.exists_eq_add_one.2 h0
  obtain ⟨m, hm⟩ := hz
  have hf : (idV x).formed Try.prog 51 = true := by simp [idV, Value.formed, hu, h2]
  unfold keyOf
  rw [hu]
  simp only [h1, hf, Bool.and_self, if_true, hm]
  have w1 := h.1
  have w2 := h.2
  simp [Program.keyLits, hu, h2, h3, h4, hs, hn, idV, Value.cells, w1, w2]
theorem key_lit {x : Int × Int} {l : Lit} (h : keyOf Try.prog 51 (idV x) = some l) : WideAt.IsKeyLit l := keyed.key h
theorem key_ne {x y : Int × Int} {l l' : Lit} (h : keyOf Try.prog 51 (idV x) = some l) (h' : keyOf Try.prog 51 (idV y) = some l') (hne : x ≠ y) : l ≠ l' := fun e => by
  subst e
  exact hne (idV_inj (keyed.inj h h'))
/-- Any value, as it stands. -/
def RV (v : Value) : Option (DataW Value × List MemPlace) := some (.held v, [])
theorem RV_inv {v : Value} {d : DataW Value} {ps : List MemPlace} (h : RV v = some (d, ps)) : d = .held v := by
  simp only [RV, Option.some.injEq, Prod.mk.injEq] at h
  exact h.1.symm
/-- Block b of w is a map from IDs, of at most n entries, that holds m. -/
def Mp (w : World) (b n : Nat) (m : Int × Int → Option Value) : Prop :=
  ∃ D : DataW Value, w.ownsMap Try.prog 51 RV b n D ∧ ∀ x, WfI x → ∀ l, keyOf Try.prog 51 (idV x) = some l →
    Maps.has D l = (m x).isSome ∧ ∀ z : Value, D.atKey l (.held z) = .held ((m x).getD z)
section
variable {w w' : World} {b n : Nat} {m : Int × Int → Option Value}
theorem Mp.made (w : World) : Mp (w.alloc (.map #[] 0)) w.heap.size 0 (fun _ => none) :=
  ⟨.map [], World.ownsMap_made w _ _ _, fun x _ l _ => ⟨rfl, fun z => rfl⟩⟩
theorem Mp.lt (h : Mp w b n m) : b < w.heap.size := by
  obtain ⟨D, h1, _⟩ := h
  exact h1.lt
theorem Mp.move (h : Mp w b n m) (hm : w'.heap[b]? = w.heap[b]?) : Mp w' b n m := by
  obtain ⟨D, ⟨es, clock, hb, F, hs, hD⟩, h2⟩ := h
  exact ⟨D, ⟨es, clock, hm.trans hb, F, hs, hD⟩, h2⟩
theorem Mp.congr {m' : Int × Int → Option Value} (h : Mp w b n m) (hm : ∀ x, WfI x → m x = m' x) : Mp w b n m' := by
  obtain ⟨D, h1, h2⟩ := h
  exact ⟨D, h1, fun x hx l hl => by rw [← hm x hx]; exact h2 x hx l hl⟩
theorem Mp.grown {row : Option Nat} (h : Mp w b n m) (hg : w.grownBy w' row) (hne : some b ≠ row) : Mp w' b n m := h.move (hg.block b h.lt hne)
theorem Mp.below (h : Mp w b n m) (hb : Below w.heap.size w w') : Mp w' b n m := h.move (hb.block b h.lt)
theorem Mp.alloc (h : Mp w b n m) (o : Obj) : Mp (w.alloc o) b n m := h.below ((Below.refl _ _).alloc (Nat.le_refl _) _)
/-- A map's block is no row's. -/
theorem Mp.not_row (h : Mp w b n m) {cs : Array Value} {t : TypeId} {fz : Nat × Nat} : w.heap[b]? ≠ some (.cells cs t fz) := by
  obtain ⟨D, ⟨es, clock, hb, _⟩, _⟩ := h
  rw [hb]
  intro h
  cases h
theorem Mp.ne_own {base size k : Nat} {e : TypeId} {v : Value} {xs : List Value} (h : Mp w b n m) (ho : w.ownsRow base e size v k xs) : some b ≠ v.ownBlock := fun he => by
  obtain ⟨cs, hcs⟩ := own_typed ho b he.symm
  exact h.not_row hcs
theorem Mp.look (h : Mp w b n m) {x : Int × Int} (hx : WfI x) {t e : TypeId} (ht : Try.prog.underlying t = some (.map 51 e)) {z : Value} (hz : (zeroValue e).run Try.prog w = .ok z w) :
    (Instr.lookup t (.map (some b)) (idV x) false).run Try.prog w = .ok ((m x).getD z) w := by
  obtain ⟨D, h1, h2⟩ := h
  obtain ⟨l, hl⟩ := key_some x hx
  obtain ⟨v, ps, hrun, hv⟩ := h1.lookup keyed ht hz (zd := .held z) (zp := []) rfl hl
  have e := DataW.held.inj (((h2 x hx l hl).2 z).symm.trans (RV_inv hv))
  subst e
  exact hrun
theorem Mp.look_ok (h : Mp w b n m) {x : Int × Int} (hx : WfI x) {t e : TypeId} (ht : Try.prog.underlying t = some (.map 51 e)) {z : Value} (hz : (zeroValue e).run Try.prog w = .ok z w) :
    (Instr.lookup t (.map (some b)) (idV x) true).run Try.prog w = .ok (.tuple #[(m x).getD z, .bool (m x).isSome]) w := by
  obtain ⟨D, h1, h2⟩ := h
  obtain ⟨l, hl⟩ := key_some x hx
  obtain ⟨v, ps, hrun, hv⟩ := h1.look_ok keyed ht hz (zd := .held z) (zp := []) rfl hl
  have e := DataW.held.inj (((h2 x hx l hl).2 z).symm.trans (RV_inv hv))
  subst e
  have e1 := (h2 x hx l hl).1
  rw [← e1]
  exact hrun
/-- What is put in. -/
def put (m : Int × Int → Option Value) (x : Int × Int) (v : Value) : Int × Int → Option Value := fun y => if y = x then some v else m y
theorem Mp.update (h : Mp w b n m) {x : Int × Int} (hx : WfI x) {t e : TypeId} (ht : Try.prog.underlying t = some (.map 51 e)) (hn : n < maxLen) (v : Value) :
    ∃ w', (Instr.mapUpdate t (.map (some b)) (idV x) v).run Try.prog w = .ok () w' ∧ Mp w' b (n + 1) (put m x v) ∧ w.grownBy w' (some b) := by
  obtain ⟨D, h1, h2⟩ := h
  obtain ⟨l, hl⟩ := key_some x hx
  obtain ⟨w', hrun, h3, hg⟩ := h1.update keyed ht hn (d := .held v) (ps := []) hl rfl
  refine ⟨w', hrun, ⟨_, h3, fun y hy l' hl' => ?_⟩, hg⟩
  unfold put
  by_cases hxy : y = x
  · subst hxy
    rw [hl] at hl'
    cases hl'
    rw [if_pos rfl]
    exact ⟨Maps.has_put_same h1.isMap (key_lit hl) _, fun z => Maps.atKey_put_same h1.isMap (key_lit hl) _ _⟩
  · rw [if_neg hxy]
    have hne : l' ≠ l := key_ne hl' hl hxy
    rw [Maps.has_put_other hne]
    refine ⟨(h2 y hy l' hl').1, fun z => ?_⟩
    rw [Maps.atKey_put_other hne]
    exact (h2 y hy l' hl').2 z
end
section
variable {w : World} {ops : Array Oper} {rest : List Oper} {o : Oper} {a : Act} {Q : Exit → Act → World → Prop} {b n : Nat} {m : Int × Int → Option Value}
theorem wpl_look_ok (hg : o.guard = none) (p q : Operand) (t e : TypeId) (hop : o.op = Op.lookup t p q true) (ht : Try.prog.underlying t = some (.map 51 e)) {z : Value} (hz : (zeroValue e).run Try.prog w = .ok z w)
    (hm : a.eval p = .map (some b)) (x : Int × Int) (hq : a.eval q = idV x) (hx : WfI x) (h : Mp w b n m) (hK : wpList Try.prog ops Q rest (a.put o.dst (.tuple #[(m x).getD z, .bool (m x).isSome])) w) : wpList Try.prog ops Q (o :: rest) a w := by
  refine wpList_plain hg fun K' hK' => ?_
  have hrun := h.look_ok hx ht hz
  unfold Oper.wp
  simp [execOp, hop, hm, hq, hrun, Result.andThen]
  exact hK' _ _ hK
theorem wpl_update (hg : o.guard = none) (p q r : Operand) (t e : TypeId) (hop : o.op = Op.mapUpdate t p q r) (ht : Try.prog.underlying t = some (.map 51 e)) (hm : a.eval p = .map (some b)) (x : Int × Int) (hq : a.eval q = idV x) (hx : WfI x) (v : Value) (hv : a.eval r = v)
    (hn : n < maxLen) (h : Mp w b n m) (hK : ∀ w', Mp w' b (n + 1) (put m x v) → w.grownBy w' (some b) → wpList Try.prog ops Q rest (a.put o.dst undef) w') : wpList Try.prog ops Q (o :: rest) a w := by
  refine wpList_plain hg fun K' hK' => ?_
  obtain ⟨w', hrun, h1, h2⟩ := h.update hx ht hn v
  unfold Oper.wp
  simp [execOp, hop, hm, hq, hv, hrun, Result.andThen]
  exact hK' _ _ (hK w' h1 h2)
end
end Go.Proofs.Ytleapbbdpediiaa.Mp
/- manifest.Missing: the IDs that are not at hand, each once. -/
namespace Go.Proofs.Ytleapbbdpediiaa.Mf
open Go.RowKit Go.Proofs.Ytleapbbdpediiaa.P Go.Proofs.Ytleapbbdpediiaa.Fp Go.Proofs.Ytleapbbdpediiaa.FM Go.Proofs.Ytleapbbdpediiaa.Mp Go.Proofs.YtleapbbdpediiaaW.PrintWords Go.Proofs.YtleapbbdpediiaaW.PrintLast Go.Proofs.YtleapbbdpediiaaW.PrintMore
set_option linter.unusedVariables false
set_option linter.unusedSimpArgs false
abbrev ID := S51
def pr (x : ID) : Int × Int := (x.f0, x.f1)
/-- The IDs of l, as a map. -/
def seenS (l : List ID) : Int × Int → Option Value := fun y => if y ∈ l.map pr then some (.bool true) else none
theorem seenS_put (l : List ID) (x : ID) : put (seenS l) (pr x) (.bool true) = seenS (l ++ [x]) := by
  funext y
  unfold put seenS
  by_cases h : y = pr x
  · subst h; simp
  · simp [h]
theorem seenS_get (l : List ID) (x : ID) (z : Bool) (hz : z = false) : (seenS l (pr x)).getD (.bool z) = .bool (decide (pr x ∈ l.map pr)) := by
  subst hz
  unfold seenS
  by_cases h : pr x ∈ l.map pr
  · rw [if_pos h]; simp [h]
  · rw [if_neg h]; simp [h]
/-- IDs that a Go program can hold. -/
def WfL (l : List ID) : Prop := ∀ x ∈ l, WfI (pr x)
theorem zeroBool (w : World) : (zeroValue 4).run Try.prog w = .ok (.bool false) w := by kernel_rfl
instance (x : Int × Int) : Decidable (WfI x) := inferInstanceAs (Decidable (_ ∧ _))
instance (l : List ID) : Decidable (WfL l) := inferInstanceAs (Decidable (∀ x ∈ l, WfI (pr x)))
end Go.Proofs.Ytleapbbdpediiaa.Mf
