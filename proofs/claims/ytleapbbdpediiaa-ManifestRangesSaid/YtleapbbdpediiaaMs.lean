-- What this claim does not use is left out (shake.py).
import Derived.Test.YtleapbbdpediiaaMr
import Derived.Test.YtleapbbdpediiaaPxf18
import Derived.Test.YtleapbbdpediiaaPxf21
import Derived.Test.YtleapbbdpediiaaPxf23
import Derived.Test.YtleapbbdpediiaaPxf24
import Derived.Test.YtleapbbdpediiaaPx0
import Derived.Test.YtleapbbdpediiaaPxe51
import Derived.Test.YtleapbbdpediiaaPxf63
import Derived.Test.YtleapbbdpediiaaPxf45
import Derived.Test.YtleapbbdpediiaaPxf30
/- Range and Assemble over chunks with right IDs, plainly. -/
namespace Go.Proofs.Ytleapbbdpediiaa.Ms
open Go.RowKit Go.Proofs.Ytleapbbdpediiaa.P Go.Proofs.Ytleapbbdpediiaa.Fp Go.Proofs.Ytleapbbdpediiaa.FM Go.Proofs.Ytleapbbdpediiaa.Mp Go.Proofs.Ytleapbbdpediiaa.Mf Go.Proofs.Ytleapbbdpediiaa.Rg Go.Proofs.Ytleapbbdpediiaa.Mq Go.Proofs.Ytleapbbdpediiaa.Mr Go.Proofs.YtleapbbdpediiaaW.PrintWords Go.Proofs.YtleapbbdpediiaaW.PrintLast Go.Proofs.YtleapbbdpediiaaW.PrintMore
set_option linter.unusedVariables false
set_option linter.unusedSimpArgs false
/-- A byte string with its ID. -/
def stk (b : List Int) : S53 := ⟨idO b, b⟩
/-- Equal IDs, equal bytes. -/
def Dist (p : List (List Int)) : Prop := ∀ b ∈ p, ∀ c ∈ p, Rg.ofP b = Rg.ofP c → b = c
theorem dist_of {p : List (List Int)} (h : Ds.distB p = true) : Dist p := by
  rw [Ds.distB_iff] at h
  intro b hb c hc e
  obtain ⟨i, hi, rfl⟩ := List.mem_iff_getElem.1 hb
  obtain ⟨j, hj, rfl⟩ := List.mem_iff_getElem.1 hc
  have e1 : ∀ n (hn : n < p.length), Ds.rdl p n = p[n] := fun n hn => by simp [Ds.rdl, List.getD, hn]
  rcases Nat.lt_trichotomy i j with hl | hl | hl
  · have := h j hj i hl
    rw [e1 _ hi, e1 _ hj] at this
    exact (this e.symm).symm
  · subst hl; rfl
  · have := h i hi j hl
    rw [e1 _ hi, e1 _ hj] at this
    exact this e
theorem fnd_has {p : List (List Int)} (hD : Dist p) {b : List Int} (hb : b ∈ p) : ∀ {l : List S53}, (∀ c ∈ l, ∃ b ∈ p, c = stk b) → stk b ∈ l → ∃ i : Nat, fnd l (Rg.ofP b) = some i ∧ (rd_T53 l (i : Int)).f1 = b
  | [], _, hm => by cases hm
  | c :: r, hl, hm => by
    unfold fnd
    by_cases hc : pr c.f0 = Rg.ofP b
    · obtain ⟨b', hb', rfl⟩ := hl c (List.mem_cons_self ..)
      refine ⟨0, by rw [if_pos hc], ?_⟩
      have := hD b' hb' b hb hc
      subst this
      rfl
    · rw [if_neg hc]
      rcases List.mem_cons.1 hm with he | hm
      · exact absurd (by rw [← he]; rfl) hc
      · obtain ⟨i, hi, he⟩ := fnd_has hD hb (fun c hc => hl c (List.mem_cons_of_mem _ hc)) hm
        refine ⟨i + 1, by rw [hi]; rfl, ?_⟩
        rw [← he]
        simp [rd_T53]
theorem part_nil {x : List Int} {a b s : Int} (h : ¬ mx (a - s) 0 < mn (b - s) (x.length : Int)) : (x.take (b - s).toNat).drop (a - s).toNat = [] := by
  refine List.drop_eq_nil_of_le ?_
  rw [List.length_take]
  unfold mx mn at h
  split at h <;> split at h <;> omega
theorem part_some {x : List Int} {a b s : Int} (h : mx (a - s) 0 < mn (b - s) (x.length : Int)) : (x.take (mn (b - s) (x.length : Int)).toNat).drop (mx (a - s) 0).toNat = (x.take (b - s).toNat).drop (a - s).toNat ∧ 0 ≤ mx (a - s) 0 ∧ mn (b - s) (x.length : Int) ≤ (x.length : Int) := by
  have e1 : (mx (a - s) 0).toNat = (a - s).toNat := by unfold mx; split <;> omega
  have e2 : x.take (mn (b - s) (x.length : Int)).toNat = x.take (b - s).toNat := by
    unfold mn
    split
    · rw [List.take_of_length_le (by omega), List.take_of_length_le (by omega)]
    · rfl
  refine ⟨by rw [e1, e2], ?_, ?_⟩
  · unfold mx; split <;> omega
  · unfold mn; split <;> omega
theorem part_cons {x y : List Int} {a b s : Int} : ((x ++ y).take (b - s).toNat).drop (a - s).toNat = (x.take (b - s).toNat).drop (a - s).toNat ++ (y.take (b - (s + (x.length : Int))).toNat).drop (a - (s + (x.length : Int))).toNat := by
  rw [List.take_append, List.drop_append, List.length_take]
  congr 1
  by_cases h : (b - s).toNat ≤ x.length
  · rw [show (b - (s + (x.length : Int))).toNat = 0 by omega, show (b - s).toNat - x.length = 0 by omega]
    simp
  · rw [show (b - (s + (x.length : Int))).toNat = (b - s).toNat - x.length by omega, show (a - s).toNat - min (b - s).toNat x.length = (a - (s + (x.length : Int))).toNat by omega]
theorem rg_slc {p : List (List Int)} (hp : Ok p) (hD : Dist p) {l : List S53} (hl : ∀ c ∈ l, ∃ b ∈ p, c = stk b) {a b : Int} : ∀ (q : List (List Int)) (i : Nat) (s : Int) (out : List Int), p.drop i = q → i ≤ p.length → out.length ≤ 8192 * i →
    (∀ c ∈ slc a b (ids q) i s, ∀ x, p[c.f0.toNat]? = some x → stk x ∈ l) →
    rg l (ids p) (slc a b (ids q) i s) out = some (out ++ (q.flatten.take (b - s).toNat).drop (a - s).toNat, 0)
  | [], i, s, out, hq, hi, ho, hn => by simp [ids, slc, rg]
  | x :: r, i, s, out, hq, hi, ho, hn => by
    have hlt : i < p.length := by
      rcases Nat.lt_or_ge i p.length with h | h
      · exact h
      · rw [List.drop_eq_nil_of_le h] at hq; cases hq
    rw [List.drop_eq_getElem_cons hlt] at hq
    obtain ⟨hx, hr⟩ := List.cons.inj hq
    have hok := hp.1 _ (List.getElem_mem hlt)
    have hpn := hp.2.1
    rw [hx] at hok
    have hxm : x ∈ p := hx ▸ List.getElem_mem hlt
    rw [List.flatten_cons, part_cons]
    simp only [ids, List.map_cons, slc] at hn ⊢
    have e1 : (idO x).f1 = (x.length : Int) := rfl
    rw [e1] at hn ⊢
    by_cases hc : mx (a - s) 0 < mn (b - s) (x.length : Int)
    · rw [if_pos hc] at hn ⊢
      obtain ⟨h1, h2, h3⟩ := part_some hc
      have hin := hn _ (List.mem_cons_self ..) x (by simp [hlt, hx])
      obtain ⟨j, hj, he⟩ := fnd_has hD hxm hl hin
      have hrd : rd_T51 (List.map idO p) (i : Int) = idO x := by rw [show List.map idO p = ids p from rfl, ids_rd hlt, hx]
      have hpr : pr (idO x) = Rg.ofP x := rfl
      unfold rg
      simp only
      rw [if_pos ⟨by omega, by simp; omega⟩, hrd, hpr, hj]
      simp only
      rw [he, if_pos rfl, if_pos ⟨h2, by omega, h3, by omega⟩, h1]
      have := rg_slc hp hD hl (a := a) (b := b) r (i + 1) (s + (x.length : Int)) (out ++ (x.take (b - s).toNat).drop (a - s).toNat) hr (by omega) (by
        rw [List.length_append, List.length_drop, List.length_take]; omega) (fun c hc => hn c (List.mem_cons_of_mem _ hc))
      rw [← List.append_assoc]
      exact this
    · rw [if_neg hc] at hn ⊢
      rw [part_nil hc, List.nil_append]
      exact rg_slc hp hD hl (a := a) (b := b) r (i + 1) (s + (x.length : Int)) out hr (by omega) (by omega) hn
theorem u64wf {x : Int} (h0 : 0 ≤ x) (h1 : x ≤ 9223372036854775807) : (Lit.int .u64 x).wf = true := by simp [Lit.wf, IntKind.min, IntKind.max, IntKind.bits, IntKind.signed]; omega
theorem i64wf {x : Int} (h0 : 0 ≤ x) (h1 : x ≤ 9223372036854775807) : (Lit.int .i64 x).wf = true := by simp [Lit.wf, IntKind.min, IntKind.max, IntKind.bits, IntKind.signed]; omega
theorem idO_wf {b : List Int} (h : b.length ≤ 1048576) : WfI (pr (idO b)) := by
  have := fp_range b
  have hP : P = 2305843009213693951 := rfl
  exact ⟨u64wf this.1 (by show fp b ≤ _; omega), i64wf (by show 0 ≤ (b.length : Int); omega) (by show (b.length : Int) ≤ _; omega)⟩
theorem good_of {p : List (List Int)} (hp : Ok p) {l : List S53} (hl : ∀ c ∈ l, ∃ b ∈ p, c = stk b) (hn : l.length ≤ 140737488351232) : Rg.Good (ids p) l := by
  have hpn := hp.2.1
  refine ⟨fun x hx => ?_, fun c hc => ?_, hn, by rw [ids_len]; omega⟩
  · obtain ⟨b, hb, rfl⟩ := List.mem_map.1 hx
    exact idO_wf (by have := (hp.1 b hb).2.2; omega)
  · obtain ⟨b, hb, rfl⟩ := hl c hc
    have := hp.1 b hb
    exact ⟨idO_wf (by omega), this.1, by simp only [stk]; omega⟩
theorem range_is {p : List (List Int)} (hp : Ok p) (hD : Dist p) {l : List S53} (hl : ∀ c ∈ l, ∃ b ∈ p, c = stk b) (hn : l.length ≤ 140737488351232) {a b : Int} (ha : 0 ≤ a) (hab : a ≤ b) (hb : b ≤ tot p)
    (hm : ∀ c ∈ slc a b (ids p) 0 0, ∀ x, p[c.f0.toNat]? = some x → stk x ∈ l) : rangeF (tot p) (ids p) l a b = some ((p.flatten.take b.toNat).drop a.toNat, 0) := by
  unfold rangeF
  rw [if_pos (good_of hp hl hn), slice_is (show (ids p).length + 1 < (ids p).length + 2 by omega), Option.bind_some]
  unfold sliceS
  have hs := slc_length a b (ids p) 0 0
  have hpn := hp.2.1
  rw [ids_len] at hs
  rw [hp.check, if_pos rfl, if_neg (show ¬ (a < 0 ∨ a > b ∨ b > tot p) by omega)]
  rw [if_pos rfl, if_pos (show (slc a b (ids p) 0 0).length ≤ 140737488351232 by omega)]
  have := rg_slc hp hD hl (a := a) (b := b) p 0 0 [] rfl (by omega) (by simp) hm
  simpa using this
theorem assemble_is {p : List (List Int)} (hp : Ok p) (hD : Dist p) {l : List S53} (hl : ∀ c ∈ l, ∃ b ∈ p, c = stk b) (hn : l.length ≤ 140737488351232) (hm : ∀ x ∈ p, stk x ∈ l) : manifest_Assemble.f (tot p) (ids p) l = some (p.flatten, 0) := by
  unfold manifest_Assemble.f manifest_Range.f
  rw [range_is hp hD hl hn (by omega) (tot_nn p) (Int.le_refl _) (fun c hc x hx => hm x (List.mem_of_getElem? hx)), Option.bind_some]
  simp only [tot, Int.toNat_natCast, List.take_length, Int.toNat_zero, List.drop_zero]
theorem stk_rd {p : List (List Int)} {i : Nat} (h : i < p.length) : rd_T53 (p.map stk) (i : Int) = stk p[i] := by simp [rd_T53, List.getD, h]
theorem slc_mem {a b : Int} : ∀ (q : List S51) (i s : Int) (c : S48), c ∈ slc a b q i s → i ≤ c.f0 ∧ c.f0 < i + (q.length : Int)
  | [], _, _, _, h => by cases h
  | x :: r, i, s, c, h => by
    unfold slc at h
    have ih := fun h => slc_mem (a := a) (b := b) r (i + 1) (s + x.f1) c h
    rw [List.length_cons]
    split at h
    · rcases List.mem_cons.1 h with rfl | h
      · simp only; omega
      · have := ih h; omega
    · have := ih h; omega
theorem right_loop {p : List (List Int)} (hp : ∀ b ∈ p, IsBytes b ∧ b.length ≤ 1048576) (hn : p.length ≤ 1048576) (d : Nat) : ∀ (k i : Nat), p.length - i = d → i ≤ p.length → d + 1048577 < k →
    stockyardlaw25_right.l0 k p ((p.take i).map stk) (i : Int) = some (p.map stk) := by
  induction d with
  | zero =>
    intro k i hd hi hk
    obtain ⟨k, rfl⟩ : ∃ m, k = m + 1 := ⟨k - 1, by omega⟩
    simp only [stockyardlaw25_right.l0]
    rw [if_neg (by omega), List.take_of_length_le (by omega)]
  | succ d ih =>
    intro k i hd hi hk
    obtain ⟨k, rfl⟩ : ∃ m, k = m + 1 := ⟨k - 1, by omega⟩
    have hlt : i < p.length := by omega
    have hb := hp p[i] (List.getElem_mem hlt)
    simp only [stockyardlaw25_right.l0]
    rw [if_pos (by omega), if_pos (by omega), rdL_of hlt, Rg.Of_is hb.1 (by omega) (by omega), Option.bind_some]
    simp only
    rw [if_pos (by simp; omega), w64 (by omega) (by omega), show (i : Int) + 1 = ((i + 1 : Nat) : Int) by omega]
    have e2 : (p.take i).map stk ++ [(⟨(⟨fp p[i], (p[i].length : Int)⟩ : S51), p[i]⟩ : S53)] = (p.take (i + 1)).map stk := by
      rw [List.take_succ_eq_append_getElem hlt]
      simp only [List.map_append, List.map_cons, List.map_nil, stk, idO]
    rw [e2]
    exact ih k (i + 1) (by omega) (by omega) (by omega)
theorem right_is {p : List (List Int)} (hp : ∀ b ∈ p, IsBytes b ∧ b.length ≤ 1048576) (hn : p.length ≤ 1048576) {k : Nat} (hk : p.length + 1048577 < k) : stockyardlaw25_right.f k p = some (p.map stk) := by
  have := right_loop hp hn p.length k 0 (by omega) (by omega) hk
  unfold stockyardlaw25_right.f
  simpa using this
theorem distinct_is {p : List (List Int)} (hp : ∀ b ∈ p, IsBytes b ∧ b.length ≤ 1048576) (hn : p.length ≤ 1048576) : Ds.distF p = some (Ds.distB p) := by
  unfold Ds.distF
  rw [if_pos (show Ds.GoodL p from ⟨fun b hb => ⟨(hp b hb).1, by have := (hp b hb).2; omega⟩, hn⟩)]
end Go.Proofs.Ytleapbbdpediiaa.Ms
