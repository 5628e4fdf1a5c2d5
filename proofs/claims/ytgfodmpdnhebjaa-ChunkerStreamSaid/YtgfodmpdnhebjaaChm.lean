/- The reference's Write, plainly: the complete chunks, and what is left. -/
import Derived.Test.YtgfodmpdnhebjaaStrm
import Derived.Test.YtgfodmpdnhebjaaCp
import Derived.Test.YtgfodmpdnhebjaaFj
import Derived.Test.YtgfodmpdnhebjaaPxf16
import Derived.Test.YtgfodmpdnhebjaaPxf18
import Derived.Test.YtgfodmpdnhebjaaPxf19
namespace Go.Proofs.Ytgfodmpdnhebjaa.Cp
open Go.RowKit Go.Proofs.Ytgfodmpdnhebjaa.P Go.Proofs.Ytgfodmpdnhebjaa.Fp Go.Proofs.Ytgfodmpdnhebjaa.FM Go.Proofs.Ytgfodmpdnhebjaa.Ck Go.Proofs.Ytgfodmpdnhebjaa.Chk Go.Proofs.YtgfodmpdnhebjaaW.PrintWords Go.Proofs.YtgfodmpdnhebjaaW.PrintLast Go.Proofs.YtgfodmpdnhebjaaW.PrintMore
set_option linter.unusedVariables false
theorem rwrite_loop {mn mx wd : Nat} {ms : Int} {t : List Int} (hO : Okp mn mx wd ms) (hb : IsBytes t) (hl : t.length ≤ 1048576) (d : Nat) : ∀ (k s : Nat) (x : List (List Int)), s ≤ t.length → t.length - s ≤ d → d < k → x.length ≤ s →
    stockyardref24_Write.l0 k t x (s : Int) mn mx wd ms = some (x ++ (wc mn mx wd ms (d + 1) (t.drop s)).1, (wc mn mx wd ms (d + 1) (t.drop s)).2) := by
  induction d with
  | zero =>
    intro k s x h1 h2 hk hx
    obtain ⟨k, rfl⟩ : ∃ m, k = m + 1 := ⟨k - 1, by omega⟩
    have hd : t.drop s = [] := List.drop_eq_nil_of_le (by omega)
    have he : endF mn mx wd ms [] = (0, false) := rfl
    have hend : stockyardref24_End.f mn mx wd ms t (s : Int) = some (((s + (endF mn mx wd ms (t.drop s)).1 : Nat) : Int), (endF mn mx wd ms (t.drop s)).2) := by
      unfold stockyardref24_End.f endS
      rw [if_pos ⟨hO.okq, hO.s0, hO.s1, hb, by omega, by omega, hl⟩]
      simp only [Int.toNat_natCast, Int.natCast_add]
    simp only [stockyardref24_Write.l0]
    rw [hend, Option.bind_some, hd, he]
    simp only
    rw [if_neg (by simp), if_pos (by omega), if_pos (by omega), Int.toNat_natCast, hd, if_pos (by simp)]
    simp [wc, he]
  | succ d ih =>
    intro k s x h1 h2 hk hx
    obtain ⟨k, rfl⟩ : ∃ m, k = m + 1 := ⟨k - 1, by omega⟩
    have hend : stockyardref24_End.f mn mx wd ms t (s : Int) = some (((s + (endF mn mx wd ms (t.drop s)).1 : Nat) : Int), (endF mn mx wd ms (t.drop s)).2) := by
      unfold stockyardref24_End.f endS
      rw [if_pos ⟨hO.okq, hO.s0, hO.s1, hb, by omega, by omega, hl⟩]
      simp only [Int.toNat_natCast, Int.natCast_add]
    have hlen : (t.drop s).length = t.length - s := List.length_drop
    have hle := endF_le (mn := mn) (mx := mx) (wd := wd) (ms := ms) (l := t.drop s)
    have hpos : (endF mn mx wd ms (t.drop s)).2 = true → 0 < (endF mn mx wd ms (t.drop s)).1 := fun h => by
      rcases Nat.eq_zero_or_pos (t.drop s).length with h0 | h0
      · rw [List.eq_nil_of_length_eq_zero h0] at h
        exact absurd h (by simp [show endF mn mx wd ms [] = (0, false) from rfl])
      · exact endF_pos h0
    have hwc : wc mn mx wd ms (d + 1 + 1) (t.drop s) = if (endF mn mx wd ms (t.drop s)).2 = true then ((t.drop s).take (endF mn mx wd ms (t.drop s)).1 :: (wc mn mx wd ms (d + 1) ((t.drop s).drop (endF mn mx wd ms (t.drop s)).1)).1, (wc mn mx wd ms (d + 1) ((t.drop s).drop (endF mn mx wd ms (t.drop s)).1)).2) else ([], t.drop s) := by
      conv => lhs; unfold wc
    simp only [stockyardref24_Write.l0]
    rw [hend, Option.bind_some, hwc]
    simp only
    by_cases hok : (endF mn mx wd ms (t.drop s)).2 = true
    · have hp := hpos hok
      rw [if_pos hok, if_pos hok]
      generalize (endF mn mx wd ms (t.drop s)).1 = n at *
      have hcut : (t.take (s + n)).drop s = (t.drop s).take n := by rw [List.drop_take, Nat.add_sub_cancel_left]
      rw [if_pos (by omega), if_pos (by omega), if_pos (by omega), Int.toNat_natCast, Int.toNat_natCast, List.nil_append, hcut, if_pos (by rw [List.length_take]; simp; omega), if_pos (by omega)]
      rw [ih k (s + n) _ (by omega) (by omega) (by omega) (by simp; omega), List.drop_drop]
      simp
    · rw [if_neg hok, if_neg hok, if_pos (by omega), if_pos (by omega), Int.toNat_natCast, if_pos (by simp; omega)]
      simp
theorem rwrite_is {mn mx wd : Nat} {ms : Int} {t : List Int} (hO : Okp mn mx wd ms) (hb : IsBytes t) (hl : t.length ≤ 1048576) {k : Nat} (hk : t.length < k) : stockyardref24_Write.f k mn mx wd ms t = some (wc mn mx wd ms (t.length + 1) t) := by
  have := rwrite_loop hO hb hl t.length k 0 [] (by omega) (by omega) hk (by simp)
  unfold stockyardref24_Write.f
  exact this.trans (by simp)
theorem cutL_shift (b : List Int) (a : Nat) : ∀ (s : Nat) (E : List Nat), cutL b (a + s) (E.map (a + ·)) = cutL (b.drop a) s E
  | s, [] => rfl
  | s, e :: E => by
    have h : (b.take (a + e)).drop (a + s) = ((b.drop a).take e).drop s := by
      rw [← List.drop_drop, show (b.take (a + e)).drop a = (b.drop a).take (a + e - a) from List.drop_take, Nat.add_sub_cancel_left]
    simp only [List.map_cons, cutL]
    rw [h, cutL_shift b a e E]
/-- The chunks of a string: the complete ones, and what is left if there is something. -/
theorem split_wc {mn mx wd : Nat} {ms : Int} : ∀ (n : Nat) (t : List Int), t.length < n → cutL t 0 (ends mn mx wd ms t) = (wc mn mx wd ms n t).1 ++ (if (wc mn mx wd ms n t).2.length = 0 then [] else [(wc mn mx wd ms n t).2])
  | 0, t, h => by omega
  | n + 1, t, h => by
    by_cases h0 : t.length = 0
    · obtain rfl := List.eq_nil_of_length_eq_zero h0
      rw [ends_nil, wc_none (n + 1) (t := []) rfl]
      rfl
    · rw [ends_cons (by omega)]
      cases hf : first mn mx wd ms t 0 t.length with
      | none =>
        have he : endF mn mx wd ms t = (t.length, false) := by unfold endF; rw [hf]
        rw [wc_none _ hf, he]
        simp only [List.drop_length, ends_nil, List.map_nil, cutL, List.take_length, List.drop_zero, List.nil_append]
        rw [if_neg h0]
      | some r =>
        have he : endF mn mx wd ms t = (r, true) := by unfold endF; rw [hf]
        obtain ⟨g1, g2, _, _⟩ := first_some hf
        have ih := split_wc (mn := mn) (mx := mx) (wd := wd) (ms := ms) n (t.drop r) (by rw [List.length_drop]; omega)
        have hs := cutL_shift t r 0 (ends mn mx wd ms (t.drop r))
        rw [Nat.add_zero] at hs
        rw [wc_some _ hf, he]
        simp only [cutL, List.drop_zero, List.cons_append]
        rw [hs, ih]
end Go.Proofs.Ytgfodmpdnhebjaa.Cp
namespace Go.Proofs.Ytgfodmpdnhebjaa.Chk
open Go.RowKit Go.Proofs.Ytgfodmpdnhebjaa.P Go.Proofs.Ytgfodmpdnhebjaa.Fp Go.Proofs.Ytgfodmpdnhebjaa.FM Go.Proofs.YtgfodmpdnhebjaaW.PrintWords Go.Proofs.YtgfodmpdnhebjaaW.PrintLast Go.Proofs.YtgfodmpdnhebjaaW.PrintMore
set_option linter.unusedVariables false
theorem Chs.triples {T : Nat → Prop} {w : World} : ∀ {L : List (List Int)} {V : List Value}, Chs w T L V → ∃ ps : List (Option Addr × Nat × List Int), ps.map (·.2.2) = L ∧ V = ps.map (fun q => Value.slice q.1 q.2.2.length q.2.1) ∧ ∀ q ∈ ps, q.2.2.length ≤ q.2.1 ∧ Kd.C (Kd.int .u8) w q.1 q.2.2.length q.2.2
  | [], [], _ => ⟨[], rfl, rfl, fun q hq => by cases hq⟩
  | c :: L, v :: V, h => by
    obtain ⟨⟨A, cap, rfl, h1, h2, _⟩, h3⟩ := h
    obtain ⟨ps, e1, e2, e3⟩ := Chs.triples h3
    refine ⟨(A, cap, c) :: ps, by simp [e1], by simp [e2], fun q hq => ?_⟩
    rcases List.mem_cons.1 hq with rfl | hq
    · exact ⟨h1, h2⟩
    · exact e3 q hq
  | [], _ :: _, h => h.elim
  | _ :: _, [], h => h.elim
theorem Chs.to_C {T : Nat → Prop} {w : World} {base : Nat} {y : Value} {L : List (List Int)} {V : List Value} (hown : w.ownsRow base 30 1 y L.length V) (h : Chs w T L V) (hn : L.length ≤ 9223372036854775807) : ∃ A c, y = .slice A L.length c ∧ L.length ≤ c ∧ Kd.C (Kd.slice 5 (Kd.int .u8)) w A L.length L := by
  rcases hown.2 with ⟨rfl, h0⟩ | ⟨g, cap, cur, rfl, _, hb, hc, _, _, ht⟩
  · obtain rfl := List.eq_nil_of_length_eq_zero h0
    exact ⟨none, 0, rfl, Nat.le_refl _, Kd.C_nil _ _⟩
  · obtain ⟨ps, e1, e2, e3⟩ := h.triples
    have hl : ps.length = L.length := by rw [← e1, List.length_map]
    refine ⟨some ⟨g, 0, none⟩, cap, rfl, hc, ?_⟩
    have := rows_C (W := w) (g := g) ps (by omega) (fun j A c l hj => by
      obtain ⟨h1, h2⟩ := e3 _ (List.mem_of_getElem? hj)
      refine ⟨?_, h1, h2⟩
      have hj' : j < L.length := by
        have := (List.getElem?_eq_some_iff.1 hj).1
        omega
      have hv : V[j]? = some (.slice A l.length c) := by rw [e2, List.getElem?_map, hj]; rfl
      rw [← ht, Nat.mul_one, List.getElem?_take_of_lt hj', Array.getElem?_toList] at hv
      exact (blk_cell hb j).trans hv)
    rw [e1] at this
    exact this
end Go.Proofs.Ytgfodmpdnhebjaa.Chk
namespace Go.Proofs.Ytgfodmpdnhebjaa.Chk
open Go.RowKit Go.Proofs.Ytgfodmpdnhebjaa.P Go.Proofs.Ytgfodmpdnhebjaa.Fp Go.Proofs.Ytgfodmpdnhebjaa.FM Go.Proofs.Ytgfodmpdnhebjaa.Roll Go.Proofs.Ytgfodmpdnhebjaa.Ck Go.Proofs.YtgfodmpdnhebjaaW.PrintWords Go.Proofs.YtgfodmpdnhebjaaW.PrintLast Go.Proofs.YtgfodmpdnhebjaaW.PrintMore
set_option linter.unusedVariables false
set_option linter.unusedSimpArgs false
/-- More fuel than bytes changes nothing. -/
theorem wrt_fuel {mn mx wd : Nat} {ms : Int} : ∀ (n m : Nat) (p b : List Int), b.length ≤ n → b.length ≤ m → wrt mn mx wd ms n p b = wrt mn mx wd ms m p b
  | 0, m, p, b, h1, h2 => by
    rw [wrt_nil 0 p b (by omega), wrt_nil m p b (by omega)]
  | n + 1, 0, p, b, h1, h2 => by
    rw [wrt_nil 0 p b (by omega), wrt_nil (n + 1) p b (by omega)]
  | n + 1, m + 1, p, b, h1, h2 => by
    by_cases h0 : b.length = 0
    · rw [wrt_nil _ p b h0, wrt_nil _ p b h0]
    · unfold wrt
      rw [if_neg h0, if_neg h0]
      cases hf : first mn mx wd ms (p ++ b) p.length b.length with
      | none => rfl
      | some r =>
        obtain ⟨g1, g2, g3, g4⟩ := first_some hf
        simp only
        rw [wrt_fuel n m [] (b.drop (r - p.length)) (by rw [List.length_drop]; omega) (by rw [List.length_drop]; omega)]
/-- What a stream has given and has kept, when some bytes more are written. -/
theorem wc_write {mn mx wd : Nat} {ms : Int} {t b p q : List Int} {L M : List (List Int)} (h : wc mn mx wd ms (t.length + 1) t = (L, p)) (h2 : wrt mn mx wd ms b.length p b = (M, q)) : wc mn mx wd ms ((t ++ b).length + 1) (t ++ b) = (L ++ M, q) := by
  have ha := wc_append (mn := mn) (mx := mx) (wd := wd) (ms := ms) ((t ++ b).length + 1) t b (Nat.lt_succ_self _)
  have hf := wc_fuel (mn := mn) (mx := mx) (wd := wd) (ms := ms) ((t ++ b).length + 1) (t.length + 1) t (by simp; omega) (by omega)
  have hr := wc_rest (mn := mn) (mx := mx) (wd := wd) (ms := ms) (t.length + 1) t (by omega)
  obtain ⟨k, hk⟩ := wc_tail (mn := mn) (mx := mx) (wd := wd) (ms := ms) (t.length + 1) t
  rw [h] at hr hk
  simp only at hr hk
  have hp : p.length ≤ t.length := by rw [hk, List.length_drop]; omega
  rw [ha, hf, h]
  simp only
  have hw := wrt_wc (mn := mn) (mx := mx) (wd := wd) (ms := ms) ((t ++ b).length) p b (by simp) (fun j h1 h2 => by rw [hit_append h2]; exact hr j h1 h2)
  rw [wrt_fuel ((t ++ b).length) b.length p b (by simp) (Nat.le_refl _), h2] at hw
  rw [← hw]
theorem wrt_rest {mn mx wd : Nat} {ms : Int} {t b p q : List Int} {L M : List (List Int)} (h : wc mn mx wd ms (t.length + 1) t = (L, p)) : p.length ≤ t.length := by
  obtain ⟨k, hk⟩ := wc_tail (mn := mn) (mx := mx) (wd := wd) (ms := ms) (t.length + 1) t
  rw [h] at hk
  simp only at hk
  rw [hk, List.length_drop]; omega
theorem wc_count {mn mx wd : Nat} {ms : Int} : ∀ (n : Nat) (t : List Int), t.length < n → (wc mn mx wd ms n t).1.length + (wc mn mx wd ms n t).2.length ≤ t.length
  | 0, t, h => by omega
  | n + 1, t, h => by
    cases hf : first mn mx wd ms t 0 t.length with
    | none => rw [wc_none _ hf]; simp
    | some r =>
      obtain ⟨g1, g2, g3, g4⟩ := first_some hf
      rw [wc_some _ hf]
      have := wc_count (mn := mn) (mx := mx) (wd := wd) (ms := ms) n (t.drop r) (by rw [List.length_drop]; omega)
      rw [List.length_drop] at this
      simp only [List.length_cons]
      omega
section
variable {S T T' : Nat → Prop} {w w' : World}
theorem C_kept {A : Option Addr} {n : Nat} {xs : List Int} (h : Kd.C (Kd.int .u8) w A n xs) (hk : Kept w w' S) (hf : ∀ ad, A = some ad → ¬ S ad.block) : Kd.C (Kd.int .u8) w' A n xs :=
  Kd.C_foot_neS (fun h => h) h (fun ad h _ => hf ad h) w' hk
theorem Chs.kept (hk : Kept w w' S) (h1 : ∀ k, T k → ¬ S k) (h2 : ∀ k, T k → T' k) : ∀ {L : List (List Int)} {V : List Value}, Chs w T L V → Chs w' T' L V
  | [], [], _ => trivial
  | _ :: _, _ :: _, ⟨⟨A, cap, e, hc, hC, hA⟩, r⟩ => ⟨⟨A, cap, e, hc, C_kept hC hk (fun ad h => h1 _ (hA ad h)), fun ad h => h2 _ (hA ad h)⟩, Chs.kept hk h1 h2 r⟩
  | [], _ :: _, h => h.elim
  | _ :: _, [], h => h.elim
theorem Chs.append : ∀ {L M : List (List Int)} {V U : List Value}, Chs w T L V → Chs w T M U → Chs w T (L ++ M) (V ++ U)
  | [], _, [], _, _, h => h
  | _ :: _, _, _ :: _, _, h, h' => ⟨h.1, Chs.append h.2 h'⟩
  | [], _, _ :: _, _, h, _ => h.elim
  | _ :: _, _, [], _, h, _ => h.elim
theorem Chs.append_right : ∀ {L M : List (List Int)} {V U : List Value}, L.length = V.length → Chs w T (L ++ M) (V ++ U) → Chs w T M U
  | [], _, [], _, _, h => h
  | _ :: _, _, _ :: _, _, hl, h => Chs.append_right (by simpa using hl) h.2
  | [], _, _ :: _, _, hl, _ => by simp at hl
  | _ :: _, _, [], _, hl, _ => by simp at hl
theorem Chs.one : ∀ {L : List (List Int)} {V : List Value}, Chs w T L V → ∀ u ∈ V, u.oneCell' = true
  | [], [], _, u, hu => by cases hu
  | _ :: _, _ :: _, ⟨⟨A, cap, e, _⟩, r⟩, u, hu => by
    rcases List.mem_cons.1 hu with rfl | hu
    · rw [e]; rfl
    · exact Chs.one r u hu
  | [], _ :: _, h, _, _ => h.elim
  | _ :: _, [], h, _, _ => h.elim
end
/-- A block of bytes. -/
def Bt (w : World) (k : Nat) : Prop := ∃ cs, w.heap[k]? = some (.cells cs 5 (0, 0))
theorem Bt.kept {w w' : World} {S : Nat → Prop} {k : Nat} (h : Bt w k) (hk : Kept w w' S) (hn : ¬ S k) : Bt w' k := by
  obtain ⟨cs, h⟩ := h
  exact ⟨cs, (hk.2 k (blk_lt h) hn).trans h⟩
theorem Bt.ne {w : World} {k j : Nat} {cs : Array Value} {t : TypeId} (h : Bt w k) (hj : w.heap[j]? = some (.cells cs t (0, 0))) (ht : t ≠ 5) : k ≠ j := by
  rintro rfl
  obtain ⟨cs', h⟩ := h
  exact types_ne ht (hj.symm.trans h)
/-- A row of bytes that a call made: its block. -/
theorem R_blk {w : World} {base : Nat} {A : Option Addr} {n c : Nat} {ok : Nat → Prop} {l : List Int} (h : Kd.R (Kd.int .u8) 5 w base ok (.slice A n c) l) : ∀ ad, A = some ad → base ≤ ad.block ∧ ad.block < w.heap.size ∧ Bt w ad.block := fun ad e => by
  subst e
  exact ⟨Kd.R_base h ad.block rfl, Kd.R_lt h ad.block rfl, Kd.R_typed h ad.block rfl⟩
/-- Two byte strings joined. -/
theorem joined2 {A B : Option Addr} {c d g : Nat} {l m : List Int} (w : World) (h0 : w.cell? ⟨g, 0, none⟩ = some (.slice A l.length c)) (h1 : w.cell? ⟨g, 1, none⟩ = some (.slice B m.length d)) (hc : l.length ≤ c) (hd : m.length ≤ d)
    (hr : Kd.C (Kd.int .u8) w A l.length l) (hs : Kd.C (Kd.int .u8) w B m.length m) (hl : l.length + m.length < 140737488355328) :
    Calls Try.prog 19 #[.slice (some ⟨g, 0, none⟩) 2 2] w fun e w' => ∃ (A' : Option Addr) (c' : Nat) (l' : List Int), e = .returned (.slice A' l'.length c') ∧ Hid (l' = l ++ m) ∧ l'.length ≤ c' ∧ Kd.C (Kd.int .u8) w' A' l'.length l' ∧
      (∀ ad, A' = some ad → w.heap.size ≤ ad.block ∧ ad.block < w'.heap.size ∧ Bt w' ad.block) ∧ Below w.heap.size w w' := by
  have hf : [l, m].flatten = l ++ m := by simp
  refine (joined_c (L := [l, m]) (c := 2) w (two_C h0 h1 hc hd hr hs) (Nat.le_refl _) (by rw [hf, List.length_append]; exact hl) (by simp)).mono ?_
  rintro e w' ⟨v, rfl, hR, hb⟩
  obtain ⟨A', c', rfl, h1, h2⟩ := Kd.R_reads hR
  exact ⟨A', c', _, rfl, hf, h1, h2, R_blk hR, hb⟩
section
variable {P : Program} {ops : Array Oper} {rest : List Oper} {o : Oper} {a : Act} {Q : Exit → Act → World → Prop}
/-- append(v, y...), both rows of the call's own, of values of one cell each. -/
theorem wpl_append_rows {W : World} (hgd : o.guard = none) (s x : Operand) (t e : TypeId) (ho : o.op = .call { callee := .builtin .append, args := #[s, x], argTypes := #[t, t] }) (ht : P.underlying t = some (.slice e))
    {z : Value} {bytes : Nat} (hinfo : (P.info? e).map (fun i => (i.zero, i.size, i.bytes)) = some (some z, 1, bytes)) (hz : z.cells.size = 1) {b1 b2 n m : Nat} {v y : Value} {V U : List Value} (hs : a.eval s = v) (hx : a.eval x = y)
    (hv : W.ownsRow b1 e 1 v n V) (hy : W.ownsRow b2 e 1 y m U) (h1 : ∀ u ∈ U, u.oneCell' = true) (hl : (n + m) * bytes ≤ 140737488355328) (hn : n + m ≤ 140737488355328) (hbase : b1 ≤ W.heap.size)
    (h : ∀ v1 w1, w1.ownsRow b1 e 1 v1 (n + m) (V ++ U) → W.grownBy w1 v.ownBlock → (v1.ownBlock = v.ownBlock ∨ v1.ownBlock = some W.heap.size) → wpList P ops Q rest (a.put o.dst v1) w1) : wpList P ops Q (o :: rest) a W := by
  obtain ⟨i0, hi, hzz⟩ := Option.map_eq_some_iff.1 hinfo
  simp only [Prod.mk.injEq] at hzz
  obtain ⟨hz0, hz1, hz2⟩ := hzz
  have hrun : ∃ v1 w1, (Builtin.append_ #[t, t] o.type #[v, y]).run P W = .ok v1 w1 ∧ w1.ownsRow b1 e 1 v1 (n + m) (V ++ U) ∧ W.grownBy w1 v.ownBlock ∧ (v1.ownBlock = v.ownBlock ∨ v1.ownBlock = some W.heap.size) := by
    rcases hy.2 with ⟨rfl, h0⟩ | ⟨g, cap, cur, rfl, _, hb, hc, _, _, hcur⟩
    · subst h0
      have hU : U = [] := List.eq_nil_of_length_eq_zero (by simpa using hy.1)
      subst hU
      refine ⟨v, W, ?_, by simpa using hv, World.grownBy.refl W _, .inl rfl⟩
      rcases hv.2 with ⟨rfl, hn⟩ | ⟨g, cap, cur, rfl, _, _, hnc, _⟩
      · simp [Builtin.append_, run_underlying ht, sizeOf, typeInfo, hi, Builtin.lenOf, Builtin.firstCells]
      · simp [Builtin.append_, run_underlying ht, sizeOf, typeInfo, hi, Builtin.lenOf, Builtin.firstCells, hnc, storeCells]
    · have hU := hy.1
      have hcell : ∀ j u, U[j]? = some u → W.cell? ((⟨g, 0, none⟩ : Addr).add j) = some u := fun j u hu => by
        rw [add_plain, ← hcur, List.getElem?_take] at *
        split at hu
        · rw [Array.getElem?_toList] at hu
          exact (blk_cell hb j).trans hu
        · cases hu
      obtain ⟨v1, w1, hrun, h2, hg, _, hat⟩ := run_append_own_at (P := P) W b1 t o.type e i0 z 1 bytes ht hi hz0 hz1 hz2 hz (by decide) v n V hv ⟨g, 0, none⟩ m cap U hU hcell h1 (by simp only [maxLen]; omega) hl hbase
      exact ⟨v1, w1, hrun, h2, hg, hat⟩
  obtain ⟨v1, w1, hr1, h1, hg, hat⟩ := hrun
  refine wpList_plain hgd fun K hK => ?_
  unfold Oper.wp execOp
  simp only [ho, resolve, invoke, builtin, Sem.run_bind, Sem.run_pure, Result.andThen_ok, List.map_toArray, List.map_cons, List.map_nil, hs, hx, hr1]
  exact hK _ _ (h v1 w1 h1 hg hat)
end
/-- A stream and what belongs to it, with the value of its pending bytes' row. -/
structure Sv (w : World) (base s f g mn mx wd : Nat) (ms : Int) (p : List Int) (v : Value) : Prop where
  blk : w.heap[s]? = some (.cells (SC f v) 69 (0, 0))
  own : w.ownsRow base 5 1 v p.length (nums .u8 p)
  fi : Fi w f g mn mx wd ms p
section
variable {w w' : World} {S : Nat → Prop} {base s f g mn mx wd : Nat} {ms : Int} {p : List Int} {v : Value}
theorem Sv.kept (h : Sv w base s f g mn mx wd ms p v) (hk : Kept w w' S) (h1 : ¬ S s) (h2 : ¬ S f) (h3 : ¬ S g) (h4 : ∀ k, v.ownBlock = some k → ¬ S k) : Sv w' base s f g mn mx wd ms p v :=
  ⟨(hk.2 s (blk_lt h.blk) h1).trans h.blk, own_move h.own (fun k hk' => hk.2 k (own_lt h.own k hk') (h4 k hk')), h.fi.move (hk.2 f h.fi.lt h2) (hk.2 g h.fi.2.1.lt h3)⟩
theorem Fi.ring (h : Fi w f g mn mx wd ms p) : ∃ cs, w.heap[g]? = some (.cells cs 82 (0, 0)) := by
  obtain ⟨ring, t, _, hb, _⟩ := h.2.1
  exact ⟨_, hb⟩
/-- A block of another type is none of the stream's. -/
theorem Sv.other (h : Sv w base s f g mn mx wd ms p v) {k : Nat} {cs : Array Value} {t : TypeId} (hb : w.heap[k]? = some (.cells cs t (0, 0))) (ht : t ≠ 69 ∧ t ≠ 75 ∧ t ≠ 82) : k ≠ s ∧ k ≠ f ∧ k ≠ g := by
  refine ⟨fun e => ?_, fun e => ?_, fun e => ?_⟩
  · subst e; exact types_ne ht.1 (hb.symm.trans h.blk)
  · subst e; exact types_ne ht.2.1 (hb.symm.trans h.fi.1)
  · subst e; obtain ⟨cs', hb'⟩ := h.fi.ring; exact types_ne ht.2.2 (hb.symm.trans hb')
theorem Sv.pend (h : Sv w base s f g mn mx wd ms p v) {k : Nat} {cs : Array Value} {t : TypeId} (hb : w.heap[k]? = some (.cells cs t (0, 0))) (ht : t ≠ 5) : some k ≠ v.ownBlock := fun e => by
  obtain ⟨cs', hb'⟩ := own_typed h.own k e.symm
  exact types_ne ht (hb.symm.trans hb')
end
/-- The blocks of got chunks. -/
def Tb (w : World) (s f g : Nat) (v : Value) (k : Nat) : Prop := k ≠ s ∧ k ≠ f ∧ k ≠ g ∧ some k ≠ v.ownBlock ∧ Bt w k
theorem KB.kept {S : Nat → Prop} {w w' : World} (h : KB S w w') : Kept w w' S := ⟨h.size, h.block⟩
theorem kept_below {w w' : World} (h : Below w.heap.size w w') : Kept w w' (fun _ => False) := ⟨h.size, fun i hi _ => h.block i hi⟩
theorem kept_but {w w' : World} {g : Nat} (h : KeepBut w w' g none) : Kept w w' (fun k => k = g) := ⟨h.1, fun i hi hn => h.2 i hi hn (by simp)⟩
/-- A collection in the midst of its loop: the bytes up to now, the chunks got, the stream, the parameters' block. -/
structure PQ (w wr : World) (bx s f g mn mx wd : Nat) (ms : Int) (A : Option Addr) (t : List Int) (L : List (List Int)) (V : List Value) (p : List Int) (v : Value) : Prop where
  c : Kd.C (Kd.int .u8) wr A t.length t
  bt : ∀ ad, A = some ad → Bt wr ad.block
  chs : Chs wr (Tb wr s f g v) L V
  sv : Sv wr w.heap.size s f g mn mx wd ms p v
  box : wr.heap[bx]? = some (.cells #[.int .i64 mn, .int .i64 mx, .int .i64 wd, .int .u64 ms] 28 (0, 0))
structure PB (w wr : World) (bx s f g mn mx wd : Nat) (ms : Int) (A : Option Addr) (t : List Int) (y : Value) (L : List (List Int)) (V : List Value) (p : List Int) (v : Value) : Prop extends PQ w wr bx s f g mn mx wd ms A t L V p v where
  own : wr.ownsRow w.heap.size 30 1 y L.length V
section
variable {w wr w' : World} {S : Nat → Prop} {base bx s f g mn mx wd : Nat} {ms : Int} {A : Option Addr} {t : List Int} {y v : Value} {L : List (List Int)} {V : List Value} {p : List Int}
theorem PQ.kept (h : PQ w wr bx s f g mn mx wd ms A t L V p v) (hk : Kept wr w' S) (hS : ∀ k, S k → ∃ cs t, wr.heap[k]? = some (.cells cs t (0, 0)) ∧ t ≠ 5 ∧ (t ≠ 69 ∧ t ≠ 75 ∧ t ≠ 82) ∧ t ≠ 28) : PQ w w' bx s f g mn mx wd ms A t L V p v := by
  have n1 : ∀ k, Bt wr k → ¬ S k := fun k hb hs => by
    obtain ⟨cs, t, hc, h1, h2, h3⟩ := hS k hs
    exact hb.ne hc h1 rfl
  have n2 : ∀ k, (k = s ∨ k = f ∨ k = g) → ¬ S k := fun k hk hs => by
    obtain ⟨cs, t, hc, h1, h2, h3⟩ := hS k hs
    obtain ⟨a1, a2, a3⟩ := h.sv.other hc h2
    rcases hk with e | e | e
    · exact a1 e
    · exact a2 e
    · exact a3 e
  have n3 : ∀ k, v.ownBlock = some k → ¬ S k := fun k hk hs => by
    obtain ⟨cs, t, hc, h1, h2, h3⟩ := hS k hs
    exact h.sv.pend hc h1 hk.symm
  have n5 : ¬ S bx := fun hs => by
    obtain ⟨cs, t, hc, h1, h2, h3⟩ := hS bx hs
    exact types_ne h3 (hc.symm.trans h.box)
  refine ⟨C_kept h.c hk (fun ad e => n1 _ (h.bt ad e)), fun ad e => (h.bt ad e).kept hk (n1 _ (h.bt ad e)), ?_, h.sv.kept hk (n2 s (.inl rfl)) (n2 f (.inr (.inl rfl))) (n2 g (.inr (.inr rfl))) n3, (hk.2 bx (blk_lt h.box) n5).trans h.box⟩
  exact h.chs.kept hk (fun k hk => n1 k hk.2.2.2.2) (fun k hb => ⟨hb.1, hb.2.1, hb.2.2.1, hb.2.2.2.1, hb.2.2.2.2.kept hk (n1 k hb.2.2.2.2)⟩)
theorem PB.kept (h : PB w wr bx s f g mn mx wd ms A t y L V p v) (hk : Kept wr w' S) (hS : ∀ k, S k → ∃ cs, wr.heap[k]? = some (.cells cs 25 (0, 0))) : PB w w' bx s f g mn mx wd ms A t y L V p v := by
  have n4 : ∀ k, y.ownBlock = some k → ¬ S k := fun k hk hs => by
    obtain ⟨cs, hc⟩ := hS k hs
    obtain ⟨cs', hc'⟩ := own_typed h.own k hk
    exact types_ne (by decide) (hc.symm.trans hc')
  refine ⟨h.toPQ.kept hk (fun k hs => ?_), own_move h.own (fun k hk' => hk.2 k (own_lt h.own k hk') (n4 k hk'))⟩
  obtain ⟨cs, hc⟩ := hS k hs
  exact ⟨cs, _, hc, by decide, by decide, by decide⟩
theorem PB.below (h : PB w wr bx s f g mn mx wd ms A t y L V p v) (hb : Below wr.heap.size wr w') : PB w w' bx s f g mn mx wd ms A t y L V p v := h.kept (kept_below hb) (fun k hk => hk.elim)
theorem PB.tape {w0 : World} {l : List Int} {a : Int} {tp : Nat} (h : PB w wr bx s f g mn mx wd ms A t y L V p v) (hI : IsS25 w0 wr tp l a) (hb : KeepBut wr w' tp none) : PB w w' bx s f g mn mx wd ms A t y L V p v :=
  h.kept (kept_but hb) (fun k hk => by
    obtain ⟨A0, c0, hb, _⟩ := hI
    subst hk
    exact ⟨_, hb⟩)
theorem PB.alloc (h : PB w wr bx s f g mn mx wd ms A t y L V p v) (o : Obj) : PB w (wr.alloc o) bx s f g mn mx wd ms A t y L V p v := h.below ((Below.refl _ _).alloc (Nat.le_refl _) _)
theorem SC_inj {f : Nat} {v v' : Value} {t : TypeId} (h : some (Obj.cells (SC f v) t (0, 0)) = some (.cells (SC f v') t (0, 0))) : v = v' := by
  simp only [SC, Option.some.injEq, Obj.cells.injEq, Array.mk.injEq, List.cons.injEq] at h
  exact h.1.2.1
theorem Sv.st {base : Nat} (h : Sv wr base s f g mn mx wd ms p v) (h1 : base ≤ s) (h2 : base ≤ f) (h3 : base ≤ g) : St wr base s f g mn mx wd ms p := by
  refine ⟨⟨v, h.blk, h.own⟩, h.fi, fun e => ?_, fun e => ?_, h1, h2, h3⟩
  · have hb := h.blk
    rw [e] at hb
    exact types_ne (by decide) (hb.symm.trans h.fi.1)
  · have hb := h.blk
    obtain ⟨cs, hr⟩ := h.fi.ring
    rw [e] at hb
    exact types_ne (by decide) (hb.symm.trans hr)
/-- A Write in the midst of a collection. -/
theorem PB.write {w0 w8 : World} {e : Ending} {b : List Int} (h : PB w w0 bx s f g mn mx wd ms A t y L V p v) (hA : ∀ ad, A = some ad → some ad.block ≠ v.ownBlock) (hP : WritePost w.heap.size s f g mn mx wd ms p b w0 e w8) :
    ∃ (y8 v8 : Value) (V8 : List Value) (L8 : List (List Int)) (q8 : List Int), Hid (wrt mn mx wd ms b.length p b = (L8, q8)) ∧ e = .returned y8 ∧ w8.ownsRow w0.heap.size 30 1 y8 L8.length V8 ∧ w8.ownsRow w.heap.size 30 1 y L.length V ∧
      PQ w w8 bx s f g mn mx wd ms A t (L ++ L8) (V ++ V8) q8 v8 ∧ KB (fun k => k = s ∨ k = f ∨ k = g ∨ some k = v.ownBlock) w0 w8 := by
  obtain ⟨y8, v8, v7, V8, L8, q8, hw8, rfl, ho8, hCh8, hs8, hv8, hF8, hs7, hk8, hCn8, hvo8⟩ := hP
  obtain rfl : v7 = v := SC_inj (hs7.symm.trans h.sv.blk)
  have nb : ∀ k, Bt w0 k → some k ≠ v7.ownBlock → ¬ (k = s ∨ k = f ∨ k = g ∨ some k = v7.ownBlock) := fun k hb hn hs => by
    obtain ⟨cs, hb⟩ := hb
    obtain ⟨a1, a2, a3⟩ := h.sv.other hb (by decide)
    rcases hs with e | e | e | e
    · exact a1 e
    · exact a2 e
    · exact a3 e
    · exact hn e
  have nt : ∀ k cs t, w0.heap[k]? = some (.cells cs t (0, 0)) → t ≠ 5 → (t ≠ 69 ∧ t ≠ 75 ∧ t ≠ 82) → ¬ (k = s ∨ k = f ∨ k = g ∨ some k = v7.ownBlock) := fun k cs t hb h1 h2 hs => by
    obtain ⟨a1, a2, a3⟩ := h.sv.other hb h2
    rcases hs with e | e | e | e
    · exact a1 e
    · exact a2 e
    · exact a3 e
    · exact h.sv.pend hb h1 e
  refine ⟨y8, v8, V8, L8, q8, hw8, rfl, ho8, own_move h.own (fun k hk => hk8.block k (own_lt h.own k hk) ?_), ⟨C_kept h.c hk8.kept (fun ad e => nb _ (h.bt ad e) (hA ad e)), fun ad e => (h.bt ad e).kept hk8.kept (nb _ (h.bt ad e) (hA ad e)), ?_, ⟨hs8, hv8, hF8⟩, (hk8.block bx (blk_lt h.box) (nt bx _ _ h.box (by decide) (by decide))).trans h.box⟩, hk8⟩
  · obtain ⟨cs, hc⟩ := own_typed h.own k hk
    exact nt k cs _ hc (by decide) (by decide)
  · refine Chs.append (h.chs.kept hk8.kept (fun k hk => nb k hk.2.2.2.2 hk.2.2.2.1) (fun k hk => ⟨hk.1, hk.2.1, hk.2.2.1, fun e => ?_, hk.2.2.2.2.kept hk8.kept (nb k hk.2.2.2.2 hk.2.2.2.1)⟩)) ((Chs.and hCh8 hCn8).weaken (fun k hk => ⟨hk.1.1, hk.1.2.1, hk.1.2.2.1, hk.2, hk.1.2.2.2⟩))
    rcases hvo8 k e.symm with e | e
    · exact hk.2.2.2.1 e
    · obtain ⟨cs, hb⟩ := hk.2.2.2.2
      have := blk_lt hb
      omega
/-- Behind the append that takes the chunks in. -/
theorem PQ.grown {w9 : World} (h : PQ w wr bx s f g mn mx wd ms A t L V p v) {base n : Nat} {V0 : List Value} (ho : wr.ownsRow base 30 1 y n V0) (hg : wr.grownBy w9 y.ownBlock) : PQ w w9 bx s f g mn mx wd ms A t L V p v :=
  h.kept (S := fun k => y.ownBlock = some k) ⟨hg.size, fun k hk hn => hg.block k hk (fun e => hn e.symm)⟩ (fun k hk => by
    obtain ⟨cs, hc⟩ := own_typed ho k hk
    exact ⟨cs, _, hc, by decide, by decide, by decide⟩)
theorem PQ.below (h : PQ w wr bx s f g mn mx wd ms A t L V p v) (hb : Below wr.heap.size wr w') : PQ w w' bx s f g mn mx wd ms A t L V p v := h.kept (kept_below hb) (fun k hk => hk.elim)
theorem PQ.tape {w0 : World} {l : List Int} {a : Int} {tp : Nat} (h : PQ w wr bx s f g mn mx wd ms A t L V p v) (hI : IsS25 w0 wr tp l a) (hb : KeepBut wr w' tp none) : PQ w w' bx s f g mn mx wd ms A t L V p v :=
  h.kept (kept_but hb) (fun k hk => by
    obtain ⟨A0, c0, hb, _⟩ := hI
    subst hk
    exact ⟨_, _, hb, by decide, by decide, by decide⟩)
theorem PQ.alloc (h : PQ w wr bx s f g mn mx wd ms A t L V p v) (o : Obj) : PQ w (wr.alloc o) bx s f g mn mx wd ms A t L V p v := h.below ((Below.refl _ _).alloc (Nat.le_refl _) _)
/-- The blocks of a stream, written. -/
theorem Sv.far (h : Sv wr base s f g mn mx wd ms p v) {k : Nat} {cs : Array Value} {t : TypeId} (hb : wr.heap[k]? = some (.cells cs t (0, 0))) (h1 : t ≠ 5) (h2 : t ≠ 69 ∧ t ≠ 75 ∧ t ≠ 82) : ¬ (k = s ∨ k = f ∨ k = g ∨ some k = v.ownBlock) := fun hs => by
  obtain ⟨a1, a2, a3⟩ := h.other hb h2
  rcases hs with e | e | e | e
  · exact a1 e
  · exact a2 e
  · exact a3 e
  · exact h.pend hb h1 e
theorem Sv.farT {w0 : World} {l : List Int} {a : Int} {tp : Nat} {S : Nat → Prop} (h : Sv wr base s f g mn mx wd ms p v) (hI : IsS25 w0 wr tp l a) (hk : KB S wr w') (hS : ∀ k, S k → k = s ∨ k = f ∨ k = g ∨ some k = v.ownBlock) : IsS25 w0 w' tp l a := by
  obtain ⟨A0, c0, hb, hg0, hr0⟩ := hI
  exact ⟨A0, c0, (hk.block _ (blk_lt hb) (fun hs => h.far hb (by decide) (by decide) (hS _ hs))).trans hb, hg0, hr0⟩
/-- Behind Close: what was got is as it was. -/
theorem PB.close {w6 : World} (h : PB w wr bx s f g mn mx wd ms A t y L V p v) (hk : KB (fun k => k = s ∨ k = f ∨ k = g) wr w6) :
    Kd.C (Kd.int .u8) w6 A t.length t ∧ w6.ownsRow w.heap.size 30 1 y L.length V ∧ Chs w6 (Bt w6) L V ∧ w6.heap[bx]? = some (.cells #[.int .i64 mn, .int .i64 mx, .int .i64 wd, .int .u64 ms] 28 (0, 0)) := by
  have nt : ∀ k cs t, wr.heap[k]? = some (.cells cs t (0, 0)) → (t ≠ 69 ∧ t ≠ 75 ∧ t ≠ 82) → ¬ (k = s ∨ k = f ∨ k = g) := fun k cs t hb h2 hs => by
    obtain ⟨a1, a2, a3⟩ := h.sv.other hb h2
    rcases hs with e | e | e
    · exact a1 e
    · exact a2 e
    · exact a3 e
  have nb : ∀ k, Bt wr k → ¬ (k = s ∨ k = f ∨ k = g) := fun k hb => by
    obtain ⟨cs, hb⟩ := hb
    exact nt k cs _ hb (by decide)
  refine ⟨C_kept h.c hk.kept (fun ad e => nb _ (h.bt ad e)), own_move h.own (fun k hk' => hk.block k (own_lt h.own k hk') ?_), h.chs.kept hk.kept (fun k hk => nb k hk.2.2.2.2) (fun k hb => hb.2.2.2.2.kept hk.kept (nb k hb.2.2.2.2)), (hk.block bx (blk_lt h.box) (nt _ _ _ h.box (by decide))).trans h.box⟩
  obtain ⟨cs, hc⟩ := own_typed h.own k hk'
  exact nt k cs _ hc (by decide)
end
end Go.Proofs.Ytgfodmpdnhebjaa.Chk
