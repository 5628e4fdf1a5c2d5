/- Joined: the concatenation of byte strings in new memory. -/
import Derived.Test.YtgfodmpdnhebjaaFc
import Derived.Test.YtgfodmpdnhebjaaPxf19
namespace Go.Proofs.Ytgfodmpdnhebjaa.Fp
open Go.RowKit Go.Proofs.Ytgfodmpdnhebjaa.P Go.Proofs.Ytgfodmpdnhebjaa.FM Go.Proofs.YtgfodmpdnhebjaaW.PrintWords Go.Proofs.YtgfodmpdnhebjaaW.PrintLast Go.Proofs.YtgfodmpdnhebjaaW.PrintMore
set_option linter.unusedVariables false
/-- A row of byte strings, each of which came in, laid in block g. -/
theorem rows_C {W : World} {g : Nat} (ps : List (Option Addr × Nat × List Int)) (hn : ps.length ≤ 9223372036854775807)
    (h : ∀ j A c l, ps[j]? = some (A, c, l) → W.cell? ⟨g, j, none⟩ = some (.slice A l.length c) ∧ l.length ≤ c ∧ Kd.C (Kd.int .u8) W A l.length l) :
    Kd.C (Kd.slice 5 (Kd.int .u8)) W (some ⟨g, 0, none⟩) (ps.map (·.2.2)).length (ps.map (·.2.2)) := by
  refine ⟨rfl, by simpa using hn, fun _ => ⟨⟨g, 0, none⟩, rfl, fun j p hj => ?_⟩⟩
  rw [List.getElem?_map] at hj
  obtain ⟨⟨A, c, l⟩, hq, rfl⟩ := Option.map_eq_some_iff.1 hj
  obtain ⟨h1, h2, h3⟩ := h j A c l hq
  refine ⟨[.slice A l.length c], rfl, ⟨A, c, rfl, h2, h3⟩, fun i u hu => ?_⟩
  obtain ⟨hi, rfl⟩ := List.getElem?_eq_some_iff.1 hu
  have hi : i = 0 := by simpa using hi
  subst hi
  rw [add_plain]
  simpa [Kd.slice] using h1
theorem two_C {W : World} {g : Nat} {A B : Option Addr} {c d : Nat} {l m : List Int} (h0 : W.cell? ⟨g, 0, none⟩ = some (.slice A l.length c)) (h1 : W.cell? ⟨g, 1, none⟩ = some (.slice B m.length d)) (hc : l.length ≤ c) (hd : m.length ≤ d)
    (hr : Kd.C (Kd.int .u8) W A l.length l) (hs : Kd.C (Kd.int .u8) W B m.length m) : Kd.C (Kd.slice 5 (Kd.int .u8)) W (some ⟨g, 0, none⟩) [l, m].length [l, m] :=
  rows_C [(A, c, l), (B, d, m)] (by simp) fun j A' c' l' hj => by
    match j, hj with
    | 0, hj => simp only [List.getElem?_cons_zero, Option.some.injEq, Prod.mk.injEq] at hj; obtain ⟨rfl, rfl, rfl⟩ := hj; exact ⟨h0, hc, hr⟩
    | 1, hj => simp only [List.getElem?_cons_succ, List.getElem?_cons_zero, Option.some.injEq, Prod.mk.injEq] at hj; obtain ⟨rfl, rfl, rfl⟩ := hj; exact ⟨h1, hd, hs⟩
    | j + 2, hj => simp at hj
theorem one_C {W : World} {g : Nat} {A : Option Addr} {c : Nat} {l : List Int} (h0 : W.cell? ⟨g, 0, none⟩ = some (.slice A l.length c)) (hc : l.length ≤ c)
    (hr : Kd.C (Kd.int .u8) W A l.length l) : Kd.C (Kd.slice 5 (Kd.int .u8)) W (some ⟨g, 0, none⟩) [l].length [l] :=
  rows_C [(A, c, l)] (by simp) fun j A' c' l' hj => by
    match j, hj with
    | 0, hj => simp only [List.getElem?_cons_zero, Option.some.injEq, Prod.mk.injEq] at hj; obtain ⟨rfl, rfl, rfl⟩ := hj; exact ⟨h0, hc, hr⟩
    | j + 1, hj => simp at hj
theorem flatten_take_succ (L : List (List Int)) (n : Nat) (h : n < L.length) : (L.take (n + 1)).flatten = (L.take n).flatten ++ rd_L4 L n := by
  rw [List.take_succ_eq_append_getElem h, List.flatten_append]
  congr 1
  simp [rd_L4, List.getD, h]
theorem flatten_take_le (L : List (List Int)) (n : Nat) : (L.take n).flatten.length ≤ L.flatten.length := by
  have h := congrArg List.flatten (List.take_append_drop n L)
  rw [List.flatten_append] at h
  rw [← h, List.length_append]
  omega
theorem joined_loop (L : List (List Int)) (hL : L.flatten.length < 140737488355328) (hn : L.length ≤ 140737488351232) (d : Nat) : ∀ (k n : Nat), n ≤ L.length → L.length - n = d → d < k →
    stockyardmake_Joined.l0 k L (L.take n).flatten (n : Int) = some L.flatten := by
  induction d with
  | zero =>
    intro k n h0 h1 hk
    obtain ⟨k, rfl⟩ : ∃ m, k = m + 1 := ⟨k - 1, by omega⟩
    simp only [stockyardmake_Joined.l0]
    rw [if_neg (by omega), List.take_of_length_le (by omega)]
  | succ d ih =>
    intro k n h0 h1 hk
    obtain ⟨k, rfl⟩ : ∃ m, k = m + 1 := ⟨k - 1, by omega⟩
    have hl := flatten_take_le L (n + 1)
    have e := flatten_take_succ L n (by omega)
    have hl' := congrArg List.length e
    rw [List.length_append] at hl'
    simp only [stockyardmake_Joined.l0]
    rw [if_pos (by omega), if_pos (by omega), if_pos (by omega), ← e, show wrap64 ((n : Int) + 1) = ((n + 1 : Nat) : Int) by unfold wrap64; omega]
    exact ih k (n + 1) (by omega) (by omega) (by omega)
theorem joined_is {L : List (List Int)} (hL : L.flatten.length < 140737488355328) (hn : L.length ≤ 140737488351232) {k : Nat} (hk : L.length < k) : stockyardmake_Joined.f k L = some L.flatten :=
  joined_loop L hL hn L.length k 0 (by omega) (by omega) hk
theorem joined_c {A : Option Addr} {c : Nat} {L : List (List Int)} (w : World) (hr : Kd.C (Kd.slice 5 (Kd.int .u8)) w A L.length L) (hc : L.length ≤ c) (hL : L.flatten.length < 140737488355328) (hn : L.length ≤ 140737488351232) :
    Calls Try.prog 19 #[.slice A L.length c] w fun e w' => ∃ v : Value, e = .returned v ∧ Kd.R (Kd.int .u8) 5 w' w.heap.size (fun _ => True) v L.flatten ∧ Below w.heap.size w w' :=
  stockyardmake_Joined.calls _ A c L _ w hr hc (joined_is hL hn (Nat.lt_succ_self _))
theorem joined_r {A : Option Addr} {c : Nat} {L : List (List Int)} (w : World) (hr : Kd.C (Kd.slice 5 (Kd.int .u8)) w A L.length L) (hc : L.length ≤ c) (hL : L.flatten.length < 140737488355328) (hn : L.length ≤ 140737488351232) :
    Calls Try.prog 19 #[.slice A L.length c] w fun e w' => ∃ (A' : Option Addr) (c' : Nat) (l' : List Int), e = .returned (.slice A' l'.length c') ∧ Hid (l' = L.flatten) ∧ l'.length ≤ c' ∧ Kd.C (Kd.int .u8) w' A' l'.length l' ∧ Below w.heap.size w w' :=
  (joined_c w hr hc hL hn).mono fun e w' ⟨v, he, hR, hb⟩ => by
    obtain ⟨A', c', hv, h1, h2⟩ := Kd.R_reads hR
    exact ⟨A', c', _, by rw [he, hv], rfl, h1, h2, hb⟩
theorem joined_o {A : Option Addr} {c : Nat} {L : List (List Int)} (w : World) (hr : Kd.C (Kd.slice 5 (Kd.int .u8)) w A L.length L) (hc : L.length ≤ c) (hL : L.flatten.length < 140737488355328) (hn : L.length ≤ 140737488351232) (h0 : 0 < L.flatten.length) :
    Calls Try.prog 19 #[.slice A L.length c] w fun e w' => ∃ (g c' : Nat) (l' : List Int), e = .returned (.slice (some ⟨g, 0, none⟩) l'.length c') ∧ Hid (l' = L.flatten) ∧ w.heap.size ≤ g ∧ g < w'.heap.size ∧ Kd.R (Kd.int .u8) 5 w' w.heap.size (fun _ => True) (.slice (some ⟨g, 0, none⟩) l'.length c') l' ∧ Below w.heap.size w w' :=
  (joined_c w hr hc hL hn).mono fun e w' ⟨v, he, hR, hb⟩ => by
    obtain ⟨g, c', hv, h1, h2, _⟩ := Kd.R_form hR h0
    exact ⟨g, c', _, by rw [he, hv], rfl, h1, h2, by rw [← hv]; exact hR, hb⟩
theorem fold_any {v n : Int} (w : World) (hv : -9223372036854775808 ≤ v ∧ v ≤ 9223372036854775807) (hn : 0 ≤ n ∧ n ≤ 9223372036854775807) :
    Calls Try.prog 18 #[.int .i64 v, .int .i64 n] w fun e w' => ∃ r : Int, e = .returned (.int .i64 r) ∧ 0 ≤ r ∧ r ≤ n ∧ Drawn0 w w' :=
  (stockyardmake_Fold.calls v n _ w (fold_is hv hn.2)).mono fun e w' ⟨he, hd⟩ => by
    refine ⟨_, he, ?_, ?_, hd⟩ <;> (unfold foldS; split <;> try omega)
    · exact Int.emod_nonneg _ (by omega)
    · exact Int.le_of_lt (Int.emod_lt_of_pos _ (by omega))
theorem fold_c {v : Int} {n : Nat} (w : World) (hv : -9223372036854775808 ≤ v ∧ v ≤ 9223372036854775807) (hn : (n : Int) ≤ 9223372036854775807) (h0 : 0 < n) :
    Calls Try.prog 18 #[.int .i64 v, .int .i64 (n : Int)] w fun e w' => ∃ p : Nat, e = .returned (.int .i64 (p : Int)) ∧ p < n ∧ Drawn0 w w' :=
  (stockyardmake_Fold.calls v n _ w (fold_is hv hn)).mono fun e w' ⟨he, hd⟩ => by
    have hr := foldS_range (v := v) (n := n) (by omega)
    exact ⟨(foldS v n).toNat, by rw [he, Int.toNat_of_nonneg hr.1], by omega, hd⟩
/-- 'xs[lo:hi]' of what is read: the part, under a new name. -/
theorem cut_r {P : Program} {α : Type} (k : Kd α) (t e : TypeId) {i : TypeInfo} (ht : P.underlying t = some (.slice e)) (hi : P.info? e = some i) (hsz : i.size = k.sz) (A : Option Addr) (c : Nat) (xs : List α) (lo hi' : Nat) (h1 : lo ≤ hi') (h2 : hi' ≤ xs.length) (hc : xs.length ≤ c) :
    ∃ (A' : Option Addr) (c' : Nat) (l : List α), Hid (l = (xs.take hi').drop lo) ∧ l.length ≤ c' ∧ (∀ w, k.C w A xs.length xs → k.C w A' l.length l) ∧
      ∀ W : World, (Instr.slice t (.slice A xs.length c) (some (.int .i64 (lo : Int))) (some (.int .i64 (hi' : Int))) none).run P W = .ok (.slice A' l.length c') W := by
  have hl : ((xs.take hi').drop lo).length = hi' - lo := by rw [List.length_drop, List.length_take]; omega
  refine ⟨if c = lo then A else A.map (·.add (lo * k.sz)), c - lo, (xs.take hi').drop lo, rfl, by omega, fun w h => Kd.C_mid h h1 h2 hc, fun W => ?_⟩
  rw [cut_mid t e .i64 .i64 ht hi k.sz hsz A xs.length c lo hi' (by omega) (by omega) (by omega) hc W]
  simp only [Int.toNat_natCast]
  rw [hl]
/-- At a call inside a region that only reads. -/
theorem quiet_d {P : Program} {f : FuncId} {args : Array Value} {W : World} {n : Nat} {v : Value} (h : Calls P f args (W.drewN n) fun e w' => e = .returned v ∧ Drawn0 (W.drewN n) w') :
    Calls P f args (W.drewN n) fun e w' => e = .returned v ∧ ∃ m, w' = W.drewN m :=
  h.mono fun e w' ⟨he, hd⟩ => by
    obtain ⟨k, hk⟩ := hd.out
    exact ⟨he, n + k, by rw [hk, World.drewN_drewN]⟩
theorem C_cells {k : IntKind} {w : World} {A : Option Addr} {l : List Int} (h : Kd.C (Kd.int k) w A l.length l) (h0 : 0 < l.length) : ∃ ad, A = some ad ∧ ad.block < w.heap.size ∧ ∀ j : Nat, j < l.length → w.cell? (ad.add j) = some (.int k (rd l j)) := by
  obtain ⟨ad, rfl, hc⟩ := h.2.2 h0
  have key : ∀ j : Nat, j < l.length → w.cell? (ad.add j) = some (.int k (rd l j)) := fun j hj => by
    obtain ⟨c, hs, hK, hcell⟩ := hc j _ (List.getElem?_eq_getElem hj)
    have hK' : c = [.int k l[j]] := hK
    subst hK'
    have := hcell 0 _ rfl
    simpa [rd, List.getD, hj, Kd.int, Kd.scalar] using this
  refine ⟨ad, rfl, ?_, key⟩
  have := World.block_lt_of_cell? w _ (key 0 h0)
  simpa [Addr.add] using this
theorem cell_new (w : World) (cs : Array Value) (t : TypeId) (fz : Nat × Nat) (j : Nat) : (w.alloc (.cells cs t fz)).cell? ⟨w.heap.size, j, none⟩ = cs[j]? :=
  cell_of_row _ _ j cs t fz (heap_alloc_new w _)
theorem IsBytes.append {l m : List Int} (hl : IsBytes l) (hm : IsBytes m) : IsBytes (l ++ m) := fun x hx => by
  rcases List.mem_append.1 hx with h | h
  · exact hl x h
  · exact hm x h
end Go.Proofs.Ytgfodmpdnhebjaa.Fp
