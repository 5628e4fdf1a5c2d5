/- The chunker's Stream. -/
import Derived.Test.YtgfodmpdnhebjaaFin3
import Derived.Deep.DeepMust
namespace Go.Proofs.Ytgfodmpdnhebjaa.Chk
open Go.RowKit Go.Proofs.Ytgfodmpdnhebjaa.P Go.Proofs.Ytgfodmpdnhebjaa.Fp Go.Proofs.Ytgfodmpdnhebjaa.FM Go.Proofs.Ytgfodmpdnhebjaa.Roll Go.Proofs.Ytgfodmpdnhebjaa.Ck Go.Proofs.YtgfodmpdnhebjaaW.PrintWords Go.Proofs.YtgfodmpdnhebjaaW.PrintLast Go.Proofs.YtgfodmpdnhebjaaW.PrintMore
set_option linter.unusedVariables false
set_option linter.unusedSimpArgs false
/-- A stream without bytes: its block is s, its finder's f and g. -/
def NewSPost (mn mx wd : Nat) (ms : Int) (w0 : World) (e : Ending) (w' : World) : Prop := ∃ s f g, e = .returned (.tuple #[.pointer (some ⟨s, 0, none⟩), .int .i64 0]) ∧ w'.heap[s]? = some (.cells #[.pointer (some ⟨f, 0, none⟩), .slice none 0 0] 69 (0, 0)) ∧ Fi w' f g mn mx wd ms [] ∧ w0.heap.size ≤ s ∧ w0.heap.size ≤ f ∧ w0.heap.size ≤ g ∧ Below w0.heap.size w0 w'
set_option maxHeartbeats 4000000 in
set_option maxRecDepth 100000 in
theorem news_ok {mn mx wd : Nat} {ms : Int} (w0 : World) (h : Okp mn mx wd ms) : Calls Try.prog 28 #[.agg #[.int .i64 mn, .int .i64 mx, .int .i64 wd, .int .u64 ms]] w0 (NewSPost mn mx wd ms w0) := by
  have H := Lib.hid h
  clear h
  go_enter Try.func28, Try.ntmps28
  go_wp2_with fail
  refine (newf_ok _ H.out).mono ?_
  rintro e w1 ⟨f, g, rfl, hF1, hf, hg, hb1⟩
  have B1 : Below w0.heap.size w0 w1 := stepB ((Below.refl w0.heap.size w0).alloc (Nat.le_refl _) _) hb1
  have HF1 := Lib.hid hF1
  clear hF1 hb1
  try simp only [World.size_alloc] at hf hg
  go_wp2_with fail
  go_ret2
  have := B1.size
  exact ⟨w1.heap.size, f, g, rfl, heap_alloc_new _ _, HF1.out.kb (KB.refl (fun _ => False) _ |>.alloc _) (fun h => h) (fun h => h), by omega, by omega, by omega, B1.alloc (by omega) _⟩
set_option maxHeartbeats 4000000 in
set_option maxRecDepth 100000 in
theorem news_no {mn mx wd ms : Int} (w0 : World) (h : ¬ Okq mn mx wd) : Calls Try.prog 28 #[.agg #[.int .i64 mn, .int .i64 mx, .int .i64 wd, .int .u64 ms]] w0 fun e w' => e = .returned (.tuple #[.pointer none, .int .i64 240]) ∧ Below w0.heap.size w0 w' := by
  have H := Lib.hid h
  clear h
  go_enter Try.func28, Try.ntmps28
  go_wp2_with fail
  refine (newf_no _ H.out).mono ?_
  rintro e w1 ⟨rfl, hb1⟩
  have B1 : Below w0.heap.size w0 w1 := stepB ((Below.refl w0.heap.size w0).alloc (Nat.le_refl _) _) hb1
  go_wp2_with fail
  go_ret2
  exact ⟨rfl, B1⟩
end Go.Proofs.Ytgfodmpdnhebjaa.Chk
namespace Go.Proofs.Ytgfodmpdnhebjaa.Chk
open Go.RowKit Go.Proofs.Ytgfodmpdnhebjaa.P Go.Proofs.Ytgfodmpdnhebjaa.Fp Go.Proofs.Ytgfodmpdnhebjaa.FM Go.Proofs.Ytgfodmpdnhebjaa.Roll Go.Proofs.Ytgfodmpdnhebjaa.Ck Go.Proofs.YtgfodmpdnhebjaaW.PrintWords Go.Proofs.YtgfodmpdnhebjaaW.PrintLast Go.Proofs.YtgfodmpdnhebjaaW.PrintMore
set_option linter.unusedVariables false
set_option linter.unusedSimpArgs false
/-- A stream's cells: its finder, and the row of the pending bytes. -/
def SC (f : Nat) (v : Value) : Array Value := #[.pointer (some ⟨f, 0, none⟩), v]
/-- Block s is a stream of these parameters whose pending bytes are p; f and g are its finder's blocks. The pending bytes' row is the stream's own, made at base or later. -/
structure St (w : World) (base s f g mn mx wd : Nat) (ms : Int) (p : List Int) : Prop where
  row : ∃ v : Value, w.heap[s]? = some (.cells (SC f v) 69 (0, 0)) ∧ w.ownsRow base 5 1 v p.length (nums .u8 p)
  fi : Fi w f g mn mx wd ms p
  sf : s ≠ f
  sg : s ≠ g
  hs : base ≤ s
  hf : base ≤ f
  hg : base ≤ g
theorem St.new {w : World} {base s f g mn mx wd : Nat} {ms : Int} (h : w.heap[s]? = some (.cells #[.pointer (some ⟨f, 0, none⟩), .slice none 0 0] 69 (0, 0))) (hF : Fi w f g mn mx wd ms []) (h1 : base ≤ s) (h2 : base ≤ f) (h3 : base ≤ g) : St w base s f g mn mx wd ms [] := by
  refine ⟨⟨_, h, own_nil _ _ _ _⟩, hF, fun e => ?_, fun e => ?_, h1, h2, h3⟩
  · subst e
    rw [hF.1] at h
    cases h
  · subst e
    obtain ⟨ring, t, _, hb, _⟩ := hF.2.1
    rw [hb] at h
    injection h with h
    injection h with _ h _
    exact absurd h (by decide)
/-- Pending returns the number of the pending bytes. -/
theorem pending_c {base s f g mn mx wd : Nat} {ms : Int} {p : List Int} (w0 : World) (h : St w0 base s f g mn mx wd ms p) : Calls Try.prog 32 #[.pointer (some ⟨s, 0, none⟩)] w0 fun e w' => e = .returned (.int .i64 p.length) ∧ w' = w0 := by
  obtain ⟨v, hb, hv⟩ := h.row
  have c1 : w0.cell? ⟨s, 1, none⟩ = some v := blk_cell hb 1
  obtain ⟨A, c, rfl⟩ : ∃ A c, v = .slice A p.length c := by
    rcases hv.2 with ⟨rfl, h0⟩ | ⟨g', cap, cur, rfl, _⟩
    · exact ⟨none, 0, by rw [h0]⟩
    · exact ⟨_, _, rfl⟩
  clear h hb hv
  go_enter Try.func32, Try.ntmps32
  go_wp2_with fail
  go_ret
  exact ⟨rfl, rfl⟩
/-- What is behind take, and Close: the pending bytes, readable; the stream has none. -/
def TakePost (base s f g mn mx wd : Nat) (ms : Int) (p q : List Int) (w0 : World) (e : Ending) (w' : World) : Prop := ∃ A c, e = .returned (.slice A p.length c) ∧ p.length ≤ c ∧ Kd.C (Kd.int .u8) w' A p.length p ∧ (∀ ad, A = some ad → base ≤ ad.block ∧ ad.block < w'.heap.size ∧ ad.block ≠ s ∧ ad.block ≠ f ∧ ad.block ≠ g ∧ ∃ cs, w'.heap[ad.block]? = some (.cells cs 5 (0, 0))) ∧ w'.heap[s]? = some (.cells (SC f (.slice none 0 0)) 69 (0, 0)) ∧ Fi w' f g mn mx wd ms q
set_option maxHeartbeats 4000000 in
set_option maxRecDepth 100000 in
theorem take_c {base s f g mn mx wd : Nat} {ms : Int} {p q : List Int} (w0 : World) {v : Value} (hb : w0.heap[s]? = some (.cells (SC f v) 69 (0, 0))) (hv : w0.ownsRow base 5 1 v p.length (nums .u8 p)) (hF : Fi w0 f g mn mx wd ms q) (sf : s ≠ f) (sg : s ≠ g) :
    Calls Try.prog 40 #[.pointer (some ⟨s, 0, none⟩)] w0 fun e w' => TakePost base s f g mn mx wd ms p q w0 e w' ∧ KB (fun k => k = s) w0 w' := by
  have c1 : w0.cell? ⟨s, 1, none⟩ = some v := blk_cell hb 1
  have z1 : w0.frozen? ⟨s, 1, none⟩ = false := blk_frozen hb 1
  obtain ⟨A, c, rfl⟩ : ∃ A c, v = .slice A p.length c := by
    rcases hv.2 with ⟨rfl, h0⟩ | ⟨g', cap, cur, rfl, _⟩
    · exact ⟨none, 0, by rw [h0]⟩
    · exact ⟨_, _, rfl⟩
  have hc : p.length ≤ c := by
    rcases hv.2 with ⟨h, h0⟩ | ⟨g', cap, cur, h, _, _, h1, _⟩
    · omega
    · cases h
      exact h1
  have Hb := Lib.hid hb
  have Hv := Lib.hid hv
  have HF := Lib.hid hF
  clear hb hv hF
  go_enter Try.func40, Try.ntmps40
  go_wp2_with fail
  go_ret
  have hne : ∀ k, (Value.slice A p.length c).ownBlock = some k → k ≠ s ∧ k ≠ f ∧ k ≠ g ∧ base ≤ k ∧ k < w0.heap.size := fun k hk => by
    obtain ⟨cs, hcs⟩ := own_typed Hv.out k hk
    refine ⟨fun e => ?_, fun e => ?_, fun e => ?_, own_base Hv.out k hk, own_lt Hv.out k hk⟩
    · subst e
      rw [Hb.out] at hcs
      injection hcs with h
      injection h with _ h _
      exact absurd h (by decide)
    · subst e
      rw [HF.out.1] at hcs
      injection hcs with h
      injection h with _ h _
      exact absurd h (by decide)
    · subst e
      obtain ⟨ring, t, _, hb, _⟩ := HF.out.2.1
      rw [hb] at hcs
      injection hcs with h
      injection h with _ h _
      exact absurd h (by decide)
  have hown := own_move (w1 := w0.setCell ⟨s, 1, none⟩ (.slice none 0 0)) Hv.out (fun k hk => Go.heap_setCell_other _ _ _ _ (hne k hk).1)
  have hR := Kd.R_of_own (ok := fun _ => True) (enc := Value.int .u8) (h1 := fun _ => rfl) (xs := p) hown (fun _ _ => trivial)
  refine ⟨⟨A, p.length, rfl, Nat.le_refl _, (Kd.R_reads' hR).2.2, fun ad had => ?_, Go.Joins.block_setCell Hb.out _, HF.out.move (Go.heap_setCell_other _ _ _ _ (fun h => sf h.symm)) (Go.heap_setCell_other _ _ _ _ (fun h => sg h.symm))⟩, (KB.refl (fun k => k = s) w0).set (p := ⟨s, 1, none⟩) (.inl rfl) _⟩
  subst had
  have h := hne ad.block rfl
  exact ⟨h.2.2.2.1, by simpa [World.setCell] using h.2.2.2.2, h.1, h.2.1, h.2.2.1, own_typed hown ad.block rfl⟩
set_option maxHeartbeats 4000000 in
set_option maxRecDepth 100000 in
/-- Close returns the pending bytes; then the stream has none, and its finder is at the begin of a chunk. -/
theorem close_c {base s f g mn mx wd : Nat} {ms : Int} {p : List Int} (w0 : World) (h : St w0 base s f g mn mx wd ms p) (h0 : 0 < mx) :
    Calls Try.prog 31 #[.pointer (some ⟨s, 0, none⟩)] w0 fun e w' => TakePost base s f g mn mx wd ms p [] w0 e w' ∧ KB (fun k => k = s ∨ k = f ∨ k = g) w0 w' := by
  obtain ⟨v, hb, hv⟩ := h.row
  have c0 : w0.cell? ⟨s, 0, none⟩ = some (.pointer (some ⟨f, 0, none⟩)) := blk_cell hb 0
  have Hb := Lib.hid hb
  have Hv := Lib.hid hv
  have H := Lib.hid h
  clear hb hv h
  go_enter Try.func31, Try.ntmps31
  go_wp2_with fail
  refine (reset_f _ H.out.fi.1 H.out.fi.2.1 H.out.fi.2.2.1 h0).mono ?_
  rintro e w1 ⟨rfl, hF1, hk1⟩
  have hns : ¬ (s = f ∨ s = g) := fun h => h.elim H.out.sf H.out.sg
  have hb1 := (hk1.block s (blk_lt Hb.out) hns).trans Hb.out
  have hv1 := own_keep Hv.out hk1 (fun k cs hs => by
    rcases hs with rfl | rfl
    · rw [H.out.fi.1]
      intro h
      injection h with h
      injection h with _ h _
      exact absurd h (by decide)
    · obtain ⟨ring, t, _, hb, _⟩ := H.out.fi.2.1
      rw [hb]
      intro h
      injection h with h
      injection h with _ h _
      exact absurd h (by decide))
  have Hb1 := Lib.hid hb1
  have Hv1 := Lib.hid hv1
  have HF1 := Lib.hid hF1
  have Hk1 := Lib.hid hk1
  clear hb1 hv1 hF1 hk1 c0
  go_wp2_with fail
  refine (take_c w1 Hb1.out Hv1.out HF1.out H.out.sf H.out.sg).mono ?_
  rintro e w2 ⟨⟨A, c, rfl, hc, hC, hA, hs2, hF2⟩, hk2⟩
  go_wp2_with fail
  go_ret
  refine ⟨⟨A, c, rfl, hc, hC, hA, hs2, hF2⟩, ((KB.refl _ _).then_ Hk1.out (fun i hi => .inl (.inr hi))).then_ hk2 (fun i hi => .inl (.inl hi))⟩
end Go.Proofs.Ytgfodmpdnhebjaa.Chk
namespace Go.Proofs.Ytgfodmpdnhebjaa.Chk
open Go.RowKit Go.Proofs.Ytgfodmpdnhebjaa.P Go.Proofs.Ytgfodmpdnhebjaa.Fp Go.Proofs.Ytgfodmpdnhebjaa.FM Go.Proofs.Ytgfodmpdnhebjaa.Roll Go.Proofs.Ytgfodmpdnhebjaa.Ck Go.Proofs.YtgfodmpdnhebjaaW.PrintWords Go.Proofs.YtgfodmpdnhebjaaW.PrintLast Go.Proofs.YtgfodmpdnhebjaaW.PrintMore
set_option linter.unusedVariables false
set_option linter.unusedSimpArgs false
/-- What Write returns of a stream with the pending bytes p, and what is pending then. -/
def wrt (mn mx wd : Nat) (ms : Int) : Nat → List Int → List Int → List (List Int) × List Int
  | 0, p, _ => ([], p)
  | n + 1, p, b => if b.length = 0 then ([], p) else match first mn mx wd ms (p ++ b) p.length b.length with
    | none => ([], p ++ b)
    | some r => ((p ++ b).take r :: (wrt mn mx wd ms n [] (b.drop (r - p.length))).1, (wrt mn mx wd ms n [] (b.drop (r - p.length))).2)
theorem wrt_nil {mn mx wd : Nat} {ms : Int} (m : Nat) (p b : List Int) (h : b.length = 0) : wrt mn mx wd ms m p b = ([], p) := by
  cases m with
  | zero => rfl
  | succ m => unfold wrt; rw [if_pos h]
/-- Values that are rows of bytes, all of them in blocks of T. -/
def Chs (w : World) (T : Nat → Prop) : List (List Int) → List Value → Prop
  | [], [] => True
  | c :: L, v :: V => (∃ A cap, v = .slice A c.length cap ∧ c.length ≤ cap ∧ Kd.C (Kd.int .u8) w A c.length c ∧ ∀ ad, A = some ad → T ad.block) ∧ Chs w T L V
  | _, _ => False
theorem Chs.length {w : World} {T : Nat → Prop} : ∀ {L : List (List Int)} {V : List Value}, Chs w T L V → V.length = L.length
  | [], [], _ => rfl
  | _ :: _, _ :: _, h => by simp [Chs.length h.2]
  | [], _ :: _, h => h.elim
  | _ :: _, [], h => h.elim
theorem infoS : (Try.prog.info? 30).map (fun i => (i.zero, i.size, i.bytes)) = some (some (.slice none 0 0), 1, 24) := by kernel_rfl
theorem C_kb {S : Nat → Prop} {w w' : World} {A : Option Addr} {n : Nat} {xs : List Int} (h : Kd.C (Kd.int .u8) w A n xs) (hk : KB S w w') (hf : ∀ ad, A = some ad → ¬ S ad.block) : Kd.C (Kd.int .u8) w' A n xs :=
  Kd.C_foot_neS (fun h => h) h (fun ad h _ => hf ad h) w' ⟨hk.size, hk.block⟩
theorem Chs.kb {S T T' : Nat → Prop} {w w' : World} (hk : KB S w w') (h1 : ∀ k, T k → ¬ S k) (h2 : ∀ k, T k → T' k) : ∀ {L : List (List Int)} {V : List Value}, Chs w T L V → Chs w' T' L V
  | [], [], _ => trivial
  | _ :: _, _ :: _, ⟨⟨A, cap, e, hc, hC, hA⟩, r⟩ => ⟨⟨A, cap, e, hc, C_kb hC hk (fun ad h => h1 _ (hA ad h)), fun ad h => h2 _ (hA ad h)⟩, Chs.kb hk h1 h2 r⟩
  | [], _ :: _, h => h.elim
  | _ :: _, [], h => h.elim
theorem Chs.weaken {T T' : Nat → Prop} {w : World} (h2 : ∀ k, T k → T' k) : ∀ {L : List (List Int)} {V : List Value}, Chs w T L V → Chs w T' L V
  | [], [], _ => trivial
  | _ :: _, _ :: _, ⟨⟨A, cap, e, hc, hC, hA⟩, r⟩ => ⟨⟨A, cap, e, hc, hC, fun ad h => h2 _ (hA ad h)⟩, Chs.weaken h2 r⟩
  | [], _ :: _, h => h.elim
  | _ :: _, [], h => h.elim
theorem Chs.and {T T' : Nat → Prop} {w : World} : ∀ {L : List (List Int)} {V : List Value}, Chs w T L V → Chs w T' L V → Chs w (fun k => T k ∧ T' k) L V
  | [], [], _, _ => trivial
  | _ :: _, _ :: _, ⟨⟨A, cap, e, hc, hC, hA⟩, r⟩, ⟨⟨A', cap', e', _, _, hA'⟩, r'⟩ => ⟨⟨A, cap, e, hc, hC, fun ad h => ⟨hA ad h, hA' ad (by rw [e] at e'; injection e' with e' _ _; rw [← e']; exact h)⟩⟩, Chs.and r r'⟩
  | [], _ :: _, h, _ => h.elim
  | _ :: _, [], h, _ => h.elim
theorem Chs.snoc {T : Nat → Prop} {w : World} {c : List Int} {v : Value} (hv : ∃ A cap, v = .slice A c.length cap ∧ c.length ≤ cap ∧ Kd.C (Kd.int .u8) w A c.length c ∧ ∀ ad, A = some ad → T ad.block) : ∀ {L : List (List Int)} {V : List Value}, Chs w T L V → Chs w T (L ++ [c]) (V ++ [v])
  | [], [], _ => ⟨hv, trivial⟩
  | _ :: _, _ :: _, h => ⟨h.1, Chs.snoc hv h.2⟩
  | [], _ :: _, h => h.elim
  | _ :: _, [], h => h.elim
theorem types_ne {x y : Array Value} {t u : TypeId} (ht : t ≠ u) : some (Obj.cells x t (0, 0)) ≠ some (Obj.cells y u (0, 0)) := fun h => by
  injection h with h
  injection h with _ h _
  exact ht h
/-- A find's outcome, as the loop wants it. -/
theorem find_out {f g mn mx wd m : Nat} {ms : Int} {q b : List Int} {e : Ending} {w4 : World} (hlt : 0 < b.length) (hbm : b.length ≤ m)
    (h : (∃ r : Nat, first mn mx wd ms (q ++ b) q.length b.length = some r ∧ e = .returned (.tuple #[.int .i64 ((r - q.length : Nat) : Int), .bool true]) ∧ Fi w4 f g mn mx wd ms []) ∨
      (first mn mx wd ms (q ++ b) q.length b.length = none ∧ e = .returned (.tuple #[.int .i64 (b.length : Int), .bool false]) ∧ Fi w4 f g mn mx wd ms (q ++ b))) :
    ∃ (n : Nat) (ok : Bool), e = .returned (.tuple #[.int .i64 (n : Int), .bool ok]) ∧ n ≤ b.length ∧ 0 < n ∧ Hid (Fi w4 f g mn mx wd ms (if ok = true then [] else q ++ b.take n)) ∧
      Hid ((ok = true → wrt mn mx wd ms m q b = ((q ++ b.take n) :: (wrt mn mx wd ms (m - 1) [] (b.drop n)).1, (wrt mn mx wd ms (m - 1) [] (b.drop n)).2)) ∧ (ok = false → n = b.length ∧ wrt mn mx wd ms m q b = ([], q ++ b.take n))) := by
  obtain ⟨m, rfl⟩ : ∃ k, m = k + 1 := ⟨m - 1, by omega⟩
  rcases h with ⟨r, h1, h2, h3⟩ | ⟨h1, h2, h3⟩
  · obtain ⟨g1, g2, _, _⟩ := first_some h1
    have et : (q ++ b).take r = q ++ b.take (r - q.length) := by rw [List.take_append, List.take_of_length_le (by omega)]
    refine ⟨r - q.length, true, h2, by omega, by omega, Lib.hid h3, Lib.hid ⟨fun _ => ?_, fun h => by cases h⟩⟩
    conv => lhs; unfold wrt
    rw [if_neg (by omega), h1]
    simp only [et, Nat.add_sub_cancel]
  · refine ⟨b.length, false, h2, Nat.le_refl _, hlt, Lib.hid (by rw [List.take_length]; exact h3), Lib.hid ⟨fun h => (by cases h), fun _ => ⟨rfl, ?_⟩⟩⟩
    conv => lhs; unfold wrt
    rw [if_neg (by omega), h1, List.take_length]
/-- Behind a Write: the complete chunks, the rest pending; of what was there only the stream, its finder and the row of its pending bytes may have changed. -/
def WritePost (base s f g mn mx wd : Nat) (ms : Int) (p b : List Int) (w0 : World) (e : Ending) (w' : World) : Prop :=
  ∃ (y v v0 : Value) (V : List Value) (L : List (List Int)) (q : List Int), Hid (wrt mn mx wd ms b.length p b = (L, q)) ∧ e = .returned y ∧ w'.ownsRow w0.heap.size 30 1 y L.length V ∧ Chs w' (fun k => k ≠ s ∧ k ≠ f ∧ k ≠ g ∧ ∃ cs, w'.heap[k]? = some (.cells cs 5 (0, 0))) L V ∧
    w'.heap[s]? = some (.cells (SC f v) 69 (0, 0)) ∧ w'.ownsRow base 5 1 v q.length (nums .u8 q) ∧ Fi w' f g mn mx wd ms q ∧ w0.heap[s]? = some (.cells (SC f v0) 69 (0, 0)) ∧ KB (fun k => k = s ∨ k = f ∨ k = g ∨ some k = v0.ownBlock) w0 w' ∧ Chs w' (fun k => some k ≠ v.ownBlock) L V ∧ (∀ k, v.ownBlock = some k → some k = v0.ownBlock ∨ w0.heap.size ≤ k)
set_option maxHeartbeats 8000000 in
set_option maxRecDepth 100000 in
theorem write_c {base s f g mn mx wd : Nat} {ms : Int} {p b : List Int} {A : Option Addr} {c : Nat} (w0 : World) (h : St w0 base s f g mn mx wd ms p) (hO : Okp mn mx wd ms) (hr : Kd.C (Kd.int .u8) w0 A b.length b) (hc : b.length ≤ c) (hb : IsBytes b) (hl : b.length ≤ 1048576) (hp : p.length ≤ 1048576)
    (hA : ∀ ad, A = some ad → ad.block < w0.heap.size ∧ ad.block ≠ s ∧ ad.block ≠ f ∧ ad.block ≠ g) (hAp : ∀ v, w0.heap[s]? = some (.cells (SC f v) 69 (0, 0)) → ∀ ad, A = some ad → v.ownBlock ≠ some ad.block) :
    Calls Try.prog 34 #[.pointer (some ⟨s, 0, none⟩), .slice A b.length c] w0 (WritePost base s f g mn mx wd ms p b w0) := by
  obtain ⟨v0, hb0, hv0⟩ := h.row
  have Hb := Lib.hid hb
  have H := Lib.hid h
  have HO := Lib.hid hO
  have HA := Lib.hid hA
  clear hb h hO hA
  obtain ⟨i5, hi5, hz5, hs5, hy5⟩ := info_parts infoB
  obtain ⟨i9, hi9, hz9, hs9, hy9⟩ := info_parts infoS
  have hsl := blk_lt hb0
  have hfl := H.out.fi.lt
  have hgl := H.out.fi.2.1.lt
  go_enter Try.func34, Try.ntmps34
  go_wp2_with fail
  go_loopw [1, 5] (fun x y wr => ∃ (A' : Option Addr) (c' : Nat) (b' q : List Int) (L : List (List Int)) (V : List Value) (v : Value) (m : Nat), x = .slice A' b'.length c' ∧ b'.length ≤ c' ∧ b'.length ≤ m ∧ Hid (b' = b.drop (b.length - b'.length)) ∧ L.length + b'.length ≤ b.length ∧ (∀ W, Kd.C (Kd.int .u8) W A b.length b → Kd.C (Kd.int .u8) W A' b'.length b') ∧ (∀ ad, A' = some ad → ∃ ad0, A = some ad0 ∧ ad.block = ad0.block) ∧ Hid (wrt mn mx wd ms b.length p b = (L ++ (wrt mn mx wd ms m q b').1, (wrt mn mx wd ms m q b').2)) ∧ wr.ownsRow w0.heap.size 30 1 y L.length V ∧ Chs wr (fun k => k ≠ s ∧ k ≠ f ∧ k ≠ g ∧ ∃ cs, wr.heap[k]? = some (.cells cs 5 (0, 0))) L V ∧ wr.heap[s]? = some (.cells (SC f v) 69 (0, 0)) ∧ wr.ownsRow base 5 1 v q.length (nums .u8 q) ∧ ((L = [] ∧ q = p ∧ v = v0) ∨ (q = [] ∧ v = .slice none 0 0) ∨ b'.length = 0) ∧ Fi wr f g mn mx wd ms q ∧ KB (fun k => k = s ∨ k = f ∨ k = g ∨ some k = v0.ownBlock) w0 wr ∧ Chs wr (fun k => some k ≠ v.ownBlock) L V ∧ Hid (∀ k, v.ownBlock = some k → some k = v0.ownBlock ∨ w0.heap.size ≤ k)) (fun x _ _ => match x with | .slice _ n _ => n | _ => 0)
  case atStart => exact ⟨A, c, b, p, [], [], v0, b.length, rfl, hc, Nat.le_refl _, Lib.hid (by simp), by simp, fun W h => h, fun ad h => ⟨ad, h, rfl⟩, Lib.hid (by simp), own_nil _ _ _ _, trivial, hb0, hv0, .inl ⟨rfl, rfl, rfl⟩, H.out.fi, KB.refl _ _, trivial, Lib.hid (fun k hk => .inl hk.symm)⟩
  case round =>
    obtain ⟨A', c', b', q, L, V, v, m, rfl, hc', hbm, hbd, hbl, hcut, hA', hwr, hown, hChs, hs, hv, hcase, hF, hKB, hCn, Hvo⟩ := hrel
    by_cases hlt : 0 < b'.length
    · have hAS : ∀ ad, A = some ad → ¬ (ad.block = s ∨ ad.block = f ∨ ad.block = g ∨ some ad.block = v0.ownBlock) := fun ad had h => by
        have := HA.out ad had
        rcases h with h | h | h | h
        · exact this.2.1 h
        · exact this.2.2.1 h
        · exact this.2.2.2 h
        · exact hAp v0 hb0 ad had h.symm
      have hr' := hcut _ (C_kb hr hKB hAS)
      have hlb : IsBytes b' := by rw [hbd.out]; exact fun x hx => Hb.out x (List.mem_of_mem_drop hx)
      have hAne : 0 < b'.length → ∀ ad, A' = some ad → ad.block ≠ f ∧ ad.block ≠ g := fun _ ad had => by
        obtain ⟨ad0, h0, h1⟩ := hA' ad had
        have := HA.out ad0 h0
        rw [h1]
        exact ⟨this.2.2.1, this.2.2.2⟩
      have c0 : wr.cell? ⟨s, 0, none⟩ = some (.pointer (some ⟨f, 0, none⟩)) := blk_cell hs 0
      have HF := Lib.hid hF
      have Hs := Lib.hid hs
      have Hv := Lib.hid hv
      have Hown := Lib.hid hown
      have HKB := Lib.hid hKB
      have Hcase := Lib.hid hcase
      have HCh := Lib.hid hChs
      have HCn := Lib.hid hCn
      have Hr' := Lib.hid hr'
      have HA2 := Lib.hid hA'
      have HAS := Lib.hid hAS
      clear hF hs hv hown hKB hcase hChs hCn hr' hA' hAS
      go_wp2_with fail
      refine (find_c _ HF.out HO.out Hr'.out hc' hlb (by omega) hAne).mono ?_
      rintro e w4 ⟨hk4, hfind⟩
      clear c0
      have hns : ¬ (s = f ∨ s = g) := fun h => h.elim H.out.sf H.out.sg
      have hs4 := (hk4.block s (blk_lt Hs.out) hns).trans Hs.out
      have hv4 := own_keep Hv.out hk4 (fun k cs hs => by
        rcases hs with rfl | rfl
        · rw [HF.out.1]
          intro h
          injection h with h
          injection h with _ h _
          exact absurd h (by decide)
        · obtain ⟨ring, t, _, hb, _⟩ := HF.out.2.1
          rw [hb]
          intro h
          injection h with h
          injection h with _ h _
          exact absurd h (by decide))
      have Hfk : Hid (∀ k cs, (k = f ∨ k = g) → w4.heap[k]? ≠ some (.cells cs 5 (0, 0))) := by
        refine Lib.hid (fun k cs hk => ?_)
        have key : ∀ q', Fi w4 f g mn mx wd ms q' → w4.heap[k]? ≠ some (.cells cs 5 (0, 0)) := fun q' hF4 => by
          rcases hk with rfl | rfl
          · rw [hF4.1]
            intro h
            injection h with h
            injection h with _ h _
            exact absurd h (by decide)
          · obtain ⟨ring, t, _, hb, _⟩ := hF4.2.1
            rw [hb]
            intro h
            injection h with h
            injection h with _ h _
            exact absurd h (by decide)
        rcases hfind with ⟨r, _, _, hF4⟩ | ⟨_, _, hF4⟩
        · exact key _ hF4
        · exact key _ hF4
      obtain ⟨n, ok, rfl, hn1, hn2, hF4, hst⟩ := find_out (m := m) hlt hbm hfind
      have hs4' := Lib.hid hs4
      have hv4' := Lib.hid hv4
      clear hs4 hv4
      go_wp2_with fail
      have hnc : n ≤ c' := by omega
      refine start_ (n := 12) (S := fun w' => w'.cell? ⟨s, 1, none⟩ = some v) (ds := [8, 11]) #[false, false, false, false, false, false, false, false, false, false, false, false] (by kernel_rfl) rfl rfl (blk_cell hs4'.out 1) (fun hHeld => ?_)
      refine pure_ (i := 0) (N := some 20) (v := ?_) (a' := ?_) #[true, false, false, false, false, false, false, false, false, false, false, false] rfl rfl (by kernel_rfl) (fun _ _ _ h => h) (Or.inl ⟨by rfl, ?_⟩) ?_ ?_
      rotate_left
      · intro w'
        go_simp
        try with_reducible rfl
      rotate_left
      · simp only [Act.put, List.setIfInBounds_toArray, List.set_cons_zero, List.set_cons_succ, i64_w, i32_w]
        rfl
      refine pure_ (i := 1) (N := some 21) (v := ?_) (a' := ?_) #[true, true, false, false, false, false, false, false, false, false, false, false] rfl rfl (by kernel_rfl) (fun _ _ _ h => h) (Or.inl ⟨by rfl, ?_⟩) ?_ ?_
      rotate_left
      · intro w'
        go_simp
        try with_reducible rfl
      rotate_left
      · simp only [Act.put, List.setIfInBounds_toArray, List.set_cons_zero, List.set_cons_succ, i64_w, i32_w]
        rfl
      refine pure_ (i := 2) (N := some 22) (v := ?_) (a' := ?_) #[true, true, true, false, false, false, false, false, false, false, false, false] rfl rfl (by kernel_rfl) (fun _ _ _ h => h) (Or.inl ⟨by rfl, ?_⟩) ?_ ?_
      rotate_left
      · intro w'
        go_simp
        try with_reducible rfl
      rotate_left
      · simp only [Act.put, List.setIfInBounds_toArray, List.set_cons_zero, List.set_cons_succ, i64_w, i32_w]
        rfl
      refine pure_ (i := 3) (N := some 23) (v := ?_) (a' := ?_) #[true, true, true, true, false, false, false, false, false, false, false, false] rfl rfl (by kernel_rfl) (fun _ _ _ h => h) (Or.inl ⟨by rfl, ?_⟩) ?_ ?_
      rotate_left
      · intro w'
        go_simp
        try with_reducible rfl
      rotate_left
      · simp only [Act.put, List.setIfInBounds_toArray, List.set_cons_zero, List.set_cons_succ, i64_w, i32_w]
        rfl
      refine take_ (i := 4) (N := some 24) (v := ?_) (a' := ?_) #[true, true, true, true, true, false, false, false, false, false, false, false] rfl rfl (by kernel_rfl) (fun _ _ _ h => h) (Or.inl ⟨by rfl, ?_⟩) hHeld ?_ ?_
      rotate_left
      · intro w' s0
        go_simp
        try with_reducible rfl
      rotate_left
      · simp only [Act.put, List.setIfInBounds_toArray, List.set_cons_zero, List.set_cons_succ, i64_w, i32_w]
        rfl
      refine pure_ (i := 5) (N := some 25) (v := ?_) (a' := ?_) #[true, true, true, true, true, true, false, false, false, false, false, false] rfl rfl (by kernel_rfl) (fun _ _ _ h => h) (Or.inl ⟨by rfl, ?_⟩) ?_ ?_
      rotate_left
      · intro w'
        go_simp
        try with_reducible rfl
      rotate_left
      · simp only [Act.put, List.setIfInBounds_toArray, List.set_cons_zero, List.set_cons_succ, i64_w, i32_w]
        rfl
      refine pure_ (i := 6) (N := some 26) (v := ?_) (a' := ?_) #[true, true, true, true, true, true, true, false, false, false, false, false] rfl rfl (by kernel_rfl) (fun _ _ _ h => h) (Or.inl ⟨by rfl, ?_⟩) ?_ ?_
      rotate_left
      · intro w'
        go_simp
        try with_reducible rfl
      rotate_left
      · simp only [Act.put, List.setIfInBounds_toArray, List.set_cons_zero, List.set_cons_succ, i64_w, i32_w]
        rfl
      refine pure_ (i := 7) (N := some 27) (v := ?_) (a' := ?_) #[true, true, true, true, true, true, true, true, false, false, false, false] rfl rfl (by kernel_rfl) (fun _ _ _ h => h) (Or.inl ⟨by rfl, ?_⟩) ?_ ?_
      rotate_left
      · intro w'
        go_simp
        try with_reducible rfl
      rotate_left
      · simp only [Act.put, List.setIfInBounds_toArray, List.set_cons_zero, List.set_cons_succ, i64_w, i32_w]
        rfl
      refine last_ (i := 8) (N := some 28) #[true, true, true, true, true, true, true, true, true, false, false, false] rfl rfl (by kernel_rfl) (by decide) (fun K hK => ?_)
      refine Kd.R_append_rows_step (Kd.int .u8) (w0 := w4) base (by rfl) (.tmp 24) (.tmp 27) 30 5 (.int .u8 0) 1 rfl Try.underlying30 infoB rfl (by decide) (by omega) v q (b'.take n) A' n c' (fun _ => True) (fun _ => False) rfl rfl ?aO ?aR (fun _ _ h => h) (fun _ h => h.elim) (fun _ _ => trivial) ?aB ?aS ?aL ?_
      case aO => exact Kd.R_drew (Kd.R_of_own (ok := fun _ => True) (enc := Value.int .u8) (h1 := fun _ => rfl) (xs := q) hv4'.out (fun _ _ => trivial))
      case aR =>
        have hC := Kd.C_drew (Kd.C_take (C_kb Hr'.out hk4 (fun ad had h => by have := hAne hlt ad had; exact h.elim this.1 this.2)) hn1)
        rw [show (b'.take n).length = n by rw [List.length_take]; omega] at hC
        exact hC
      case aB => exact below_drew (Below.refl _ _)
      case aS => have := H.out.hs; have := blk_lt hs4'.out; exact Nat.le_of_lt (Nat.lt_of_le_of_lt ‹base ≤ s› ‹s < w4.heap.size›)
      case aL => have := HF.out.2.2.2; have := HO.out.mc; omega
      intro v1 w6 ho hbb hg hat
      obtain ⟨A1, c1, rfl⟩ := Kd.R_slice ho
      obtain ⟨z, hz⟩ : ∃ z, z = (q ++ b'.take n).length := ⟨_, rfl⟩
      rw [← hz] at ho hat ⊢
      have Hz := Lib.hid hz
      clear hz
      refine hK.out _ _ ?_
      clear hK K
      refine norm_ (a' := ?_) ?_ ?_
      rotate_left
      · show Act.put _ (some 28) _ = _
        simp only [Act.put, List.setIfInBounds_toArray, List.set_cons_zero, List.set_cons_succ, i64_w, i32_w]
        rfl
      refine pure_ (i := 9) (N := some 29) (v := ?_) (a' := ?_) #[true, true, true, true, true, true, true, true, true, true, false, false] rfl rfl (by kernel_rfl) (fun _ _ _ h => h) (Or.inl ⟨by rfl, ?_⟩) ?_ ?_
      rotate_left
      · intro w'
        go_simp
        try with_reducible rfl
      rotate_left
      · simp only [Act.put, List.setIfInBounds_toArray, List.set_cons_zero, List.set_cons_succ, i64_w, i32_w]
        rfl
      refine pure_ (i := 10) (N := some 30) (v := ?_) (a' := ?_) #[true, true, true, true, true, true, true, true, true, true, true, false] rfl rfl (by kernel_rfl) (fun _ _ _ h => h) (Or.inl ⟨by rfl, ?_⟩) ?_ ?_
      rotate_left
      · intro w'
        go_simp
        try with_reducible rfl
      rotate_left
      · simp only [Act.put, List.setIfInBounds_toArray, List.set_cons_zero, List.set_cons_succ, i64_w, i32_w]
        rfl
      have hvs : ∀ k, v.ownBlock = some k → k ≠ s ∧ k ≠ f ∧ k ≠ g := fun k hk => by
        obtain ⟨cs, hcs⟩ := own_typed hv4'.out k hk
        refine ⟨fun e => ?_, fun e => ?_, fun e => ?_⟩
        · subst e; rw [hs4'.out] at hcs; injection hcs with h; injection h with _ h _; exact absurd h (by decide)
        · subst e; exact Hfk.out k cs (.inl rfl) hcs
        · subst e; exact Hfk.out k cs (.inr rfl) hcs
      have hs6 := (hg.block s (blk_lt hs4'.out) (fun h => (hvs s h.symm).1 rfl)).trans hs4'.out
      have z6 : w6.frozen? ⟨s, 1, none⟩ = false := blk_frozen hs6 1
      have cc6 : w6.cell? ⟨s, 1, none⟩ = some v := blk_cell hs6 1
      refine last_ (i := 11) (N := none) #[true, true, true, true, true, true, true, true, true, true, true, true] rfl rfl (by kernel_rfl) (by decide) (fun K hK => ?_)
      refine skip_ (w1 := ?_) (by rfl) rfl ?_ ?_
      rotate_left
      · go_simp
        try rfl
      refine hK.out _ _ ?_
      clear hK K
      refine done_ (by kernel_rfl) ?_
      have hv6 := Kd.own_of_R ho
      have hfr4 : ∀ k, v.ownBlock = some k → base ≤ k := fun k hk => own_base hv4'.out k hk
      have hk7 : KB (fun k => k = s ∨ k = f ∨ k = g ∨ some k = v.ownBlock) wr (w6.setCell ⟨s, 1, none⟩ (.slice A1 z c1)) :=
        (((KB.refl _ _).then_ hk4 (fun i hi => .inl (hi.elim (fun h => .inr (.inl h)) (fun h => .inr (.inr (.inl h)))))).drew.grown hg (fun k hk => .inl (.inr (.inr (.inr hk.symm))))).set (.inl (.inl rfl)) _
      have hs7 : (w6.setCell ⟨s, 1, none⟩ (.slice A1 z c1)).heap[s]? = some (.cells (SC f (.slice A1 z c1)) 69 (0, 0)) := Go.Joins.block_setCell hs6 _
      have hne1 : ∀ k, (Value.slice A1 z c1).ownBlock = some k → k ≠ s := fun k hk => by
        rcases hat with h | ⟨b1, h, h1⟩
        · exact (hvs k (h ▸ hk)).1
        · rw [hk] at h
          cases h
          have := blk_lt hs4'.out
          exact fun e => by subst e; exact absurd h1 (Nat.not_le.2 this)
      have hv7 := own_move (w1 := w6.setCell ⟨s, 1, none⟩ (.slice A1 z c1)) hv6 (fun k hk => Go.heap_setCell_other _ _ _ _ (hne1 k hk))
      have hf7 : (w6.setCell ⟨s, 1, none⟩ (.slice A1 z c1)).heap[f]? = w4.heap[f]? := (Go.heap_setCell_other _ _ _ _ (fun h => H.out.sf h.symm)).trans (hg.block f (Nat.lt_of_lt_of_le HF.out.lt hk4.size) (fun h => (hvs f h.symm).2.1 rfl))
      have hg7 : (w6.setCell ⟨s, 1, none⟩ (.slice A1 z c1)).heap[g]? = w4.heap[g]? := (Go.heap_setCell_other _ _ _ _ (fun h => H.out.sg h.symm)).trans (hg.block g (Nat.lt_of_lt_of_le HF.out.2.1.lt hk4.size) (fun h => (hvs g h.symm).2.2 rfl))
      have hz7 : w4.heap.size ≤ (w6.setCell ⟨s, 1, none⟩ (.slice A1 z c1)).heap.size := by simpa [World.setCell] using hg.size
      generalize w6.setCell ⟨s, 1, none⟩ (.slice A1 z c1) = w7 at hk7 hs7 hv7 hf7 hg7 hz7 ⊢
      have HF7 := hF4.out.move hf7 hg7
      have hvb : ∀ k, v.ownBlock = some k → ∃ cs, wr.heap[k]? = some (.cells cs 5 (0, 0)) := fun k hk => own_typed Hv.out k hk
      have hown7 := own_keep Hown.out hk7 (fun k cs hS => by
        have ab : ∀ {x y : Array Value} {t u : TypeId}, t ≠ u → some (Obj.cells x t (0, 0)) ≠ some (Obj.cells y u (0, 0)) := fun ht h => by
          injection h with h
          injection h with _ h _
          exact ht h
        rcases hS with rfl | rfl | rfl | hS
        · rw [Hs.out]; exact ab (by decide)
        · rw [HF.out.1]; exact ab (by decide)
        · obtain ⟨ring, t, _, hb, _⟩ := HF.out.2.1
          rw [hb]; exact ab (by decide)
        · obtain ⟨cs', hcs⟩ := hvb k hS.symm
          rw [hcs]; exact ab (by decide))
      have hk07 : KB (fun k => k = s ∨ k = f ∨ k = g ∨ some k = v0.ownBlock) w0 w7 := HKB.out.then_ hk7 (fun i hi => by
        rcases hi with h | h | h | h
        · exact .inl (.inl h)
        · exact .inl (.inr (.inl h))
        · exact .inl (.inr (.inr (.inl h)))
        · rcases Hcase.out with ⟨_, _, rfl⟩ | ⟨_, rfl⟩ | h0
          · exact .inl (.inr (.inr (.inr h)))
          · cases h
          · omega)
      have hz17 := hk7.size
      have hCh7 : Chs w7 (fun k => k ≠ s ∧ k ≠ f ∧ k ≠ g ∧ ∃ cs, w7.heap[k]? = some (.cells cs 5 (0, 0))) L V := by
        rcases Hcase.out with ⟨rfl, _, _⟩ | ⟨_, rfl⟩ | h0
        · have := HCh.out.length
          obtain rfl : V = [] := List.eq_nil_of_length_eq_zero this
          exact trivial
        · have key : ∀ k, (k ≠ s ∧ k ≠ f ∧ k ≠ g ∧ ∃ cs, wr.heap[k]? = some (.cells cs 5 (0, 0))) → ¬ (k = s ∨ k = f ∨ k = g ∨ some k = (Value.slice none 0 0).ownBlock) := fun k hk hS => by
            rcases hS with h | h | h | h
            · exact hk.1 h
            · exact hk.2.1 h
            · exact hk.2.2.1 h
            · cases h
          refine Chs.kb hk7 key (fun k hk => ⟨hk.1, hk.2.1, hk.2.2.1, ?_⟩) HCh.out
          obtain ⟨cs, h⟩ := hk.2.2.2
          exact ⟨cs, (hk7.block k (blk_lt h) (key k hk)).trans h⟩
        · omega
      have hCn7 : Chs w7 (fun k => some k ≠ (Value.slice A1 z c1).ownBlock) L V := by
        rcases Hcase.out with ⟨rfl, _, _⟩ | ⟨_, rfl⟩ | h0
        · have := HCh.out.length
          obtain rfl : V = [] := List.eq_nil_of_length_eq_zero this
          exact trivial
        · have key : ∀ k, (k ≠ s ∧ k ≠ f ∧ k ≠ g ∧ ∃ cs, wr.heap[k]? = some (.cells cs 5 (0, 0))) → ¬ (k = s ∨ k = f ∨ k = g ∨ some k = (Value.slice none 0 0).ownBlock) := fun k hk hS => by
            rcases hS with h | h | h | h
            · exact hk.1 h
            · exact hk.2.1 h
            · exact hk.2.2.1 h
            · cases h
          refine Chs.kb hk7 key (fun k hk hS => ?_) HCh.out
          obtain ⟨cs, h⟩ := hk.2.2.2
          have hlk := blk_lt h
          rcases hat with h' | ⟨b1, h', h1⟩
          · rw [h'] at hS
            cases hS
          · rw [h'] at hS
            cases hS
            have := hk4.size
            exact absurd h1 (by simp; omega)
        · omega
      have Hvo7 : Hid (∀ k, (Value.slice A1 z c1).ownBlock = some k → some k = v0.ownBlock ∨ w0.heap.size ≤ k) := Lib.hid (fun k hk => by
        rcases hat with h' | ⟨b1, h', h1⟩
        · rw [h'] at hk
          exact Hvo.out k hk
        · rw [h'] at hk
          cases hk
          have h2 := hk4.size
          have h3 := HKB.out.size
          exact .inr (Nat.le_trans h3 (Nat.le_trans h2 h1)))
      have HCn7 := Lib.hid hCn7
      obtain ⟨A6, c6, l6, e6, hc6, hr6, hcut6, hA6⟩ := cut_b (Kd.int .u8) 30 5 Try.underlying30 hi5 hs5 A' c' b' n hn1 hc'
      clear hCn7
      have hlen6 : l6.length = b'.length - n := by rw [e6.out, List.length_drop]
      have hd6 : l6 = b.drop (b.length - l6.length) := by
        rw [hlen6, e6.out]
        conv => lhs; rw [hbd.out, List.drop_drop]
        congr 1
        omega
      have Hd6 := Lib.hid hd6
      have Hr6 := Lib.hid hr6
      have HA6 : Hid (∀ ad, A6 = some ad → ∃ ad0, A = some ad0 ∧ ad.block = ad0.block) := Lib.hid (fun ad h => by
        obtain ⟨ad0, h0, h1⟩ := hA6 ad h
        obtain ⟨ad1, h2, h3⟩ := HA2.out ad0 h0
        exact ⟨ad1, h2, h1.trans h3⟩)
      have HK7 := Lib.hid hk7
      have HK07 := Lib.hid hk07
      have HS7 := Lib.hid hs7
      have HV7 := Lib.hid hv7
      have HF7 := Lib.hid HF7
      have HO7 := Lib.hid hown7
      have HC7 := Lib.hid hCh7
      have Hn := Lib.hid hn1
      have Hlen6 := Lib.hid hlen6
      clear hlen6 hk7 hk07 hs7 hv7 hown7 hCh7 hd6 hr6 hA6 hf7 hg7 hz7 hz17 hs6 z6 cc6 hv6 hfr4 hne1 ho hbb hg hat hHeld hk4 hfind hF4 hvb hvs
      cases ok with
      | false =>
        obtain ⟨hnb, hw⟩ := hst.out.2 rfl
        have Hw := Lib.hid hw
        have Hnb := Lib.hid hnb
        clear hw hst hnb
        go_wp2_with fail
        go_roundw
        case rel =>
          have hnb := Hnb.out
          have hlen6 := Hlen6.out
          refine ⟨A6, c6, l6, q ++ b'.take n, L, V, _, m, rfl, hc6, by omega, Hd6, by omega, fun W h => Hr6.out W (hcut W h), HA6.out, ?_, HO7.out, HC7.out, HS7.out, HV7.out, .inr (.inr (by omega)), HF7.out, HK07.out, HCn7.out, Hvo7⟩
          refine Lib.hid ?_
          rw [hwr.out, Hw.out, wrt_nil _ _ l6 (by omega)]
        case measure => have hnb := Hnb.out; have hlen6 := Hlen6.out; simp; omega
      | true =>
        have hw := hst.out.1 rfl
        have Hw := Lib.hid hw
        clear hw hst
        go_wp2_with fail
        rw [Hz.out] at HV7 HS7
        refine (take_c w7 HS7.out HV7.out HF7.out H.out.sf H.out.sg).mono ?_
        rintro e w8 ⟨⟨A8, c8, he8, hc8, hC8, hA8, hs8, hF8⟩, hk8⟩
        rw [← Hz.out] at he8 hc8
        subst he8
        have HC8 := Lib.hid hC8
        have HA8 := Lib.hid hA8
        have HS8 := Lib.hid hs8
        have HF8 := Lib.hid hF8
        have HK8 := Lib.hid hk8
        have hO8 := own_keep HO7.out hk8 (fun k cs hS => by
          subst hS
          rw [HS7.out]
          intro h
          injection h with h
          injection h with _ h _
          exact absurd h (by decide))
        have HO8 := Lib.hid hO8
        have hz8 := hk8.size
        have hC78 := Chs.kb (T' := fun k => k ≠ s ∧ k ≠ f ∧ k ≠ g ∧ ∃ cs, w8.heap[k]? = some (.cells cs 5 (0, 0))) hk8 (fun k hk hS => hk.1 hS) (fun k hk => ⟨hk.1, hk.2.1, hk.2.2.1, by obtain ⟨cs, h⟩ := hk.2.2.2; exact ⟨cs, (hk8.block k (blk_lt h) hk.1).trans h⟩⟩) HC7.out
        have HC78 := Lib.hid hC78
        have hz08 := Nat.le_trans HK07.out.size hz8
        clear hC8 hA8 hs8 hF8 hk8 hO8 hC78
        go_wp2_with (at_builtin; go_must (refine wpList_append_own_at _ rfl _ _ 43 rfl w0.heap.size 30 i9 (.slice none 0 0) 1 24 Try.underlying43 hi9 hz9 hs9 hy9 rfl (by decide) _ _ _ rfl (HO8.out.alloc _) ⟨w8.heap.size, 0, none⟩ 1 1 [.slice A8 z c8] rfl rfl (cell_one_new _ _ _) (by simp [Value.oneCell']) (by unfold maxLen; omega) (by omega) (by simp; omega) ?_); intro v' w9 hown9 hg9 _ _)
        go_roundw
        case rel =>
          have hk9 := ((KB.refl (fun k => some k = Value.ownBlock _) w8).alloc _).grown hg9 (fun k hk => .inl hk.symm)
          have hlen6 := Hlen6.out
          have hz := Hz.out
          have key : ∀ k, (k ≠ s ∧ k ≠ f ∧ k ≠ g ∧ ∃ cs, w8.heap[k]? = some (.cells cs 5 (0, 0))) → ¬ (some k = Value.ownBlock _) := fun k hk hS => by
            obtain ⟨cs, h⟩ := hk.2.2.2
            obtain ⟨cs', h'⟩ := own_typed HO8.out k hS.symm
            exact types_ne (by decide) (h.symm.trans h')
          have T9 : ∀ k, (k ≠ s ∧ k ≠ f ∧ k ≠ g ∧ ∃ cs, w8.heap[k]? = some (.cells cs 5 (0, 0))) → (k ≠ s ∧ k ≠ f ∧ k ≠ g ∧ ∃ cs, w9.heap[k]? = some (.cells cs 5 (0, 0))) := fun k hk => by
            obtain ⟨cs, h⟩ := hk.2.2.2
            exact ⟨hk.1, hk.2.1, hk.2.2.1, cs, (hk9.block k (blk_lt h) (key k hk)).trans h⟩
          have TA : ∀ ad, A8 = some ad → (ad.block ≠ s ∧ ad.block ≠ f ∧ ad.block ≠ g ∧ ∃ cs, w8.heap[ad.block]? = some (.cells cs 5 (0, 0))) := fun ad h => (HA8.out ad h).2.2
          refine ⟨A6, c6, l6, [], L ++ [q ++ b'.take n], V ++ [.slice A8 z c8], .slice none 0 0, m - 1, rfl, hc6, by omega, Hd6, by simp; omega, fun W h => Hr6.out W (hcut W h), HA6.out, ?_, by simpa using hown9, ?_, (hk9.block s (blk_lt HS8.out) (fun h => by have := own_base HO8.out s h.symm; omega)).trans HS8.out, own_nil _ _ _ _, .inr (.inl ⟨rfl, rfl⟩), ?_, (HK07.out.then_ HK8.out (fun i hi => .inl (.inl hi))).then_ hk9 (fun i hi => .inr (own_base HO8.out i hi.symm)), ?_, Lib.hid (fun k hk => by cases hk)⟩
          · refine Lib.hid ?_
            rw [hwr.out, Hw.out, e6.out]
            simp
          · exact Chs.snoc ⟨A8, c8, by rw [hz], by rw [← hz]; exact hc8, C_kb HC8.out hk9 (fun ad h => key _ (TA ad h)), fun ad h => T9 _ (TA ad h)⟩ (Chs.kb hk9 key T9 HC78.out)
          · exact HF8.out.kb hk9 (fun h => by have := own_base HO8.out f h.symm; omega) (fun h => by have := own_base HO8.out g h.symm; omega)
          · exact Chs.snoc (T := fun k => some k ≠ (Value.slice none 0 0).ownBlock) ⟨A8, c8, by rw [hz], by rw [← hz]; exact hc8, C_kb HC8.out hk9 (fun ad h => key _ (TA ad h)), fun ad h => (fun h => by cases h)⟩ (Chs.kb (T' := fun k => some k ≠ (Value.slice none 0 0).ownBlock) hk9 key (fun k _ h => by cases h) HC78.out)
        case measure => have hlen6 := Hlen6.out; simp; omega
    · have h0 : b'.length = 0 := by omega
      have hw := hwr.out
      rw [wrt_nil m q b' h0, List.append_nil] at hw
      have Hw := Lib.hid hw
      have Hown := Lib.hid hown
      have HCh := Lib.hid hChs
      have Hs := Lib.hid hs
      have Hv := Lib.hid hv
      have HF := Lib.hid hF
      have HKB := Lib.hid hKB
      have HCn := Lib.hid hCn
      clear hw hown hChs hs hv hF hKB hcase hCn
      go_wp2_with fail
      go_ret
      exact ⟨_, v, v0, V, L, q, Hw, rfl, Hown.out, HCh.out, Hs.out, Hv.out, HF.out, hb0, HKB.out, HCn.out, Hvo.out⟩
end Go.Proofs.Ytgfodmpdnhebjaa.Chk
namespace Go.Proofs.Ytgfodmpdnhebjaa.Chk
open Go.RowKit Go.Proofs.Ytgfodmpdnhebjaa.Fp Go.Proofs.Ytgfodmpdnhebjaa.FM Go.Proofs.Ytgfodmpdnhebjaa.Ck
set_option linter.unusedVariables false
/-- The complete chunks at the begin of a string, and what is left. -/
def wc (mn mx wd : Nat) (ms : Int) : Nat → List Int → List (List Int) × List Int
  | 0, t => ([], t)
  | n + 1, t => if (endF mn mx wd ms t).2 = true then (t.take (endF mn mx wd ms t).1 :: (wc mn mx wd ms n (t.drop (endF mn mx wd ms t).1)).1, (wc mn mx wd ms n (t.drop (endF mn mx wd ms t).1)).2) else ([], t)
variable {mn mx wd : Nat} {ms : Int}
theorem wc_none (n : Nat) {t : List Int} (h : first mn mx wd ms t 0 t.length = none) : wc mn mx wd ms n t = ([], t) := by
  cases n with
  | zero => rfl
  | succ n =>
    have : (endF mn mx wd ms t).2 = false := by unfold endF; rw [h]
    unfold wc
    rw [if_neg (by simp [this])]
theorem wc_some (n : Nat) {t : List Int} {r : Nat} (h : first mn mx wd ms t 0 t.length = some r) : wc mn mx wd ms (n + 1) t = (t.take r :: (wc mn mx wd ms n (t.drop r)).1, (wc mn mx wd ms n (t.drop r)).2) := by
  have : endF mn mx wd ms t = (r, true) := by unfold endF; rw [h]
  conv => lhs; unfold wc
  rw [this, if_pos rfl]
theorem wrt_wc (m : Nat) : ∀ p b : List Int, b.length ≤ m → (∀ j, 0 < j → j ≤ p.length → hit mn mx wd ms (p ++ b) j = false) → wrt mn mx wd ms m p b = wc mn mx wd ms (m + 1) (p ++ b) := by
  have nil : ∀ (m : Nat) (p b : List Int), b.length = 0 → (∀ j, 0 < j → j ≤ p.length → hit mn mx wd ms (p ++ b) j = false) → wrt mn mx wd ms m p b = wc mn mx wd ms (m + 1) (p ++ b) := fun m p b hb h => by
    obtain rfl : b = [] := List.eq_nil_of_length_eq_zero hb
    rw [wrt_nil m p [] rfl, List.append_nil] at *
    rw [wc_none]
    exact first_isn (fun j h1 h2 => h j h1 (by omega))
  induction m with
  | zero => exact fun p b hb h => nil 0 p b (by omega) h
  | succ m ih =>
    intro p b hb h
    by_cases h0 : b.length = 0
    · exact nil _ p b h0 h
    · conv => lhs; unfold wrt
      rw [if_neg h0]
      cases hf : first mn mx wd ms (p ++ b) p.length b.length with
      | none =>
        have hn := first_none hf
        rw [wc_none]
        refine first_isn (fun j h1 h2 => ?_)
        rw [List.length_append] at h2
        by_cases hj : j ≤ p.length
        · exact h j h1 hj
        · exact hn j (by omega) (by omega)
      | some r =>
        obtain ⟨g1, g2, g3, g4⟩ := first_some hf
        have hw : first mn mx wd ms (p ++ b) 0 (p ++ b).length = some r := first_is (by omega) (by rw [List.length_append]; omega) g3 (fun j h1 h2 => by
          by_cases hj : j ≤ p.length
          · exact h j h1 hj
          · exact g4 j (by omega) h2)
        have hd : (p ++ b).drop r = b.drop (r - p.length) := by rw [List.drop_append, List.drop_eq_nil_of_le (by omega), List.nil_append]
        rw [wc_some _ hw, hd]
        have := ih [] (b.drop (r - p.length)) (by rw [List.length_drop]; omega) (fun j h1 h2 => by simp at h2; omega)
        rw [List.nil_append] at this
        simp only
        rw [this]
/-- What is left has no end of a chunk in it. -/
theorem wc_rest : ∀ (n : Nat) (t : List Int), t.length < n → ∀ j, 0 < j → j ≤ (wc mn mx wd ms n t).2.length → hit mn mx wd ms (wc mn mx wd ms n t).2 j = false
  | 0, t, h => by omega
  | n + 1, t, h => by
    cases hf : first mn mx wd ms t 0 t.length with
    | none =>
      rw [wc_none _ hf]
      exact fun j h1 h2 => first_none hf j h1 (by simpa using h2)
    | some r =>
      obtain ⟨g1, g2, _, _⟩ := first_some hf
      rw [wc_some _ hf]
      exact wc_rest n (t.drop r) (by rw [List.length_drop]; omega)
/-- What is left is the string's end. -/
theorem wc_tail : ∀ (n : Nat) (t : List Int), ∃ k, (wc mn mx wd ms n t).2 = t.drop k
  | 0, t => ⟨0, rfl⟩
  | n + 1, t => by
    cases hf : first mn mx wd ms t 0 t.length with
    | none => exact ⟨0, by rw [wc_none _ hf]; rfl⟩
    | some r =>
      obtain ⟨k, hk⟩ := wc_tail n (t.drop r)
      rw [wc_some _ hf]
      exact ⟨r + k, by simp only; rw [hk, List.drop_drop]⟩
/-- More fuel than bytes changes nothing. -/
theorem wc_fuel : ∀ (n m : Nat) (t : List Int), t.length < n → t.length < m → wc mn mx wd ms n t = wc mn mx wd ms m t
  | 0, m, t, h, _ => by omega
  | n + 1, 0, t, _, h => by omega
  | n + 1, m + 1, t, h1, h2 => by
    cases hf : first mn mx wd ms t 0 t.length with
    | none => rw [wc_none _ hf, wc_none _ hf]
    | some r =>
      obtain ⟨g1, g2, _, _⟩ := first_some hf
      rw [wc_some _ hf, wc_some _ hf, wc_fuel n m (t.drop r) (by rw [List.length_drop]; omega) (by rw [List.length_drop]; omega)]
/-- Bytes that come in two pieces. -/
theorem wc_append : ∀ (n : Nat) (t b : List Int), (t ++ b).length < n → wc mn mx wd ms n (t ++ b) = ((wc mn mx wd ms n t).1 ++ (wc mn mx wd ms n ((wc mn mx wd ms n t).2 ++ b)).1, (wc mn mx wd ms n ((wc mn mx wd ms n t).2 ++ b)).2)
  | 0, t, b, h => by omega
  | n + 1, t, b, h => by
    cases hf : first mn mx wd ms t 0 t.length with
    | none =>
      rw [wc_none _ hf]
      simp
    | some r =>
      obtain ⟨g1, g2, g3, g4⟩ := first_some hf
      have hw : first mn mx wd ms (t ++ b) 0 (t ++ b).length = some r := first_is g1 (by rw [List.length_append]; omega) (by rw [hit_append (by omega)]; exact g3) (fun j h1 h2 => by rw [hit_append (by omega)]; exact g4 j h1 h2)
      have ht : (t ++ b).take r = t.take r := by rw [List.take_append_of_le_length (by omega)]
      have hd : (t ++ b).drop r = t.drop r ++ b := by rw [List.drop_append_of_le_length (by omega)]
      have hl : (t.drop r ++ b).length < n := by rw [List.length_append, List.length_drop]; rw [List.length_append] at h; omega
      have ih := wc_append n (t.drop r) b hl
      have hk : ∀ u : List Int, u.length ≤ (t.drop r ++ b).length → wc mn mx wd ms n u = wc mn mx wd ms (n + 1) u := fun u hu => wc_fuel n (n + 1) u (by omega) (by omega)
      obtain ⟨k, htail⟩ := wc_tail (mn := mn) (mx := mx) (wd := wd) (ms := ms) n (t.drop r)
      rw [wc_some _ hw, wc_some _ hf, ht, hd, ih]
      simp only [List.cons_append]
      rw [hk ((wc mn mx wd ms n (t.drop r)).2 ++ b) (by rw [htail, List.length_append, List.length_append, List.length_drop]; omega)]
end Go.Proofs.Ytgfodmpdnhebjaa.Chk
