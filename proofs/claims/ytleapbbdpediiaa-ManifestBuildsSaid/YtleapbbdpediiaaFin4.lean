-- What this claim does not use is left out (shake.py).
import Derived.Test.YtleapbbdpediiaaRoll
import Derived.Test.YtleapbbdpediiaaCk
import Derived.LoopTactic
import Derived.Test.YtleapbbdpediiaaPxf49
import Derived.Deep.LoopGhost
import Derived.Maps.AppendAt
import Derived.OwnWalk
import Derived.Deep.DeepMust
/- The chunker's finder: what it is in memory, and the contracts of its functions. -/
namespace Go.Proofs.Ytleapbbdpediiaa.Chk
open Go.RowKit Go.Proofs.Ytleapbbdpediiaa.P Go.Proofs.Ytleapbbdpediiaa.Fp Go.Proofs.Ytleapbbdpediiaa.FM Go.Proofs.Ytleapbbdpediiaa.Roll Go.Proofs.Ytleapbbdpediiaa.Ck Go.Proofs.YtleapbbdpediiaaW.PrintWords Go.Proofs.YtleapbbdpediiaaW.PrintLast Go.Proofs.YtleapbbdpediiaaW.PrintMore
set_option linter.unusedVariables false
set_option linter.unusedSimpArgs false
/-- Nothing that was there but the blocks of S has changed. -/
structure KB (S : Nat → Prop) (w w' : World) : Prop where
  os : w'.os = w.os
  tape : w'.tape = w.tape
  output : w'.output = w.output
  size : w.heap.size ≤ w'.heap.size
  block : ∀ k, k < w.heap.size → ¬ S k → w'.heap[k]? = w.heap[k]?
section
variable {S T : Nat → Prop} {a b c w0 : World}
theorem KB.refl (S : Nat → Prop) (w : World) : KB S w w := ⟨rfl, rfl, rfl, Nat.le_refl _, fun _ _ _ => rfl⟩
theorem KB.then_ (h : KB S a b) (k : KB T b c) (hs : ∀ i, T i → S i ∨ a.heap.size ≤ i) : KB S a c :=
  ⟨k.os.trans h.os, k.tape.trans h.tape, k.output.trans h.output, Nat.le_trans h.size k.size, fun i hi hn =>
    (k.block i (Nat.lt_of_lt_of_le hi h.size) (fun ht => (hs i ht).elim hn (fun hge => by omega))).trans (h.block i hi hn)⟩
theorem KB.of_grown {row : Option Nat} (g : a.grownBy b row) : KB (fun k => row = some k) a b :=
  ⟨g.os, g.tape, g.output, g.size, fun k hk hn => g.block k hk (fun e => hn e.symm)⟩
theorem KB.of_below (h : Below a.heap.size a b) : KB (fun _ => False) a b := ⟨h.os, h.tape, h.output, h.size, fun k hk _ => h.block k hk⟩
theorem KB.grown (h : KB S a b) {row : Option Nat} (g : b.grownBy c row) (hr : ∀ k, row = some k → S k ∨ a.heap.size ≤ k) : KB S a c := h.then_ (KB.of_grown g) hr
theorem KB.below (h : KB S a b) (k : Below b.heap.size b c) : KB S a c := h.then_ (KB.of_below k) (fun _ hf => hf.elim)
theorem KB.set (h : KB S a b) {p : Addr} (hp : S p.block ∨ a.heap.size ≤ p.block) (u : Value) : KB S a (b.setCell p u) :=
  h.then_ (T := fun k => k = p.block) ⟨rfl, rfl, rfl, by simp [World.setCell], fun k _ hn => Below.heap_setCell _ _ _ _ hn⟩ (fun i hi => by rw [hi]; exact hp)
theorem KB.alloc (h : KB S a b) (o : Obj) : KB S a (b.alloc o) := h.below ((Below.refl _ _).alloc (Nat.le_refl _) _)
theorem KB.drewN (h : KB S a b) (n : Nat) : KB S a (b.drewN n) := ⟨h.os, h.tape, h.output, h.size, h.block⟩
theorem KB.to_below {B : Nat} (h : Below B w0 a) (hB : B ≤ a.heap.size) (k : KB S a b) (hs : ∀ i, S i → B ≤ i) : Below B w0 b :=
  h.trans ⟨k.os, k.tape, k.output, k.size, fun i hi => k.block i (by omega) (fun hS => by have := hs i hS; omega)⟩
end
/-- Valid parameters. -/
structure Okp (mn mx wd : Nat) (ms : Int) : Prop where
  w1 : 1 ≤ wd
  w2 : wd ≤ 64
  wm : wd ≤ mn
  mm : mn ≤ mx
  mc : mx ≤ 8192
  s0 : 0 ≤ ms
  s1 : ms < 18446744073709551616
/-- A finder's cells. -/
def FC (mn mx wd : Nat) (ms : Int) (g : Nat) (n : Int) : Array Value := #[.int .i64 mn, .int .i64 mx, .int .i64 wd, .int .u64 ms, .pointer (some ⟨g, 0, none⟩), .int .i64 n]
/-- Block f of w is a finder of these parameters in the midst of a chunk that begins with the bytes p; block g is its window. -/
def Fi (w : World) (f g mn mx wd : Nat) (ms : Int) (p : List Int) : Prop :=
  w.heap[f]? = some (.cells (FC mn mx wd ms g p.length) 130 (0, 0)) ∧ Ro w g wd (Wn wd p p.length) ∧ f ≠ g ∧ p.length < mx
section
variable {w w' : World} {f g mn mx wd : Nat} {ms : Int} {p : List Int}
theorem Fi.lt (h : Fi w f g mn mx wd ms p) : f < w.heap.size := blk_lt h.1
theorem Fi.move (h : Fi w f g mn mx wd ms p) (hf : w'.heap[f]? = w.heap[f]?) (hg : w'.heap[g]? = w.heap[g]?) : Fi w' f g mn mx wd ms p := ⟨hf.trans h.1, h.2.1.move hg, h.2.2⟩
theorem Fi.kb {S : Nat → Prop} (h : Fi w f g mn mx wd ms p) (hb : KB S w w') (hf : ¬ S f) (hg : ¬ S g) : Fi w' f g mn mx wd ms p := h.move (hb.block f h.lt hf) (hb.block g h.2.1.lt hg)
theorem Fi.c4 (h : Fi w f g mn mx wd ms p) : w.cell? ⟨f, 4, none⟩ = some (.pointer (some ⟨g, 0, none⟩)) := blk_cell h.1 4
theorem Fi.fz (h : Fi w f g mn mx wd ms p) (o : Nat) : w.frozen? ⟨f, o, none⟩ = false := blk_frozen h.1 o
end
theorem Wn_nil (n : Nat) : Wn n [] 0 = [] := by simp [Wn]
theorem Wn_length (n : Nat) (p : List Int) : (Wn n p p.length).length = min n p.length := by simp [Wn]; omega
theorem Wn_all (n : Nat) (p : List Int) : Wn n p p.length = p.drop (p.length - n) := by rw [Wn, List.take_length]
theorem Wn_snoc {n : Nat} (p : List Int) (b : Int) (hn : 1 ≤ n) : room n (Wn n p p.length) ++ [b] = Wn n (p ++ [b]) (p ++ [b]).length := by
  unfold room
  rw [Wn_length, Wn_all, Wn_all, List.length_append, List.length_singleton]
  by_cases hc : n ≤ p.length
  · rw [if_pos (by omega), List.tail_drop, List.drop_append, show p.length + 1 - n = p.length - n + 1 by omega, show p.length - n + 1 - p.length = 0 by omega]
    rfl
  · rw [if_neg (by omega), List.drop_append, show p.length - n = 0 by omega, show p.length + 1 - n = 0 by omega]
    simp
/-- Behind a reset. -/
def ResetPost (f g mn mx wd : Nat) (ms : Int) (w0 : World) (e : Ending) (w' : World) : Prop := e = .returned (.tuple #[]) ∧ Fi w' f g mn mx wd ms [] ∧ KB (fun k => k = f ∨ k = g) w0 w'
set_option maxHeartbeats 4000000 in
set_option maxRecDepth 100000 in
theorem reset_f {f g mn mx wd : Nat} {ms : Int} {p : List Int} {x : Int} (w0 : World) (hp : w0.heap[f]? = some (.cells (FC mn mx wd ms g x) 130 (0, 0))) (hR : Ro w0 g wd p) (hne : f ≠ g) (h0 : 0 < mx) :
    Calls Try.prog 87 #[.pointer (some ⟨f, 0, none⟩)] w0 (ResetPost f g mn mx wd ms w0) := by
  have c5 : w0.cell? ⟨f, 5, none⟩ = some (.int .i64 x) := blk_cell hp 5
  have c4 : w0.cell? ⟨f, 4, none⟩ = some (.pointer (some ⟨g, 0, none⟩)) := blk_cell hp 4
  have hfz : ∀ o, w0.frozen? ⟨f, o, none⟩ = false := fun o => blk_frozen hp o
  have hlt := blk_lt hp
  have Hp := Lib.hid hp
  have HR := Lib.hid hR
  have Hne := Lib.hid hne
  clear hp hR hne
  go_enter Try.func87, Try.ntmps87
  go_wp2_with fail
  refine (reset_m g wd p _ (HR.out.move (Go.heap_setCell_other _ _ _ _ (fun h => Hne.out h.symm)))).mono ?_
  rintro e w1 ⟨rfl, hR1, hg1⟩
  go_wp2_with fail
  go_end0
  refine ⟨rfl, ⟨?_, by rw [List.length_nil, Wn_nil]; exact hR1, Hne.out, h0⟩, ((KB.refl _ _).set (.inl (.inl rfl)) _).grown hg1 (fun k hk => by cases hk; exact .inl (.inr rfl))⟩
  rw [hg1.block f (by simpa [World.setCell] using hlt) (by simp; exact Hne.out)]
  exact Go.Joins.block_setCell Hp.out _
end Go.Proofs.Ytleapbbdpediiaa.Chk
/- The chunker's finder: find. -/
namespace Go.Proofs.Ytleapbbdpediiaa.Chk
open Go.RowKit Go.Proofs.Ytleapbbdpediiaa.P Go.Proofs.Ytleapbbdpediiaa.Fp Go.Proofs.Ytleapbbdpediiaa.FM Go.Proofs.Ytleapbbdpediiaa.Roll Go.Proofs.Ytleapbbdpediiaa.Ck Go.Proofs.YtleapbbdpediiaaW.PrintWords Go.Proofs.YtleapbbdpediiaaW.PrintLast Go.Proofs.YtleapbbdpediiaaW.PrintMore
set_option linter.unusedVariables false
set_option linter.unusedSimpArgs false
/-- Behind a find. -/
def FindPost (f g mn mx wd : Nat) (ms : Int) (p b : List Int) (w0 : World) (e : Ending) (w' : World) : Prop :=
  KB (fun k => k = f ∨ k = g) w0 w' ∧
  ((∃ r : Nat, first mn mx wd ms (p ++ b) p.length b.length = some r ∧ e = .returned (.tuple #[.int .i64 ((r - p.length : Nat) : Int), .bool true]) ∧ Fi w' f g mn mx wd ms []) ∨
   (first mn mx wd ms (p ++ b) p.length b.length = none ∧ e = .returned (.tuple #[.int .i64 (b.length : Int), .bool false]) ∧ Fi w' f g mn mx wd ms (p ++ b)))
theorem hit_in {mn mx wd : Nat} {ms : Int} {p b : List Int} {k : Nat} (hk : k < b.length) : hit mn mx wd ms (p ++ b) (p.length + k + 1) = (decide (mn ≤ p.length + k + 1) && (decide (p.length + k + 1 = mx) || Go.bits .and .u64 (fp (Wn wd (p ++ b.take (k + 1)) (p ++ b.take (k + 1)).length)) ms == 0)) := by
  have hl : (p ++ b.take (k + 1)).length = p.length + k + 1 := by rw [List.length_append, List.length_take]; omega
  have e : (p ++ b).take (p.length + k + 1) = p ++ b.take (k + 1) := by
    rw [List.take_append, List.take_of_length_le (by omega), show p.length + k + 1 - p.length = k + 1 by omega]
  rw [hl, ← e]
  unfold hit
  rw [Wn_take _ _ _ _ (Nat.le_refl _)]
set_option maxHeartbeats 4000000 in
set_option maxRecDepth 100000 in
theorem find_c {f g mn mx wd : Nat} {ms : Int} {p b : List Int} {A : Option Addr} {c : Nat} (w0 : World) (hF : Fi w0 f g mn mx wd ms p) (hO : Okp mn mx wd ms) (hr : Kd.C (Kd.int .u8) w0 A b.length b) (hc : b.length ≤ c) (hb : IsBytes b) (hl : b.length ≤ 140737488355328)
    (hA : 0 < b.length → ∀ ad, A = some ad → ad.block ≠ f ∧ ad.block ≠ g) :
    Calls Try.prog 74 #[.pointer (some ⟨f, 0, none⟩), .slice A b.length c] w0 (FindPost f g mn mx wd ms p b w0) := by
  have Hb := Lib.hid hb
  have HF := Lib.hid hF
  have HA := Lib.hid hA
  have HO := Lib.hid hO
  have Hne := Lib.hid hF.2.2.1
  clear hb hF hA hO
  go_enter Try.func74, Try.ntmps74
  go_wp2_with fail
  go_step3
  go_wp2_with fail
  go_step3
  go_wp2_with fail
  go_loopg [11] b.length (fun gk i wr => ∃ (k : Nat) (q : List Int), k ≤ b.length ∧ i = .int .i64 k ∧ Hid (gk = b.length - k) ∧ Hid (q = p ++ b.take k) ∧ Fi wr f g mn mx wd ms q ∧ KB (fun j => j = f ∨ j = g) w0 wr ∧ Hid (∀ j, p.length < j → j ≤ p.length + k → hit mn mx wd ms (p ++ b) j = false))
  case atStart => exact ⟨0, p, Nat.zero_le _, rfl, rfl, Lib.hid (by simp), HF.out, KB.refl _ _, Lib.hid (fun j h1 h2 => by omega)⟩
  case round =>
    obtain ⟨k, q, hk, rfl, hgk, hq, hF, hKB, hno⟩ := hrel
    have hqm := hF.2.2.2
    have hmx := HO.out.mc
    have hqf := hF.lt
    have HF1 := Lib.hid hF
    have HKB := Lib.hid hKB
    clear hKB
    by_cases hlt : k < b.length
    · obtain ⟨ad, rfl, had, hcl⟩ := C_cells hr (by omega)
      have hadne := HA.out (by omega) ad rfl
      have hload : wr.cell? (ad.add k) = some (.int .u8 (rd b k)) := by
        rw [World.cell?_of_block (HKB.out.block _ (by rw [add_block]; exact had) (by rw [add_block]; intro h; rcases h with h | h; exact hadne.1 h; exact hadne.2 h))]
        exact hcl k hlt
      have hx := rd_byte Hb.out (i := (k : Int)) (by omega) (by omega)
      clear hcl hadne had
      have c4 := hF.c4
      have fz := hF.fz
      clear hF
      obtain ⟨q1, hq1⟩ : ∃ q1, q1 = q ++ [rd b k] := ⟨_, rfl⟩
      have hq1l : q1.length = q.length + 1 := by rw [hq1]; simp
      have hq1t : q1 = p ++ b.take (k + 1) := by rw [hq1, hq.out, take_succ_rd hlt, List.append_assoc]
      have hroom : room wd (Wn wd q q.length) ++ [rd b k] = Wn wd q1 q1.length := by rw [hq1]; exact Wn_snoc _ _ HO.out.w1
      have Hq1 := Lib.hid hq1
      have Hq1l := Lib.hid hq1l
      have Hq1t := Lib.hid hq1t
      have Hroom := Lib.hid hroom
      clear hq1 hq1l hq1t hroom
      have hhit := hit_in (mn := mn) (mx := mx) (wd := wd) (ms := ms) (p := p) hlt
      rw [← Hq1t.out] at hhit
      have Hhit := Lib.hid hhit
      clear hhit
      go_wp2_with (first | (go_at_call 86; go_must (refine (push_c _ _ _ _ _ hx HF1.out.2.1).mono ?_); rintro e w4 ⟨rfl, hR4, hg4⟩; rw [Hroom.out] at *; have HR4 := Lib.hid hR4; have hb4 := (hg4.block f hqf (by simp; exact Hne.out)).trans HF1.out.1; have b0 := blk_cell hb4 0; have b1 := blk_cell hb4 1; have b2 := blk_cell hb4 2; have b3 := blk_cell hb4 3; have b5 := blk_cell hb4 5; have fz4 := blk_frozen hb4; have hl4 := blk_lt hb4; have Hb4 := Lib.hid hb4; have HG4 := Lib.hid hg4; clear hb4 hR4 hg4; simp [FC] at b0 b1 b2 b3 b5))
      have hqm' : q.length < 8192 := by omega
      have nohit : hit mn mx wd ms (p ++ b) (p.length + k + 1) = false → ∀ j, p.length < j → j ≤ p.length + (k + 1) → hit mn mx wd ms (p ++ b) j = false := fun h j h1 h2 => by
        by_cases hj : j = p.length + k + 1
        · rw [hj]; exact h
        · exact hno.out j h1 (by omega)
      have Nohit := Lib.hid nohit
      clear nohit
      have hql : q.length = p.length + k := by rw [hq.out, List.length_append, List.length_take]; omega
      have Hql := Lib.hid hql
      clear hql
      have hfi : ∀ W : World, W.heap = (w4.setCell ⟨f, 5, none⟩ (.int .i64 ((q.length : Int) + 1))).heap → W.heap[f]? = some (.cells (FC mn mx wd ms g q1.length) 130 (0, 0)) ∧ Ro W g wd (Wn wd q1 q1.length) := fun W hW => by
        refine ⟨?_, HR4.out.move (by rw [hW]; exact Go.heap_setCell_other _ _ _ _ (fun h => Hne.out h.symm))⟩
        rw [hW, Hq1l.out, Int.natCast_add]
        exact Go.Joins.block_setCell Hb4.out _
      have hkb : ∀ W : World, KB (fun _ => False) (w4.setCell ⟨f, 5, none⟩ (.int .i64 ((q.length : Int) + 1))) W → KB (fun j => j = f ∨ j = g) w0 W := fun W hW =>
        (((HKB.out.grown HG4.out (fun j hj => by cases hj; exact .inl (.inr rfl))).set (.inl (.inl rfl)) _).then_ hW (fun j hj => hj.elim))
      have Hfi := Lib.hid hfi
      have Hkb := Lib.hid hkb
      clear hfi hkb
      by_cases h1 : q.length + 1 < mn
      · go_quiet (fail)
        go_wp2_with fail
        go_roundg (b.length - (k + 1))
        case measure => rw [hgk.out]; omega
        case rel =>
          refine ⟨k + 1, q1, by omega, by go_num, rfl, Hq1t, ⟨(Hfi.out _ rfl).1, (Hfi.out _ rfl).2, Hne.out, ?_⟩, Hkb.out _ (KB.drewN (KB.refl _ _) _), ?_⟩
          · have := HO.out.mm; rw [Hq1l.out]; omega
          · refine Lib.hid (Nohit.out ?_)
            rw [Hhit.out]
            have := Hql.out
            simp only [show ¬ (mn ≤ p.length + k + 1) by omega, decide_false, Bool.false_and]
      · have hge : mn ≤ q.length + 1 := by omega
        clear h1
        have fin : ∀ (W : World), W.heap = (w4.setCell ⟨f, 5, none⟩ (.int .i64 ((q.length : Int) + 1))).heap → Calls Try.prog 87 #[.pointer (some ⟨f, 0, none⟩)] W (ResetPost f g mn mx wd ms W) := fun W hW =>
          reset_f W (Hfi.out _ hW).1 (Hfi.out _ hW).2 Hne.out (by omega)
        have hend : hit mn mx wd ms (p ++ b) (p.length + k + 1) = true → ∀ W W' : World, ResetPost f g mn mx wd ms W (.returned (.tuple #[])) W' → KB (fun _ => False) (w4.setCell ⟨f, 5, none⟩ (.int .i64 ((q.length : Int) + 1))) W → FindPost f g mn mx wd ms p b w0 (.returned (.tuple #[.int .i64 ((k : Int) + 1), .bool true])) W' := fun hh W W' hp hW => by
          refine ⟨(Hkb.out _ hW).then_ hp.2.2 (fun j hj => .inl hj), .inl ⟨p.length + k + 1, first_is (by omega) (by omega) hh (fun j g1 g2 => hno.out j g1 (by omega)), ?_, hp.2.1⟩⟩
          rw [show p.length + k + 1 - p.length = k + 1 by omega]
          rfl
        have Fin := Lib.hid fin
        have Hend := Lib.hid hend
        clear fin hend
        by_cases h2 : q.length + 1 = mx
        · have hcb : (((q.length : Int) + 1) == (mx : Int)) = true := by simp; omega
          have H2 := Lib.hid h2
          clear h2
          go_quiet (fail)
          go_wp2_with fail
          go_quiet (fail)
          go_wp2_with fail
          refine (Fin.out _ (by rfl)).mono ?_
          rintro e w5 ⟨rfl, hF5, hK5⟩
          go_wp2_with fail
          rw [Exit.noGoto_ret]
          go_ret2
          refine Hend.out ?_ _ _ ⟨rfl, hF5, hK5⟩ (KB.drewN (KB.refl _ _) _)
          rw [Hhit.out]
          have := Hql.out
          have := H2.out
          rw [show p.length + k + 1 = mx by omega]
          simp [HO.out.mm]
        · have hcb : (((q.length : Int) + 1) == (mx : Int)) = false := by simp; omega
          have hlt2 : q.length + 1 < mx := by have := HO.out.mm; omega
          have H2 := Lib.hid h2
          clear h2
          by_cases h3 : (Go.bits .and .u64 (fp (Wn wd q1 q1.length)) ms == 0) = true
          · go_quiet (fail)
            go_wp2_with fail
            go_quiet (fail)
            go_wp2_with fail
            refine (Fin.out _ (by rfl)).mono ?_
            rintro e w5 ⟨rfl, hF5, hK5⟩
            go_wp2_with fail
            rw [Exit.noGoto_ret]
            go_ret2
            refine Hend.out ?_ _ _ ⟨rfl, hF5, hK5⟩ (KB.drewN (KB.refl _ _) _)
            rw [Hhit.out]
            have := Hql.out
            simp only [show mn ≤ p.length + k + 1 by omega, decide_true, h3, Bool.true_and, Bool.or_true]
          · have h3' : (Go.bits .and .u64 (fp (Wn wd q1 q1.length)) ms == 0) = false := by simpa using h3
            clear h3
            go_quiet (fail)
            go_wp2_with fail
            go_quiet (fail)
            go_wp2_with fail
            go_roundg (b.length - (k + 1))
            case measure => rw [hgk.out]; omega
            case rel =>
              refine ⟨k + 1, q1, by omega, by go_num, rfl, Hq1t, ⟨(Hfi.out _ rfl).1, (Hfi.out _ rfl).2, Hne.out, ?_⟩, Hkb.out _ (KB.drewN (KB.refl _ _) _), ?_⟩
              · rw [Hq1l.out]; exact hlt2
              · refine Lib.hid (Nohit.out ?_)
                rw [Hhit.out]
                have := Hql.out
                simp only [show ¬ (p.length + k + 1 = mx) by omega, decide_false, h3', Bool.false_or, Bool.and_false]
    · obtain rfl : k = b.length := by omega
      have hqe : q = p ++ b := by rw [hq.out, List.take_length]
      have Hqe := Lib.hid hqe
      clear hqe
      go_wp2_with fail
      rw [Exit.noGoto_ret]
      go_ret2
      exact ⟨HKB.out, .inr ⟨first_isn (fun j h1 h2 => hno.out j h1 h2), rfl, by rw [← Hqe.out]; exact HF1.out⟩⟩
end Go.Proofs.Ytleapbbdpediiaa.Chk
/- The chunker's newFinder and Ends. -/
namespace Go.Proofs.Ytleapbbdpediiaa.Chk
open Go.RowKit Go.Proofs.Ytleapbbdpediiaa.P Go.Proofs.Ytleapbbdpediiaa.Fp Go.Proofs.Ytleapbbdpediiaa.FM Go.Proofs.Ytleapbbdpediiaa.Roll Go.Proofs.Ytleapbbdpediiaa.Ck Go.Proofs.YtleapbbdpediiaaW.PrintWords Go.Proofs.YtleapbbdpediiaaW.PrintLast Go.Proofs.YtleapbbdpediiaaW.PrintMore
set_option linter.unusedVariables false
set_option linter.unusedSimpArgs false
/-- Valid parameters (whatever the mask). -/
def Okq (mn mx wd : Int) : Prop := 1 ≤ wd ∧ wd ≤ 64 ∧ wd ≤ mn ∧ mn ≤ mx ∧ mx ≤ 8192
instance (mn mx wd : Int) : Decidable (Okq mn mx wd) := by unfold Okq; infer_instance
theorem check_is (mn mx wd ms : Int) : chunker_Check.f mn mx wd ms = some (if Okq mn mx wd then 0 else 240) := by
  by_cases h : Okq mn mx wd
  · rw [if_pos h]
    unfold Okq at h
    unfold chunker_Check.f
    rw [if_neg (by omega), if_neg (by omega), if_neg (by omega), if_neg (by omega), if_neg (by omega)]
  · rw [if_neg h]
    unfold Okq at h
    unfold chunker_Check.f
    repeat' split
    all_goals first | rfl | (exfalso; omega)
theorem Okq.okp {mn mx wd ms : Int} (h : Okq mn mx wd) (s0 : 0 ≤ ms) (s1 : ms < 18446744073709551616) : Okp mn.toNat mx.toNat wd.toNat ms := by
  unfold Okq at h
  exact ⟨by omega, by omega, by omega, by omega, by omega, s0, s1⟩
theorem Okp.okq {mn mx wd : Nat} {ms : Int} (h : Okp mn mx wd ms) : Okq mn mx wd := by
  have := h.w1
  have := h.w2
  have := h.wm
  have := h.mm
  have := h.mc
  unfold Okq
  omega
def NewFPost (mn mx wd : Nat) (ms : Int) (w0 : World) (e : Ending) (w' : World) : Prop := ∃ f g, e = .returned (.tuple #[.pointer (some ⟨f, 0, none⟩), .int .i64 0]) ∧ Fi w' f g mn mx wd ms [] ∧ w0.heap.size ≤ f ∧ w0.heap.size ≤ g ∧ Below w0.heap.size w0 w'
set_option maxHeartbeats 4000000 in
set_option maxRecDepth 100000 in
theorem newf_ok {mn mx wd : Nat} {ms : Int} (w0 : World) (h : Okp mn mx wd ms) : Calls Try.prog 73 #[.agg #[.int .i64 mn, .int .i64 mx, .int .i64 wd, .int .u64 ms]] w0 (NewFPost mn mx wd ms w0) := by
  have hc := check_is mn mx wd ms
  rw [if_pos h.okq] at hc
  have Hc := Lib.hid hc
  have H := Lib.hid h
  have h1 := h.w1
  have h2 := h.w2
  clear hc h
  go_enter Try.func73, Try.ntmps73
  go_wp2_with fail
  refine (chunker_Check.calls _ _ _ _ _ _ Hc.out).mono ?_
  rintro e w1 ⟨rfl, hb1⟩
  have B1 := stepB ((Below.refl w0.heap.size w0).alloc (Nat.le_refl _) _) hb1
  have hz1 := hb1.size
  have hbx := (hb1.block w0.heap.size (by simp)).trans (heap_alloc_new w0 _)
  try simp only [World.size_alloc] at hz1
  have x0 := blk_cell hbx 0
  have x1 := blk_cell hbx 1
  have x2 := blk_cell hbx 2
  have x3 := blk_cell hbx 3
  simp at x0 x1 x2 x3
  clear hbx hb1
  go_wp2_with fail
  refine (new_ok wd _ h1 h2).mono ?_
  rintro e w2 ⟨rfl, hR2, hb2, hs2⟩
  have B2 := stepB B1 hb2
  obtain ⟨c2, f2⟩ := bcell hb2
  have y0 := (c2 w0.heap.size 0 hz1).trans x0
  have y1 := (c2 w0.heap.size 1 hz1).trans x1
  have y2 := (c2 w0.heap.size 2 hz1).trans x2
  have y3 := (c2 w0.heap.size 3 hz1).trans x3
  have hz2 : w1.heap.size < w2.heap.size := by omega
  have HR2 := Lib.hid hR2
  clear c2 f2 x0 x1 x2 x3 hb2 hR2
  have Hs2 := Lib.hid hs2
  clear hs2
  go_wp2_with fail
  go_ret2
  have := Hs2.out
  refine ⟨w2.heap.size, w1.heap.size, rfl, ⟨heap_alloc_new _ _, ?_, by omega, ?_⟩, by omega, by omega, B2.alloc (by omega) _⟩
  · rw [List.length_nil, Wn_nil]
    exact HR2.out.below ((Below.refl _ _).alloc (Nat.le_refl _) _)
  · have := H.out.mm
    have := H.out.wm
    rw [List.length_nil]
    omega
set_option maxHeartbeats 4000000 in
set_option maxRecDepth 100000 in
theorem newf_no {mn mx wd ms : Int} (w0 : World) (h : ¬ Okq mn mx wd) : Calls Try.prog 73 #[.agg #[.int .i64 mn, .int .i64 mx, .int .i64 wd, .int .u64 ms]] w0 fun e w' => e = .returned (.tuple #[.pointer none, .int .i64 240]) ∧ Below w0.heap.size w0 w' := by
  have hc := check_is mn mx wd ms
  rw [if_neg h] at hc
  have Hc := Lib.hid hc
  clear hc h
  go_enter Try.func73, Try.ntmps73
  go_wp2_with fail
  refine (chunker_Check.calls _ _ _ _ _ _ Hc.out).mono ?_
  rintro e w1 ⟨rfl, hb1⟩
  have B1 := stepB ((Below.refl w0.heap.size w0).alloc (Nat.le_refl _) _) hb1
  go_wp2_with fail
  go_ret2
  exact ⟨rfl, B1⟩
/-- 'xs[lo:]' of what is read: the rest, under a new name, in the same block. -/
theorem cut_b {P : Program} {α : Type} (k : Kd α) (t e : TypeId) {i : TypeInfo} (ht : P.underlying t = some (.slice e)) (hi : P.info? e = some i) (hsz : i.size = k.sz) (A : Option Addr) (c : Nat) (xs : List α) (lo : Nat) (h1 : lo ≤ xs.length) (hc : xs.length ≤ c) :
    ∃ (A' : Option Addr) (c' : Nat) (l : List α), Hid (l = xs.drop lo) ∧ l.length ≤ c' ∧ (∀ w, k.C w A xs.length xs → k.C w A' l.length l) ∧
      (∀ W : World, (Instr.slice t (.slice A xs.length c) (some (.int .i64 (lo : Int))) none none).run P W = .ok (.slice A' l.length c') W) ∧ (∀ ad, A' = some ad → ∃ ad0, A = some ad0 ∧ ad.block = ad0.block) := by
  refine ⟨if c = lo then A else A.map (·.add (lo * k.sz)), c - lo, xs.drop lo, Lib.hid rfl, by rw [List.length_drop]; omega, fun w h => ?_, fun W => ?_, fun ad h => ?_⟩
  · have := Kd.C_mid h (lo := lo) (hi := xs.length) h1 (Nat.le_refl _) hc
    rw [List.take_length] at this
    exact this
  · rw [cut_from t e .i64 ht hi k.sz hsz A xs.length c lo (by omega) (by omega) W]
    simp only [Int.toNat_natCast, List.length_drop]
  · split at h
    · exact ⟨ad, h, rfl⟩
    · obtain ⟨ad0, h0, rfl⟩ := Option.map_eq_some_iff.1 h
      exact ⟨ad0, h0, add_block _ _⟩
theorem infoB : (Try.prog.info? 5).map (fun i => (i.zero, i.size, i.bytes)) = some (some (.int .u8 0), 1, 1) := by kernel_rfl
theorem infoI : (Try.prog.info? 3).map (fun i => (i.zero, i.size, i.bytes)) = some (some (.int .i64 0), 1, 8) := by kernel_rfl
/-- The ends as the program's numbers. -/
def endsI (mn mx wd : Nat) (ms : Int) (b : List Int) : List Int := (ends mn mx wd ms b).map Int.ofNat
/-- A find at the begin of a chunk. -/
def Find0 (f g mn mx wd : Nat) (ms : Int) (b : List Int) (w0 : World) (e : Ending) (w' : World) : Prop :=
  ∃ (n : Nat) (ok : Bool), endF mn mx wd ms b = (n, ok) ∧ e = .returned (.tuple #[.int .i64 (n : Int), .bool ok]) ∧ KB (fun k => k = f ∨ k = g) w0 w' ∧ (n < b.length → Fi w' f g mn mx wd ms [])
theorem find_0 {f g mn mx wd : Nat} {ms : Int} {b : List Int} {A : Option Addr} {c : Nat} (w0 : World) (hF : Fi w0 f g mn mx wd ms []) (hO : Okp mn mx wd ms) (hr : Kd.C (Kd.int .u8) w0 A b.length b) (hc : b.length ≤ c) (hb : IsBytes b) (hl : b.length ≤ 140737488355328)
    (hA : 0 < b.length → ∀ ad, A = some ad → ad.block ≠ f ∧ ad.block ≠ g) :
    Calls Try.prog 74 #[.pointer (some ⟨f, 0, none⟩), .slice A b.length c] w0 (Find0 f g mn mx wd ms b w0) :=
  (find_c w0 hF hO hr hc hb hl hA).mono fun e w' ⟨hk, h⟩ => by
    rcases h with ⟨r, h1, h2, h3⟩ | ⟨h1, h2, h3⟩
    · have h1 : first mn mx wd ms b 0 b.length = some r := h1
      refine ⟨r, true, ?_, h2, hk, fun _ => h3⟩
      unfold endF
      rw [h1]
    · have h1 : first mn mx wd ms b 0 b.length = none := h1
      refine ⟨b.length, false, ?_, h2, hk, fun h => absurd h (Nat.lt_irrefl _)⟩
      unfold endF
      rw [h1]
theorem own_keep {w w' : World} {S : Nat → Prop} {base : Nat} {e : TypeId} {v : Value} {n : Nat} {xs : List Value} (h : w.ownsRow base e 1 v n xs) (hk : KB S w w') (hS : ∀ k cs, S k → w.heap[k]? ≠ some (.cells cs e (0, 0))) : w'.ownsRow base e 1 v n xs := by
  refine own_move h (fun k hv => hk.block k (own_lt h k hv) (fun hs => ?_))
  obtain ⟨cs, hcs⟩ := own_typed h k hv
  exact hS k cs hs hcs
theorem ends_step {mn mx wd : Nat} {ms : Int} {b l : List Int} {a n : Nat} {ok : Bool} {E : List Nat} (h : ends mn mx wd ms b = E ++ (ends mn mx wd ms (b.drop a)).map (a + ·)) (hl : l = b.drop a) (ha : a < b.length) (he : endF mn mx wd ms l = (n, ok)) :
    ends mn mx wd ms b = (E ++ [a + n]) ++ (ends mn mx wd ms (b.drop (a + n))).map (a + n + ·) := by
  subst hl
  rw [h, ends_cons (l := b.drop a) (by rw [List.length_drop]; omega), he]
  simp only [List.map_cons, List.map_map, List.drop_drop, List.append_assoc, List.singleton_append]
  congr 3
  funext x
  simp only [Function.comp_apply]
  omega
def EndsPost (mn mx wd : Nat) (ms : Int) (b : List Int) (w0 : World) (e : Ending) (w' : World) : Prop := ∃ v : Value, e = .returned (.tuple #[v, .int .i64 0]) ∧ Kd.R (Kd.int .i64) 3 w' w0.heap.size (fun _ => True) v (endsI mn mx wd ms b) ∧ Below w0.heap.size w0 w'
set_option maxHeartbeats 4000000 in
set_option maxRecDepth 100000 in
theorem ends_ok {mn mx wd : Nat} {ms : Int} {b : List Int} {A : Option Addr} {c : Nat} (w0 : World) (h : Okp mn mx wd ms) (hr : Kd.C (Kd.int .u8) w0 A b.length b) (hc : b.length ≤ c) (hb : IsBytes b) (hl : b.length ≤ 1048576) :
    Calls Try.prog 54 #[.agg #[.int .i64 mn, .int .i64 mx, .int .i64 wd, .int .u64 ms], .slice A b.length c] w0 (EndsPost mn mx wd ms b w0) := by
  have H := Lib.hid h
  have Hb := Lib.hid hb
  clear h hb
  obtain ⟨i0, hi, hz0, hz1, hz2⟩ := info_parts infoI
  obtain ⟨i5, hi5, _, hs5, _⟩ := info_parts infoB
  go_enter Try.func54, Try.ntmps54
  go_wp2_with fail
  refine (newf_ok _ H.out).mono ?_
  rintro e w1 ⟨f, g, rfl, hF1, hf, hg, hb1⟩
  have B1 : Below w0.heap.size w0 w1 := stepB ((Below.refl w0.heap.size w0).alloc (Nat.le_refl _) _) hb1
  have HF1 := Lib.hid hF1
  clear hF1 hb1
  try simp only [World.size_alloc] at hf hg
  go_wp2_with fail
  go_loopw [8, 9] (fun v i wr => ∃ (a : Nat) (E : List Nat), a ≤ b.length ∧ i = .int .i64 a ∧ E.length ≤ a ∧ wr.ownsRow w0.heap.size 3 1 v E.length (nums .i64 (E.map Int.ofNat)) ∧ Hid (ends mn mx wd ms b = E ++ (ends mn mx wd ms (b.drop a)).map (a + ·)) ∧ Below w0.heap.size w0 wr ∧ Hid (a < b.length → Fi wr f g mn mx wd ms [])) (fun _ i _ => b.length - (intOf i).toNat)
  case atStart => exact ⟨0, [], Nat.zero_le _, rfl, Nat.le_refl _, own_nil _ _ _ _, Lib.hid (by simp), B1, Lib.hid (fun _ => HF1.out)⟩
  case round =>
    obtain ⟨a, E, hal, rfl, hEa, hown, hE, HB, hF⟩ := hrel
    by_cases hlt : a < b.length
    · have hF' := hF.out hlt
      have HFi := Lib.hid hF'
      have Hown := Lib.hid hown
      clear hF hF' hown
      obtain ⟨A6, c6, l6, e6, hc6, hr6, hcut, hA6⟩ := cut_b (Kd.int .u8) 34 5 Try.underlying34 hi5 hs5 A c b a (by omega) hc
      have hl6 : IsBytes l6 := by rw [e6.out]; exact fun x hx => Hb.out x (List.mem_of_mem_drop hx)
      have n6 : l6.length ≤ 140737488355328 := by rw [e6.out, List.length_drop]; omega
      have hAne : 0 < l6.length → ∀ ad, A6 = some ad → ad.block ≠ f ∧ ad.block ≠ g := fun h0 ad had => by
        obtain ⟨ad0, h0', h1⟩ := hA6 ad had
        obtain ⟨ad1, h2, h3, _⟩ := C_cells hr (by omega)
        rw [h0'] at h2
        cases h2
        omega
      have Hl6 := Lib.hid hl6
      have HAne := Lib.hid hAne
      have Hr6 := Lib.hid hr6
      clear hl6 hAne hA6 hr6
      have hlen6 : l6.length = b.length - a := by rw [e6.out, List.length_drop]
      have Hlen6 := Lib.hid hlen6
      clear hlen6
      go_wp2_with fail
      refine (find_0 _ HFi.out H.out (Hr6.out _ (Kd.C_below hr HB)) hc6 Hl6.out n6 HAne.out).mono ?_
      rintro e w4 ⟨n, ok, hen, rfl, hk4, hF4⟩
      have hn1 : n ≤ l6.length := by have := endF_le (mn := mn) (mx := mx) (wd := wd) (ms := ms) (l := l6); rw [hen] at this; exact this
      have hn0 : 0 < n := by have := endF_pos (mn := mn) (mx := mx) (wd := wd) (ms := ms) (l := l6) (by rw [Hlen6.out]; omega); rw [hen] at this; exact this
      have hn2 : a + n ≤ b.length := by have := Hlen6.out; omega
      have hE' := ends_step hE.out e6.out hlt hen
      have hown4 : w4.ownsRow w0.heap.size 3 1 _ E.length (nums .i64 (E.map Int.ofNat)) := own_keep Hown.out hk4 (fun k cs hs => by
        rcases hs with rfl | rfl
        · rw [HFi.out.1]; intro h; cases h
        · obtain ⟨ring, t, _, hb, _⟩ := HFi.out.2.1
          rw [hb]; intro h; cases h)
      have HB4 : Below w0.heap.size w0 w4 := KB.to_below HB HB.size hk4 (fun i hi => by rcases hi with rfl | rfl <;> omega)
      have hF4' : a + n < b.length → Fi w4 f g mn mx wd ms [] := fun h => hF4 (by have := Hlen6.out; omega)
      have Hown4 := Lib.hid hown4
      have HF4 := Lib.hid hF4'
      have HE' := Lib.hid hE'
      clear hown4 hF4 hF4' hE' hen hk4
      go_wp2_with (at_builtin; go_must (refine wpList_append_own_at _ rfl _ _ 22 rfl w0.heap.size 3 i0 (.int .i64 0) 1 8 Try.underlying22 hi hz0 hz1 hz2 rfl (by decide) _ _ _ rfl (Hown4.out.alloc _) ⟨w4.heap.size, 0, none⟩ 1 1 [.int .i64 ((a : Int) + n)] rfl rfl (cell_one_new _ _ _) (by simp [Value.oneCell']) (by unfold maxLen; omega) (by omega) (by have := HB4.size; simp; omega) ?_); intro v' w5 hown5 hg5 _ _)
      have HB5 : Below w0.heap.size w0 w5 := (HB4.alloc HB4.size _).grown hg5 (by simp; have := HB4.size; omega) (fun k hk => own_base Hown4.out k hk)
      go_roundw
      case rel =>
        refine ⟨a + n, E ++ [a + n], hn2, by go_num, by simp; omega, ?_, HE', HB5, ?_⟩
        · have e : nums .i64 ((E ++ [a + n]).map Int.ofNat) = nums .i64 (E.map Int.ofNat) ++ [.int .i64 ((a : Int) + n)] := by simp [nums]
          rw [e, List.length_append]
          exact hown5
        · refine Lib.hid (fun h => (HF4.out h).kb (KB.refl _ _ |>.alloc _ |>.grown hg5 (fun k hk => .inl hk)) ?_ ?_)
          · intro hS
            obtain ⟨cs, hcs⟩ := own_typed Hown4.out f hS
            rw [(HF4.out h).1] at hcs
            cases hcs
          · intro hS
            obtain ⟨cs, hcs⟩ := own_typed Hown4.out g hS
            obtain ⟨ring, t, _, hb, _⟩ := (HF4.out h).2.1
            rw [hb] at hcs
            cases hcs
      case measure => simp [intOf]; omega
    · obtain rfl : a = b.length := by omega
      have hE0 : ends mn mx wd ms b = E := by rw [hE.out, List.drop_length, ends_nil, List.map_nil, List.append_nil]
      have hR := Kd.R_of_own (ok := fun _ => True) (enc := Value.int .i64) (h1 := fun _ => rfl) (xs := E.map Int.ofNat) (by rw [List.length_map]; exact hown) (fun _ _ => trivial)
      have HR := Lib.hid hR
      have HE0 := Lib.hid hE0
      clear hR hE0 hown
      go_wp2_with fail
      go_ret2
      exact ⟨_, rfl, by unfold endsI; rw [HE0.out]; exact HR.out, HB⟩
end Go.Proofs.Ytleapbbdpediiaa.Chk
/- The chunker's Ends, and the reference's End, in the print's form. -/
namespace Go.Proofs.Ytleapbbdpediiaa.Chk
open Go.RowKit Go.Proofs.Ytleapbbdpediiaa.P Go.Proofs.Ytleapbbdpediiaa.Fp Go.Proofs.Ytleapbbdpediiaa.FM Go.Proofs.Ytleapbbdpediiaa.Roll Go.Proofs.Ytleapbbdpediiaa.Ck Go.Proofs.YtleapbbdpediiaaW.PrintWords Go.Proofs.YtleapbbdpediiaaW.PrintLast Go.Proofs.YtleapbbdpediiaaW.PrintMore
set_option linter.unusedVariables false
set_option linter.unusedSimpArgs false
instance (l : List Int) : Decidable (IsBytes l) := by unfold IsBytes; infer_instance
set_option maxHeartbeats 4000000 in
set_option maxRecDepth 100000 in
theorem ends_no {mn mx wd ms : Int} {l c : Nat} {A : Option Addr} (w0 : World) (h : ¬ Okq mn mx wd) :
    Calls Try.prog 54 #[.agg #[.int .i64 mn, .int .i64 mx, .int .i64 wd, .int .u64 ms], .slice A l c] w0 fun e w' => e = .returned (.tuple #[.slice none 0 0, .int .i64 240]) ∧ Below w0.heap.size w0 w' := by
  have H := Lib.hid h
  clear h
  go_enter Try.func54, Try.ntmps54
  go_wp2_with fail
  refine (newf_no _ H.out).mono ?_
  rintro e w1 ⟨rfl, hb1⟩
  have B1 : Below w0.heap.size w0 w1 := stepB ((Below.refl w0.heap.size w0).alloc (Nat.le_refl _) _) hb1
  go_wp2_with fail
  go_ret2
  exact ⟨rfl, B1⟩
set_option maxHeartbeats 4000000 in
set_option maxRecDepth 100000 in
theorem ends_long {mn mx wd : Nat} {ms : Int} {l c : Nat} {A : Option Addr} (w0 : World) (h : Okp mn mx wd ms) (hl : 1048576 < l) :
    Calls Try.prog 54 #[.agg #[.int .i64 mn, .int .i64 mx, .int .i64 wd, .int .u64 ms], .slice A l c] w0 fun e w' => e = .returned (.tuple #[.slice none 0 0, .int .i64 241]) ∧ Below w0.heap.size w0 w' := by
  have H := Lib.hid h
  clear h
  go_enter Try.func54, Try.ntmps54
  go_wp2_with fail
  refine (newf_ok _ H.out).mono ?_
  rintro e w1 ⟨f, g, rfl, hF1, hf, hg, hb1⟩
  have B1 : Below w0.heap.size w0 w1 := stepB ((Below.refl w0.heap.size w0).alloc (Nat.le_refl _) _) hb1
  clear hF1
  go_wp2_with fail
  go_ret2
  exact ⟨rfl, B1⟩
/-- What Ends comes to. -/
def endsS (mn mx wd ms : Int) (l : List Int) : Option (List Int × Int) :=
  if Okq mn mx wd then (if 0 ≤ ms ∧ ms < 18446744073709551616 then (if l.length > 1048576 then some ([], 241) else if IsBytes l then some (endsI mn.toNat mx.toNat wd.toNat ms l, 0) else none) else none) else some ([], 240)
theorem ends_calls (mn mx wd ms : Int) (A : Option Addr) (c : Nat) (l r1 : List Int) (r2 : Int) (w : World) (hr : Kd.C (Kd.int .u8) w A l.length l) (hc : l.length ≤ c) (h : endsS mn mx wd ms l = some (r1, r2)) :
    Calls Try.prog 54 #[.agg #[.int .i64 mn, .int .i64 mx, .int .i64 wd, .int .u64 ms], .slice A l.length c] w fun e w' => ∃ v0_ : Value, e = .returned (.tuple #[v0_, .int .i64 r2]) ∧ Kd.R (Kd.int .i64) 3 w' w.heap.size (fun _ => True) v0_ r1 ∧ Below w.heap.size w w' := by
  unfold endsS at h
  by_cases h1 : Okq mn mx wd
  · rw [if_pos h1] at h
    by_cases h2 : 0 ≤ ms ∧ ms < 18446744073709551616
    · rw [if_pos h2] at h
      have hO := h1.okp h2.1 h2.2
      obtain ⟨m, rfl⟩ := Int.eq_ofNat_of_zero_le (show 0 ≤ mn by have := h1; unfold Okq at this; omega)
      obtain ⟨x, rfl⟩ := Int.eq_ofNat_of_zero_le (show 0 ≤ mx by have := h1; unfold Okq at this; omega)
      obtain ⟨d, rfl⟩ := Int.eq_ofNat_of_zero_le (show 0 ≤ wd by have := h1; unfold Okq at this; omega)
      simp only [Int.toNat_natCast] at h hO
      by_cases h3 : l.length > 1048576
      · rw [if_pos h3] at h
        cases h
        exact (ends_long w hO h3).mono fun e w' ⟨he, hb⟩ => ⟨_, he, Kd.R_nil _ _ _ _ _, hb⟩
      · rw [if_neg h3] at h
        by_cases h4 : IsBytes l
        · rw [if_pos h4] at h
          cases h
          exact (ends_ok w hO hr hc h4 (by omega)).mono fun e w' ⟨v, he, hR, hb⟩ => ⟨v, he, hR, hb⟩
        · rw [if_neg h4] at h; cases h
    · rw [if_neg h2] at h; cases h
  · rw [if_neg h1] at h
    cases h
    exact (ends_no w h1).mono fun e w' ⟨he, hb⟩ => ⟨_, he, Kd.R_nil _ _ _ _ _, hb⟩
/-- What the reference's End comes to. -/
def endS (mn mx wd ms : Int) (l : List Int) (s : Int) : Option (Int × Bool) :=
  if Okq mn mx wd ∧ 0 ≤ ms ∧ ms < 18446744073709551616 ∧ IsBytes l ∧ 0 ≤ s ∧ s ≤ l.length ∧ l.length ≤ 1048576 then some (s + (endF mn.toNat mx.toNat wd.toNat ms (l.drop s.toNat)).1, (endF mn.toNat mx.toNat wd.toNat ms (l.drop s.toNat)).2) else none
def EndPost (mn mx wd : Nat) (ms : Int) (b : List Int) (s : Nat) (w0 : World) (e : Ending) (w' : World) : Prop := e = .returned (.tuple #[.int .i64 ((s + (endF mn mx wd ms (b.drop s)).1 : Nat) : Int), .bool (endF mn mx wd ms (b.drop s)).2]) ∧ Below w0.heap.size w0 w'
set_option maxHeartbeats 4000000 in
set_option maxRecDepth 100000 in
theorem end_ok {mn mx wd : Nat} {ms : Int} {b : List Int} {s : Nat} {A : Option Addr} {c : Nat} (w0 : World) (h : Okp mn mx wd ms) (hr : Kd.C (Kd.int .u8) w0 A b.length b) (hc : b.length ≤ c) (hb : IsBytes b) (hs : s ≤ b.length) (hl : b.length ≤ 1048576) :
    Calls Try.prog 83 #[.agg #[.int .i64 mn, .int .i64 mx, .int .i64 wd, .int .u64 ms], .slice A b.length c, .int .i64 s] w0 (EndPost mn mx wd ms b s w0) := by
  have H := Lib.hid h
  have Hb := Lib.hid hb
  have h1 := h.w1
  have h2 := h.w2
  have h3 := h.wm
  have h4 := h.mm
  have h5 := h.mc
  clear h hb
  obtain ⟨i5, hi5, _, hs5, _⟩ := info_parts infoB
  go_enter Try.func83, Try.ntmps83
  go_wp2_with fail
  have hW := heap_alloc_new w0 (.cells #[.int .i64 mn, .int .i64 mx, .int .i64 wd, .int .u64 ms] 83 (0, 0))
  have BW : Below w0.heap.size w0 (w0.alloc (.cells #[.int .i64 mn, .int .i64 mx, .int .i64 wd, .int .u64 ms] 83 (0, 0))) := (Below.refl w0.heap.size w0).alloc (Nat.le_refl _) _
  have hsz : w0.heap.size < (w0.alloc (.cells #[.int .i64 mn, .int .i64 mx, .int .i64 wd, .int .u64 ms] 83 (0, 0))).heap.size := by simp
  have hrW := Kd.C_below hr BW
  generalize w0.alloc (.cells #[.int .i64 mn, .int .i64 mx, .int .i64 wd, .int .u64 ms] 83 (0, 0)) = W1 at *
  have HW := Lib.hid hW
  have HBW := Lib.hid BW
  clear hW BW
  go_loopw [8] (fun e wr => ∃ k : Nat, mn ≤ k ∧ k ≤ mx ∧ e = .int .i64 ((s : Int) + k) ∧ Hid (∀ j, 0 < j → j < k → hit mn mx wd ms (b.drop s) j = false) ∧ Drawn0 W1 wr) (fun e _ => b.length + 1 - (intOf e).toNat)
  case atStart => exact ⟨mn, Nat.le_refl _, h4, rfl, Lib.hid (fun j g1 g2 => by simp [hit]; omega), Drawn0.refl _⟩
  case round =>
    obtain ⟨k, hk, hkx, rfl, hno, hD⟩ := hrel
    have hwr : wr.heap = W1.heap := by obtain ⟨n, rfl⟩ := hD.out; rfl
    have hbx : wr.heap[w0.heap.size]? = _ := (congrArg (fun h => h[w0.heap.size]?) hwr).trans HW.out
    have x0 := blk_cell hbx 0
    have x1 := blk_cell hbx 1
    have x2 := blk_cell hbx 2
    have x3 := blk_cell hbx 3
    simp at x0 x1 x2 x3
    have HD := Lib.hid hD
    have hrr := Kd.C_below hrW hD.below
    clear hwr hbx hD
    have w1 : IntKind.i64.wrap ((s : Int) + mx) = (s : Int) + mx := IntWalk.i64_in _ (by omega)
    have w2 : IntKind.i64.wrap ((s : Int) + k - wd) = (s : Int) + k - wd := IntWalk.i64_in _ (by omega)
    by_cases hle : s + k ≤ b.length
    · have hlen : (b.drop s).length = b.length - s := List.length_drop
      have Hlen := Lib.hid hlen
      clear hlen
      by_cases hm : k = mx
      · have hcb : (((s : Int) + k) == ((s : Int) + mx)) = true := by simp; omega
        have Hm := Lib.hid hm
        clear hm
        go_wp2_with fail
        go_quiet (fail)
        go_wp2_with fail
        go_ret2
        have he : endF mn mx wd ms (b.drop s) = (k, true) := endF_is (by omega) (by rw [Hlen.out]; omega) (by rw [Hm.out]; exact hit_mx h4) hno.out
        unfold EndPost
        rw [he]
        exact ⟨by simp, stepB HBW.out (pw_below_drewN HD.out.below _)⟩
      · have hcb : (((s : Int) + k) == ((s : Int) + mx)) = false := by simp; omega
        have hlt : k < mx := by omega
        clear hm
        obtain ⟨A6, c6, l6, e6, hc6, hr6, hcut⟩ := cut_r (Kd.int .u8) 34 5 Try.underlying34 hi5 hs5 A c b (s + k - wd) (s + k) (by omega) hle hc
        rw [show ((s + k - wd : Nat) : Int) = (s : Int) + k - wd by omega, show ((s + k : Nat) : Int) = (s : Int) + k by omega] at hcut
        have ew : l6 = Wn wd (b.drop s) k := by
          rw [e6.out]
          unfold Wn
          rw [List.take_drop, List.drop_drop]
          congr 1
          omega
        have hl6 : IsBytes l6 := by rw [e6.out]; exact fun x hx => Hb.out x (List.mem_of_mem_take (List.mem_of_mem_drop hx))
        have hn6 : l6.length ≤ 140737488351232 := by rw [e6.out, List.length_drop, List.length_take]; omega
        have q1 : ∀ n, Calls Try.prog 75 #[.slice A6 l6.length c6] (wr.drewN n) fun e w' => e = .returned (.int .u64 (fp l6)) ∧ ∃ k, w' = wr.drewN k := fun n =>
          quiet_d (Sum_c _ (hr6 _ (Kd.C_below hrr ((Drawn0.refl wr).step n).below)) hc6 hl6 hn6)
        have hhit : hit mn mx wd ms (b.drop s) k = (Go.bits .and .u64 (fp l6) ms == 0) := by
          unfold hit
          rw [← ew]
          simp [hk, show ¬ k = mx by omega]
        have Hhit := Lib.hid hhit
        have Q1 := Lib.hid q1
        clear hhit hl6 hn6 ew hr6 q1
        by_cases h6 : (Go.bits .and .u64 (fp l6) ms == 0) = true
        · go_wp2_with fail
          go_quiet ((go_at_call 75; with_reducible exact Q1.out _))
          go_wp2_with fail
          go_ret2
          have he : endF mn mx wd ms (b.drop s) = (k, true) := endF_is (by omega) (by rw [Hlen.out]; omega) (by rw [Hhit.out]; exact h6) hno.out
          unfold EndPost
          rw [he]
          exact ⟨by simp, stepB HBW.out (pw_below_drewN HD.out.below _)⟩
        · have h6' : (Go.bits .and .u64 (fp l6) ms == 0) = false := by simpa using h6
          clear h6
          go_wp2_with fail
          go_quiet ((go_at_call 75; with_reducible exact Q1.out _))
          go_wp2_with fail
          go_roundw
          case rel =>
            refine ⟨k + 1, by omega, by omega, by go_num, Lib.hid (fun j g1 g2 => ?_), HD.out.step _⟩
            by_cases hj : j = k
            · rw [hj, Hhit.out]; exact h6'
            · exact hno.out j g1 (by omega)
          case measure => simp [intOf]; omega
    · have hlen : (b.drop s).length = b.length - s := List.length_drop
      have Hlen := Lib.hid hlen
      clear hlen
      go_wp2_with fail
      go_ret2
      have he : endF mn mx wd ms (b.drop s) = ((b.drop s).length, false) := endF_isn (fun j g1 g2 => hno.out j g1 (by have := Hlen.out; omega))
      unfold EndPost
      rw [he]
      refine ⟨?_, stepB HBW.out HD.out.below⟩
      rw [show s + ((b.drop s).length, false).1 = b.length by have := Hlen.out; show s + (b.drop s).length = _; omega]
      rfl
theorem end_calls (mn mx wd ms : Int) (A : Option Addr) (c : Nat) (l : List Int) (s r1 : Int) (r2 : Bool) (w : World) (hr : Kd.C (Kd.int .u8) w A l.length l) (hc : l.length ≤ c) (h : endS mn mx wd ms l s = some (r1, r2)) :
    Calls Try.prog 83 #[.agg #[.int .i64 mn, .int .i64 mx, .int .i64 wd, .int .u64 ms], .slice A l.length c, .int .i64 s] w fun e w' => e = .returned (.tuple #[.int .i64 r1, .bool r2]) ∧ Below w.heap.size w w' := by
  unfold endS at h
  split at h
  · rename_i hh
    obtain ⟨h1, h2, h3, h4, h5, h6, h7⟩ := hh
    have hO := h1.okp h2 h3
    obtain ⟨m, rfl⟩ := Int.eq_ofNat_of_zero_le (show 0 ≤ mn by have := h1; unfold Okq at this; omega)
    obtain ⟨x, rfl⟩ := Int.eq_ofNat_of_zero_le (show 0 ≤ mx by have := h1; unfold Okq at this; omega)
    obtain ⟨d, rfl⟩ := Int.eq_ofNat_of_zero_le (show 0 ≤ wd by have := h1; unfold Okq at this; omega)
    obtain ⟨t, rfl⟩ := Int.eq_ofNat_of_zero_le h5
    simp only [Int.toNat_natCast, Option.some.injEq, Prod.mk.injEq] at h hO
    obtain ⟨rfl, rfl⟩ := h
    exact (end_ok w hO hr hc h4 (by omega) h7).mono fun e w' ⟨he, hb⟩ => ⟨by rw [he, Int.natCast_add], hb⟩
  · cases h
end Go.Proofs.Ytleapbbdpediiaa.Chk
