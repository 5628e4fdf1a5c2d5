/- The chunker's finder: what it is in memory, and the contracts of its functions. -/
import Derived.Test.YtgfodmpdnhebjaaRoll
import Derived.Test.YtgfodmpdnhebjaaCk
import Derived.LoopTactic
import Derived.Test.YtgfodmpdnhebjaaPxf35
namespace Go.Proofs.Ytgfodmpdnhebjaa.Chk
open Go.RowKit Go.Proofs.Ytgfodmpdnhebjaa.P Go.Proofs.Ytgfodmpdnhebjaa.Fp Go.Proofs.Ytgfodmpdnhebjaa.FM Go.Proofs.Ytgfodmpdnhebjaa.Roll Go.Proofs.Ytgfodmpdnhebjaa.Ck Go.Proofs.YtgfodmpdnhebjaaW.PrintWords Go.Proofs.YtgfodmpdnhebjaaW.PrintLast Go.Proofs.YtgfodmpdnhebjaaW.PrintMore
set_option linter.unusedVariables false
set_option linter.unusedSimpArgs false
/-- Nothing that was there but the blocks of S has changed. -/
structure KB (S : Nat → Prop) (w w' : World) : Prop where
  os : w'.os = w.os
  tape : w'.tape = w.tape
  output : w'.output = w.output
  size : w.heap.size ≤ w'.heap.size
  block : ∀ k, k < w.heap.size → ¬ S k → w'.heap[k]? = w.heap[k]?
section
variable {S T : Nat → Prop} {a b c w0 : World}
theorem KB.refl (S : Nat → Prop) (w : World) : KB S w w := ⟨rfl, rfl, rfl, Nat.le_refl _, fun _ _ _ => rfl⟩
theorem KB.then_ (h : KB S a b) (k : KB T b c) (hs : ∀ i, T i → S i ∨ a.heap.size ≤ i) : KB S a c :=
  ⟨k.os.trans h.os, k.tape.trans h.tape, k.output.trans h.output, Nat.le_trans h.size k.size, fun i hi hn =>
    (k.block i (Nat.lt_of_lt_of_le hi h.size) (fun ht => (hs i ht).elim hn (fun hge => by omega))).trans (h.block i hi hn)⟩
theorem KB.of_grown {row : Option Nat} (g : a.grownBy b row) : KB (fun k => row = some k) a b :=
  ⟨g.os, g.tape, g.output, g.size, fun k hk hn => g.block k hk (fun e => hn e.symm)⟩
theorem KB.of_below (h : Below a.heap.size a b) : KB (fun _ => False) a b := ⟨h.os, h.tape, h.output, h.size, fun k hk _ => h.block k hk⟩
theorem KB.grown (h : KB S a b) {row : Option Nat} (g : b.grownBy c row) (hr : ∀ k, row = some k → S k ∨ a.heap.size ≤ k) : KB S a c := h.then_ (KB.of_grown g) hr
theorem KB.below (h : KB S a b) (k : Below b.heap.size b c) : KB S a c := h.then_ (KB.of_below k) (fun _ hf => hf.elim)
theorem KB.set (h : KB S a b) {p : Addr} (hp : S p.block ∨ a.heap.size ≤ p.block) (u : Value) : KB S a (b.setCell p u) :=
  h.then_ (T := fun k => k = p.block) ⟨rfl, rfl, rfl, by simp [World.setCell], fun k _ hn => Below.heap_setCell _ _ _ _ hn⟩ (fun i hi => by rw [hi]; exact hp)
theorem KB.alloc (h : KB S a b) (o : Obj) : KB S a (b.alloc o) := h.below ((Below.refl _ _).alloc (Nat.le_refl _) _)
theorem KB.drew (h : KB S a b) : KB S a b.drew := ⟨h.os, h.tape, h.output, h.size, h.block⟩
theorem KB.drewN (h : KB S a b) (n : Nat) : KB S a (b.drewN n) := ⟨h.os, h.tape, h.output, h.size, h.block⟩
theorem KB.mono (h : KB S a b) (hs : ∀ k, S k → T k) : KB T a b := ⟨h.os, h.tape, h.output, h.size, fun k hk hn => h.block k hk (fun hS => hn (hs k hS))⟩
theorem KB.to_below {B : Nat} (h : Below B w0 a) (hB : B ≤ a.heap.size) (k : KB S a b) (hs : ∀ i, S i → B ≤ i) : Below B w0 b :=
  h.trans ⟨k.os, k.tape, k.output, k.size, fun i hi => k.block i (by omega) (fun hS => by have := hs i hS; omega)⟩
end
/-- Valid parameters. -/
structure Okp (mn mx wd : Nat) (ms : Int) : Prop where
  w1 : 1 ≤ wd
  w2 : wd ≤ 64
  wm : wd ≤ mn
  mm : mn ≤ mx
  mc : mx ≤ 8192
  s0 : 0 ≤ ms
  s1 : ms < 18446744073709551616
/-- A finder's cells. -/
def FC (mn mx wd : Nat) (ms : Int) (g : Nat) (n : Int) : Array Value := #[.int .i64 mn, .int .i64 mx, .int .i64 wd, .int .u64 ms, .pointer (some ⟨g, 0, none⟩), .int .i64 n]
/-- Block f of w is a finder of these parameters in the midst of a chunk that begins with the bytes p; block g is its window. -/
def Fi (w : World) (f g mn mx wd : Nat) (ms : Int) (p : List Int) : Prop :=
  w.heap[f]? = some (.cells (FC mn mx wd ms g p.length) 75 (0, 0)) ∧ Ro w g wd (Wn wd p p.length) ∧ f ≠ g ∧ p.length < mx
section
variable {w w' : World} {f g mn mx wd : Nat} {ms : Int} {p : List Int}
theorem Fi.lt (h : Fi w f g mn mx wd ms p) : f < w.heap.size := blk_lt h.1
theorem Fi.move (h : Fi w f g mn mx wd ms p) (hf : w'.heap[f]? = w.heap[f]?) (hg : w'.heap[g]? = w.heap[g]?) : Fi w' f g mn mx wd ms p := ⟨hf.trans h.1, h.2.1.move hg, h.2.2⟩
theorem Fi.below (h : Fi w f g mn mx wd ms p) (hb : Below w.heap.size w w') : Fi w' f g mn mx wd ms p := h.move (hb.block f h.lt) (hb.block g h.2.1.lt)
theorem Fi.kb {S : Nat → Prop} (h : Fi w f g mn mx wd ms p) (hb : KB S w w') (hf : ¬ S f) (hg : ¬ S g) : Fi w' f g mn mx wd ms p := h.move (hb.block f h.lt hf) (hb.block g h.2.1.lt hg)
theorem Fi.c0 (h : Fi w f g mn mx wd ms p) : w.cell? ⟨f, 0, none⟩ = some (.int .i64 mn) := blk_cell h.1 0
theorem Fi.c1 (h : Fi w f g mn mx wd ms p) : w.cell? ⟨f, 1, none⟩ = some (.int .i64 mx) := blk_cell h.1 1
theorem Fi.c2 (h : Fi w f g mn mx wd ms p) : w.cell? ⟨f, 2, none⟩ = some (.int .i64 wd) := blk_cell h.1 2
theorem Fi.c3 (h : Fi w f g mn mx wd ms p) : w.cell? ⟨f, 3, none⟩ = some (.int .u64 ms) := blk_cell h.1 3
theorem Fi.c4 (h : Fi w f g mn mx wd ms p) : w.cell? ⟨f, 4, none⟩ = some (.pointer (some ⟨g, 0, none⟩)) := blk_cell h.1 4
theorem Fi.c5 (h : Fi w f g mn mx wd ms p) : w.cell? ⟨f, 5, none⟩ = some (.int .i64 p.length) := blk_cell h.1 5
theorem Fi.fz (h : Fi w f g mn mx wd ms p) (o : Nat) : w.frozen? ⟨f, o, none⟩ = false := blk_frozen h.1 o
end
theorem Wn_nil (n : Nat) : Wn n [] 0 = [] := by simp [Wn]
theorem Wn_length (n : Nat) (p : List Int) : (Wn n p p.length).length = min n p.length := by simp [Wn]; omega
theorem Wn_all (n : Nat) (p : List Int) : Wn n p p.length = p.drop (p.length - n) := by rw [Wn, List.take_length]
theorem Wn_snoc {n : Nat} (p : List Int) (b : Int) (hn : 1 ≤ n) : room n (Wn n p p.length) ++ [b] = Wn n (p ++ [b]) (p ++ [b]).length := by
  unfold room
  rw [Wn_length, Wn_all, Wn_all, List.length_append, List.length_singleton]
  by_cases hc : n ≤ p.length
  · rw [if_pos (by omega), List.tail_drop, List.drop_append, show p.length + 1 - n = p.length - n + 1 by omega, show p.length - n + 1 - p.length = 0 by omega]
    rfl
  · rw [if_neg (by omega), List.drop_append, show p.length - n = 0 by omega, show p.length + 1 - n = 0 by omega]
    simp
theorem Wn_bytes {n i : Nat} {b : List Int} (h : IsBytes b) : IsBytes (Wn n b i) := fun x hx => h x (List.mem_of_mem_take (List.mem_of_mem_drop hx))
/-- Behind a reset. -/
def ResetPost (f g mn mx wd : Nat) (ms : Int) (w0 : World) (e : Ending) (w' : World) : Prop := e = .returned (.tuple #[]) ∧ Fi w' f g mn mx wd ms [] ∧ KB (fun k => k = f ∨ k = g) w0 w'
set_option maxHeartbeats 4000000 in
set_option maxRecDepth 100000 in
theorem reset_f {f g mn mx wd : Nat} {ms : Int} {p : List Int} {x : Int} (w0 : World) (hp : w0.heap[f]? = some (.cells (FC mn mx wd ms g x) 75 (0, 0))) (hR : Ro w0 g wd p) (hne : f ≠ g) (h0 : 0 < mx) :
    Calls Try.prog 39 #[.pointer (some ⟨f, 0, none⟩)] w0 (ResetPost f g mn mx wd ms w0) := by
  have c5 : w0.cell? ⟨f, 5, none⟩ = some (.int .i64 x) := blk_cell hp 5
  have c4 : w0.cell? ⟨f, 4, none⟩ = some (.pointer (some ⟨g, 0, none⟩)) := blk_cell hp 4
  have hfz : ∀ o, w0.frozen? ⟨f, o, none⟩ = false := fun o => blk_frozen hp o
  have hlt := blk_lt hp
  have Hp := Lib.hid hp
  have HR := Lib.hid hR
  have Hne := Lib.hid hne
  clear hp hR hne
  go_enter Try.func39, Try.ntmps39
  go_wp2_with fail
  refine (reset_m g wd p _ (HR.out.move (Go.heap_setCell_other _ _ _ _ (fun h => Hne.out h.symm)))).mono ?_
  rintro e w1 ⟨rfl, hR1, hg1⟩
  go_wp2_with fail
  go_end0
  refine ⟨rfl, ⟨?_, by rw [List.length_nil, Wn_nil]; exact hR1, Hne.out, h0⟩, ((KB.refl _ _).set (.inl (.inl rfl)) _).grown hg1 (fun k hk => by cases hk; exact .inl (.inr rfl))⟩
  rw [hg1.block f (by simpa [World.setCell] using hlt) (by simp; exact Hne.out)]
  exact Go.Joins.block_setCell Hp.out _
end Go.Proofs.Ytgfodmpdnhebjaa.Chk
