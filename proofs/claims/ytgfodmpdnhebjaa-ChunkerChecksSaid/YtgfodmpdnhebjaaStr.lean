/- The chunker's Stream. -/
import Derived.Test.YtgfodmpdnhebjaaFin3
import Derived.Deep.DeepMust
namespace Go.Proofs.Ytgfodmpdnhebjaa.Chk
open Go.RowKit Go.Proofs.Ytgfodmpdnhebjaa.P Go.Proofs.Ytgfodmpdnhebjaa.Fp Go.Proofs.Ytgfodmpdnhebjaa.FM Go.Proofs.Ytgfodmpdnhebjaa.Roll Go.Proofs.Ytgfodmpdnhebjaa.Ck Go.Proofs.YtgfodmpdnhebjaaW.PrintWords Go.Proofs.YtgfodmpdnhebjaaW.PrintLast Go.Proofs.YtgfodmpdnhebjaaW.PrintMore
set_option linter.unusedVariables false
set_option linter.unusedSimpArgs false
/-- A stream without bytes: its block is s, its finder's f and g. -/
def NewSPost (mn mx wd : Nat) (ms : Int) (w0 : World) (e : Ending) (w' : World) : Prop := ∃ s f g, e = .returned (.tuple #[.pointer (some ⟨s, 0, none⟩), .int .i64 0]) ∧ w'.heap[s]? = some (.cells #[.pointer (some ⟨f, 0, none⟩), .slice none 0 0] 69 (0, 0)) ∧ Fi w' f g mn mx wd ms [] ∧ w0.heap.size ≤ s ∧ w0.heap.size ≤ f ∧ w0.heap.size ≤ g ∧ Below w0.heap.size w0 w'
set_option maxHeartbeats 4000000 in
set_option maxRecDepth 100000 in
theorem news_ok {mn mx wd : Nat} {ms : Int} (w0 : World) (h : Okp mn mx wd ms) : Calls Try.prog 28 #[.agg #[.int .i64 mn, .int .i64 mx, .int .i64 wd, .int .u64 ms]] w0 (NewSPost mn mx wd ms w0) := by
  have H := Lib.hid h
  clear h
  go_enter Try.func28, Try.ntmps28
  go_wp2_with fail
  refine (newf_ok _ H.out).mono ?_
  rintro e w1 ⟨f, g, rfl, hF1, hf, hg, hb1⟩
  have B1 : Below w0.heap.size w0 w1 := stepB ((Below.refl w0.heap.size w0).alloc (Nat.le_refl _) _) hb1
  have HF1 := Lib.hid hF1
  clear hF1 hb1
  try simp only [World.size_alloc] at hf hg
  go_wp2_with fail
  go_ret2
  have := B1.size
  exact ⟨w1.heap.size, f, g, rfl, heap_alloc_new _ _, HF1.out.kb (KB.refl (fun _ => False) _ |>.alloc _) (fun h => h) (fun h => h), by omega, by omega, by omega, B1.alloc (by omega) _⟩
set_option maxHeartbeats 4000000 in
set_option maxRecDepth 100000 in
theorem news_no {mn mx wd ms : Int} (w0 : World) (h : ¬ Okq mn mx wd) : Calls Try.prog 28 #[.agg #[.int .i64 mn, .int .i64 mx, .int .i64 wd, .int .u64 ms]] w0 fun e w' => e = .returned (.tuple #[.pointer none, .int .i64 240]) ∧ Below w0.heap.size w0 w' := by
  have H := Lib.hid h
  clear h
  go_enter Try.func28, Try.ntmps28
  go_wp2_with fail
  refine (newf_no _ H.out).mono ?_
  rintro e w1 ⟨rfl, hb1⟩
  have B1 : Below w0.heap.size w0 w1 := stepB ((Below.refl w0.heap.size w0).alloc (Nat.le_refl _) _) hb1
  go_wp2_with fail
  go_ret2
  exact ⟨rfl, B1⟩
end Go.Proofs.Ytgfodmpdnhebjaa.Chk
