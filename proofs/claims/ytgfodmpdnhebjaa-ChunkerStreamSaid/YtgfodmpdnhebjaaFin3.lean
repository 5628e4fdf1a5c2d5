/- The chunker's newFinder and Ends. -/
import Derived.Test.YtgfodmpdnhebjaaFin2
import Derived.Maps.AppendAt
import Derived.OwnWalk
namespace Go.Proofs.Ytgfodmpdnhebjaa.Chk
open Go.RowKit Go.Proofs.Ytgfodmpdnhebjaa.P Go.Proofs.Ytgfodmpdnhebjaa.Fp Go.Proofs.Ytgfodmpdnhebjaa.FM Go.Proofs.Ytgfodmpdnhebjaa.Roll Go.Proofs.Ytgfodmpdnhebjaa.Ck Go.Proofs.YtgfodmpdnhebjaaW.PrintWords Go.Proofs.YtgfodmpdnhebjaaW.PrintLast Go.Proofs.YtgfodmpdnhebjaaW.PrintMore
set_option linter.unusedVariables false
set_option linter.unusedSimpArgs false
/-- Valid parameters (whatever the mask). -/
def Okq (mn mx wd : Int) : Prop := 1 ≤ wd ∧ wd ≤ 64 ∧ wd ≤ mn ∧ mn ≤ mx ∧ mx ≤ 8192
instance (mn mx wd : Int) : Decidable (Okq mn mx wd) := by unfold Okq; infer_instance
theorem check_is (mn mx wd ms : Int) : chunker_Check.f mn mx wd ms = some (if Okq mn mx wd then 0 else 240) := by
  by_cases h : Okq mn mx wd
  · rw [if_pos h]
    unfold Okq at h
    unfold chunker_Check.f
    rw [if_neg (by omega), if_neg (by omega), if_neg (by omega), if_neg (by omega), if_neg (by omega)]
  · rw [if_neg h]
    unfold Okq at h
    unfold chunker_Check.f
    repeat' split
    all_goals first | rfl | (exfalso; omega)
theorem Okq.okp {mn mx wd ms : Int} (h : Okq mn mx wd) (s0 : 0 ≤ ms) (s1 : ms < 18446744073709551616) : Okp mn.toNat mx.toNat wd.toNat ms := by
  unfold Okq at h
  exact ⟨by omega, by omega, by omega, by omega, by omega, s0, s1⟩
theorem Okp.okq {mn mx wd : Nat} {ms : Int} (h : Okp mn mx wd ms) : Okq mn mx wd := by
  have := h.w1
  have := h.w2
  have := h.wm
  have := h.mm
  have := h.mc
  unfold Okq
  omega
def NewFPost (mn mx wd : Nat) (ms : Int) (w0 : World) (e : Ending) (w' : World) : Prop := ∃ f g, e = .returned (.tuple #[.pointer (some ⟨f, 0, none⟩), .int .i64 0]) ∧ Fi w' f g mn mx wd ms [] ∧ w0.heap.size ≤ f ∧ w0.heap.size ≤ g ∧ Below w0.heap.size w0 w'
set_option maxHeartbeats 4000000 in
set_option maxRecDepth 100000 in
theorem newf_ok {mn mx wd : Nat} {ms : Int} (w0 : World) (h : Okp mn mx wd ms) : Calls Try.prog 37 #[.agg #[.int .i64 mn, .int .i64 mx, .int .i64 wd, .int .u64 ms]] w0 (NewFPost mn mx wd ms w0) := by
  have hc := check_is mn mx wd ms
  rw [if_pos h.okq] at hc
  have Hc := Lib.hid hc
  have H := Lib.hid h
  have h1 := h.w1
  have h2 := h.w2
  clear hc h
  go_enter Try.func37, Try.ntmps37
  go_wp2_with fail
  refine (chunker_Check.calls _ _ _ _ _ _ Hc.out).mono ?_
  rintro e w1 ⟨rfl, hb1⟩
  have B1 := stepB ((Below.refl w0.heap.size w0).alloc (Nat.le_refl _) _) hb1
  have hz1 := hb1.size
  have hbx := (hb1.block w0.heap.size (by simp)).trans (heap_alloc_new w0 _)
  try simp only [World.size_alloc] at hz1
  have x0 := blk_cell hbx 0
  have x1 := blk_cell hbx 1
  have x2 := blk_cell hbx 2
  have x3 := blk_cell hbx 3
  simp at x0 x1 x2 x3
  clear hbx hb1
  go_wp2_with fail
  refine (new_ok wd _ h1 h2).mono ?_
  rintro e w2 ⟨rfl, hR2, hb2, hs2⟩
  have B2 := stepB B1 hb2
  obtain ⟨c2, f2⟩ := bcell hb2
  have y0 := (c2 w0.heap.size 0 hz1).trans x0
  have y1 := (c2 w0.heap.size 1 hz1).trans x1
  have y2 := (c2 w0.heap.size 2 hz1).trans x2
  have y3 := (c2 w0.heap.size 3 hz1).trans x3
  have hz2 : w1.heap.size < w2.heap.size := by omega
  have HR2 := Lib.hid hR2
  clear c2 f2 x0 x1 x2 x3 hb2 hR2
  have Hs2 := Lib.hid hs2
  clear hs2
  go_wp2_with fail
  go_ret2
  have := Hs2.out
  refine ⟨w2.heap.size, w1.heap.size, rfl, ⟨heap_alloc_new _ _, ?_, by omega, ?_⟩, by omega, by omega, B2.alloc (by omega) _⟩
  · rw [List.length_nil, Wn_nil]
    exact HR2.out.below ((Below.refl _ _).alloc (Nat.le_refl _) _)
  · have := H.out.mm
    have := H.out.wm
    rw [List.length_nil]
    omega
set_option maxHeartbeats 4000000 in
set_option maxRecDepth 100000 in
theorem newf_no {mn mx wd ms : Int} (w0 : World) (h : ¬ Okq mn mx wd) : Calls Try.prog 37 #[.agg #[.int .i64 mn, .int .i64 mx, .int .i64 wd, .int .u64 ms]] w0 fun e w' => e = .returned (.tuple #[.pointer none, .int .i64 240]) ∧ Below w0.heap.size w0 w' := by
  have hc := check_is mn mx wd ms
  rw [if_neg h] at hc
  have Hc := Lib.hid hc
  clear hc h
  go_enter Try.func37, Try.ntmps37
  go_wp2_with fail
  refine (chunker_Check.calls _ _ _ _ _ _ Hc.out).mono ?_
  rintro e w1 ⟨rfl, hb1⟩
  have B1 := stepB ((Below.refl w0.heap.size w0).alloc (Nat.le_refl _) _) hb1
  go_wp2_with fail
  go_ret2
  exact ⟨rfl, B1⟩
/-- 'xs[lo:]' of what is read: the rest, under a new name, in the same block. -/
theorem cut_b {P : Program} {α : Type} (k : Kd α) (t e : TypeId) {i : TypeInfo} (ht : P.underlying t = some (.slice e)) (hi : P.info? e = some i) (hsz : i.size = k.sz) (A : Option Addr) (c : Nat) (xs : List α) (lo : Nat) (h1 : lo ≤ xs.length) (hc : xs.length ≤ c) :
    ∃ (A' : Option Addr) (c' : Nat) (l : List α), Hid (l = xs.drop lo) ∧ l.length ≤ c' ∧ (∀ w, k.C w A xs.length xs → k.C w A' l.length l) ∧
      (∀ W : World, (Instr.slice t (.slice A xs.length c) (some (.int .i64 (lo : Int))) none none).run P W = .ok (.slice A' l.length c') W) ∧ (∀ ad, A' = some ad → ∃ ad0, A = some ad0 ∧ ad.block = ad0.block) := by
  refine ⟨if c = lo then A else A.map (·.add (lo * k.sz)), c - lo, xs.drop lo, Lib.hid rfl, by rw [List.length_drop]; omega, fun w h => ?_, fun W => ?_, fun ad h => ?_⟩
  · have := Kd.C_mid h (lo := lo) (hi := xs.length) h1 (Nat.le_refl _) hc
    rw [List.take_length] at this
    exact this
  · rw [cut_from t e .i64 ht hi k.sz hsz A xs.length c lo (by omega) (by omega) W]
    simp only [Int.toNat_natCast, List.length_drop]
  · split at h
    · exact ⟨ad, h, rfl⟩
    · obtain ⟨ad0, h0, rfl⟩ := Option.map_eq_some_iff.1 h
      exact ⟨ad0, h0, add_block _ _⟩
theorem infoB : (Try.prog.info? 5).map (fun i => (i.zero, i.size, i.bytes)) = some (some (.int .u8 0), 1, 1) := by kernel_rfl
theorem infoI : (Try.prog.info? 3).map (fun i => (i.zero, i.size, i.bytes)) = some (some (.int .i64 0), 1, 8) := by kernel_rfl
/-- The ends as the program's numbers. -/
def endsI (mn mx wd : Nat) (ms : Int) (b : List Int) : List Int := (ends mn mx wd ms b).map Int.ofNat
/-- A find at the begin of a chunk. -/
def Find0 (f g mn mx wd : Nat) (ms : Int) (b : List Int) (w0 : World) (e : Ending) (w' : World) : Prop :=
  ∃ (n : Nat) (ok : Bool), endF mn mx wd ms b = (n, ok) ∧ e = .returned (.tuple #[.int .i64 (n : Int), .bool ok]) ∧ KB (fun k => k = f ∨ k = g) w0 w' ∧ (n < b.length → Fi w' f g mn mx wd ms [])
theorem find_0 {f g mn mx wd : Nat} {ms : Int} {b : List Int} {A : Option Addr} {c : Nat} (w0 : World) (hF : Fi w0 f g mn mx wd ms []) (hO : Okp mn mx wd ms) (hr : Kd.C (Kd.int .u8) w0 A b.length b) (hc : b.length ≤ c) (hb : IsBytes b) (hl : b.length ≤ 140737488355328)
    (hA : 0 < b.length → ∀ ad, A = some ad → ad.block ≠ f ∧ ad.block ≠ g) :
    Calls Try.prog 38 #[.pointer (some ⟨f, 0, none⟩), .slice A b.length c] w0 (Find0 f g mn mx wd ms b w0) :=
  (find_c w0 hF hO hr hc hb hl hA).mono fun e w' ⟨hk, h⟩ => by
    rcases h with ⟨r, h1, h2, h3⟩ | ⟨h1, h2, h3⟩
    · have h1 : first mn mx wd ms b 0 b.length = some r := h1
      refine ⟨r, true, ?_, h2, hk, fun _ => h3⟩
      unfold endF
      rw [h1]
    · have h1 : first mn mx wd ms b 0 b.length = none := h1
      refine ⟨b.length, false, ?_, h2, hk, fun h => absurd h (Nat.lt_irrefl _)⟩
      unfold endF
      rw [h1]
theorem own_keep {w w' : World} {S : Nat → Prop} {base : Nat} {e : TypeId} {v : Value} {n : Nat} {xs : List Value} (h : w.ownsRow base e 1 v n xs) (hk : KB S w w') (hS : ∀ k cs, S k → w.heap[k]? ≠ some (.cells cs e (0, 0))) : w'.ownsRow base e 1 v n xs := by
  refine own_move h (fun k hv => hk.block k (own_lt h k hv) (fun hs => ?_))
  obtain ⟨cs, hcs⟩ := own_typed h k hv
  exact hS k cs hs hcs
theorem ends_step {mn mx wd : Nat} {ms : Int} {b l : List Int} {a n : Nat} {ok : Bool} {E : List Nat} (h : ends mn mx wd ms b = E ++ (ends mn mx wd ms (b.drop a)).map (a + ·)) (hl : l = b.drop a) (ha : a < b.length) (he : endF mn mx wd ms l = (n, ok)) :
    ends mn mx wd ms b = (E ++ [a + n]) ++ (ends mn mx wd ms (b.drop (a + n))).map (a + n + ·) := by
  subst hl
  rw [h, ends_cons (l := b.drop a) (by rw [List.length_drop]; omega), he]
  simp only [List.map_cons, List.map_map, List.drop_drop, List.append_assoc, List.singleton_append]
  congr 3
  funext x
  simp only [Function.comp_apply]
  omega
def EndsPost (mn mx wd : Nat) (ms : Int) (b : List Int) (w0 : World) (e : Ending) (w' : World) : Prop := ∃ v : Value, e = .returned (.tuple #[v, .int .i64 0]) ∧ Kd.R (Kd.int .i64) 3 w' w0.heap.size (fun _ => True) v (endsI mn mx wd ms b) ∧ Below w0.heap.size w0 w'
set_option maxHeartbeats 4000000 in
set_option maxRecDepth 100000 in
theorem ends_ok {mn mx wd : Nat} {ms : Int} {b : List Int} {A : Option Addr} {c : Nat} (w0 : World) (h : Okp mn mx wd ms) (hr : Kd.C (Kd.int .u8) w0 A b.length b) (hc : b.length ≤ c) (hb : IsBytes b) (hl : b.length ≤ 1048576) :
    Calls Try.prog 27 #[.agg #[.int .i64 mn, .int .i64 mx, .int .i64 wd, .int .u64 ms], .slice A b.length c] w0 (EndsPost mn mx wd ms b w0) := by
  have H := Lib.hid h
  have Hb := Lib.hid hb
  clear h hb
  obtain ⟨i0, hi, hz0, hz1, hz2⟩ := info_parts infoI
  obtain ⟨i5, hi5, _, hs5, _⟩ := info_parts infoB
  go_enter Try.func27, Try.ntmps27
  go_wp2_with fail
  refine (newf_ok _ H.out).mono ?_
  rintro e w1 ⟨f, g, rfl, hF1, hf, hg, hb1⟩
  have B1 : Below w0.heap.size w0 w1 := stepB ((Below.refl w0.heap.size w0).alloc (Nat.le_refl _) _) hb1
  have HF1 := Lib.hid hF1
  clear hF1 hb1
  try simp only [World.size_alloc] at hf hg
  go_wp2_with fail
  go_loopw [8, 9] (fun v i wr => ∃ (a : Nat) (E : List Nat), a ≤ b.length ∧ i = .int .i64 a ∧ E.length ≤ a ∧ wr.ownsRow w0.heap.size 3 1 v E.length (nums .i64 (E.map Int.ofNat)) ∧ Hid (ends mn mx wd ms b = E ++ (ends mn mx wd ms (b.drop a)).map (a + ·)) ∧ Below w0.heap.size w0 wr ∧ Hid (a < b.length → Fi wr f g mn mx wd ms [])) (fun _ i _ => b.length - (intOf i).toNat)
  case atStart => exact ⟨0, [], Nat.zero_le _, rfl, Nat.le_refl _, own_nil _ _ _ _, Lib.hid (by simp), B1, Lib.hid (fun _ => HF1.out)⟩
  case round =>
    obtain ⟨a, E, hal, rfl, hEa, hown, hE, HB, hF⟩ := hrel
    by_cases hlt : a < b.length
    · have hF' := hF.out hlt
      have HFi := Lib.hid hF'
      have Hown := Lib.hid hown
      clear hF hF' hown
      obtain ⟨A6, c6, l6, e6, hc6, hr6, hcut, hA6⟩ := cut_b (Kd.int .u8) 30 5 Try.underlying30 hi5 hs5 A c b a (by omega) hc
      have hl6 : IsBytes l6 := by rw [e6.out]; exact fun x hx => Hb.out x (List.mem_of_mem_drop hx)
      have n6 : l6.length ≤ 140737488355328 := by rw [e6.out, List.length_drop]; omega
      have hAne : 0 < l6.length → ∀ ad, A6 = some ad → ad.block ≠ f ∧ ad.block ≠ g := fun h0 ad had => by
        obtain ⟨ad0, h0', h1⟩ := hA6 ad had
        obtain ⟨ad1, h2, h3, _⟩ := C_cells hr (by omega)
        rw [h0'] at h2
        cases h2
        omega
      have Hl6 := Lib.hid hl6
      have HAne := Lib.hid hAne
      have Hr6 := Lib.hid hr6
      clear hl6 hAne hA6 hr6
      have hlen6 : l6.length = b.length - a := by rw [e6.out, List.length_drop]
      have Hlen6 := Lib.hid hlen6
      clear hlen6
      go_wp2_with fail
      refine (find_0 _ HFi.out H.out (Hr6.out _ (Kd.C_below hr HB)) hc6 Hl6.out n6 HAne.out).mono ?_
      rintro e w4 ⟨n, ok, hen, rfl, hk4, hF4⟩
      have hn1 : n ≤ l6.length := by have := endF_le (mn := mn) (mx := mx) (wd := wd) (ms := ms) (l := l6); rw [hen] at this; exact this
      have hn0 : 0 < n := by have := endF_pos (mn := mn) (mx := mx) (wd := wd) (ms := ms) (l := l6) (by rw [Hlen6.out]; omega); rw [hen] at this; exact this
      have hn2 : a + n ≤ b.length := by have := Hlen6.out; omega
      have hE' := ends_step hE.out e6.out hlt hen
      have hown4 : w4.ownsRow w0.heap.size 3 1 _ E.length (nums .i64 (E.map Int.ofNat)) := own_keep Hown.out hk4 (fun k cs hs => by
        rcases hs with rfl | rfl
        · rw [HFi.out.1]; intro h; cases h
        · obtain ⟨ring, t, _, hb, _⟩ := HFi.out.2.1
          rw [hb]; intro h; cases h)
      have HB4 : Below w0.heap.size w0 w4 := KB.to_below HB HB.size hk4 (fun i hi => by rcases hi with rfl | rfl <;> omega)
      have hF4' : a + n < b.length → Fi w4 f g mn mx wd ms [] := fun h => hF4 (by have := Hlen6.out; omega)
      have Hown4 := Lib.hid hown4
      have HF4 := Lib.hid hF4'
      have HE' := Lib.hid hE'
      clear hown4 hF4 hF4' hE' hen hk4
      go_wp2_with (at_builtin; go_must (refine wpList_append_own_at _ rfl _ _ 22 rfl w0.heap.size 3 i0 (.int .i64 0) 1 8 Try.underlying22 hi hz0 hz1 hz2 rfl (by decide) _ _ _ rfl (Hown4.out.alloc _) ⟨w4.heap.size, 0, none⟩ 1 1 [.int .i64 ((a : Int) + n)] rfl rfl (cell_one_new _ _ _) (by simp [Value.oneCell']) (by unfold maxLen; omega) (by omega) (by have := HB4.size; simp; omega) ?_); intro v' w5 hown5 hg5 _ _)
      have HB5 : Below w0.heap.size w0 w5 := (HB4.alloc HB4.size _).grown hg5 (by simp; have := HB4.size; omega) (fun k hk => own_base Hown4.out k hk)
      go_roundw
      case rel =>
        refine ⟨a + n, E ++ [a + n], hn2, by go_num, by simp; omega, ?_, HE', HB5, ?_⟩
        · have e : nums .i64 ((E ++ [a + n]).map Int.ofNat) = nums .i64 (E.map Int.ofNat) ++ [.int .i64 ((a : Int) + n)] := by simp [nums]
          rw [e, List.length_append]
          exact hown5
        · refine Lib.hid (fun h => (HF4.out h).kb (KB.refl _ _ |>.alloc _ |>.grown hg5 (fun k hk => .inl hk)) ?_ ?_)
          · intro hS
            obtain ⟨cs, hcs⟩ := own_typed Hown4.out f hS
            rw [(HF4.out h).1] at hcs
            cases hcs
          · intro hS
            obtain ⟨cs, hcs⟩ := own_typed Hown4.out g hS
            obtain ⟨ring, t, _, hb, _⟩ := (HF4.out h).2.1
            rw [hb] at hcs
            cases hcs
      case measure => simp [intOf]; omega
    · obtain rfl : a = b.length := by omega
      have hE0 : ends mn mx wd ms b = E := by rw [hE.out, List.drop_length, ends_nil, List.map_nil, List.append_nil]
      have hR := Kd.R_of_own (ok := fun _ => True) (enc := Value.int .i64) (h1 := fun _ => rfl) (xs := E.map Int.ofNat) (by rw [List.length_map]; exact hown) (fun _ _ => trivial)
      have HR := Lib.hid hR
      have HE0 := Lib.hid hE0
      clear hR hE0 hown
      go_wp2_with fail
      go_ret2
      exact ⟨_, rfl, by unfold endsI; rw [HE0.out]; exact HR.out, HB⟩
end Go.Proofs.Ytgfodmpdnhebjaa.Chk
