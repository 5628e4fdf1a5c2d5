/- The walk of FingerprintWindows: Prefixes and Window return what the document says, for all lists of numbers and all bounds (arguments of bulk at most 1048576). -/
import Derived.Test.YtbjadpeolkpmcaaGFingerprintWindows
import Derived.Test.YtbjadpeolkpmcaaFw
import Derived.Test.YtbjadpeolkpmcaaFj
import Derived.Lib.Hide
import Derived.Outline
import Derived.Maps.AppendAt
import Derived.OwnWalk
import Derived.Deep.DeepMust
import Derived.LoopTactic
import Derived.Laws.MakeOwn
import Derived.Test.YtbjadpeolkpmcaaPxf29
namespace Go.Proofs.Ytbjadpeolkpmcaa.Walk
open Go.RowKit Go.Proofs.Ytbjadpeolkpmcaa.P Go.Proofs.Ytbjadpeolkpmcaa.Fp Go.Proofs.Ytbjadpeolkpmcaa.FM Go.Proofs.YtbjadpeolkpmcaaW.PrintWords Go.Proofs.YtbjadpeolkpmcaaW.PrintLast
set_option linter.unusedVariables false
theorem infoU : (Try.prog.info? 22).map (fun i => (i.zero, i.size, i.bytes)) = some (some (.int .u64 0), 1, 8) := by kernel_rfl
theorem same_loop (l : List Int) (hn : l.length ≤ 140737488351232) (d : Nat) : ∀ (k n : Nat), n ≤ l.length → l.length - n = d → d < k → stockyardmake_SameSums.l0 k l l (n : Int) = some true := by
  induction d with
  | zero =>
    intro k n h0 h1 hk
    obtain ⟨k, rfl⟩ : ∃ m, k = m + 1 := ⟨k - 1, by omega⟩
    simp only [stockyardmake_SameSums.l0]
    rw [if_neg (by omega)]
  | succ d ih =>
    intro k n h0 h1 hk
    obtain ⟨k, rfl⟩ : ∃ m, k = m + 1 := ⟨k - 1, by omega⟩
    simp only [stockyardmake_SameSums.l0]
    rw [if_pos (by omega), if_pos (by omega), if_pos (by omega), if_pos trivial, show wrap64 ((n : Int) + 1) = ((n + 1 : Nat) : Int) by unfold wrap64; omega]
    exact ih k (n + 1) (by omega) (by omega) (by omega)
theorem same_c {A B : Option Addr} {c d : Nat} {l m : List Int} (w : World) (hr : Kd.C (Kd.int .u64) w A l.length l) (hc : l.length ≤ c) (hs : Kd.C (Kd.int .u64) w B m.length m) (hd : m.length ≤ d) (he : l = m) (hn : l.length ≤ 140737488351232) :
    Calls Try.prog 30 #[.slice A l.length c, .slice B m.length d] w fun e w' => e = .returned (.bool true) ∧ Drawn0 w w' := by
  subst he
  refine stockyardmake_SameSums.calls (l.length + 1) A c l B d l true w hr hc hs hd ?_
  unfold stockyardmake_SameSums.f
  rw [if_pos rfl]
  exact same_loop l hn l.length _ 0 (by omega) (by omega) (by omega)
/-- The list that the statement makes of the numbers. -/
def modP (p : List Int) : List Int := p.map (· % P)
theorem modP_take (p : List Int) (k : Nat) (h : k < p.length) : modP (p.take (k + 1)) = modP (p.take k) ++ [rd p k % P] := by
  rw [take_succ_rd h]; simp [modP]
set_option maxHeartbeats 4000000 in
set_option maxRecDepth 100000 in
theorem FingerprintWindows : Goal.FingerprintWindows := by
  intro A c l B d p a b w0 hr hc hn hw hs hd hm hv ha hb
  have hl := IsBytes.of_wf hw
  have hp : ∀ x ∈ p, 0 ≤ x := fun x hx => (wf_u64 (hv x hx)).1
  have hpr : ∀ j : Nat, j < p.length → 0 ≤ rd p j := fun j hj => hp _ (rd_mem (by omega) (by omega))
  have ha := wf_i64 ha
  have hb := wf_i64 hb
  clear hw hv
  obtain ⟨i0, hi, hz0, hz1, hz2⟩ := info_parts infoU
  have Hp := Lib.hid hp
  have Hpr := Lib.hid hpr
  clear hp hpr
  obtain ⟨x, ok, hx⟩ : ∃ x ok, winS p a b = (x, ok) := ⟨_, _, rfl⟩
  have Hx := Lib.hid hx
  clear hx
  have B0 := Below.refl w0.heap.size w0
  go_enter Try.func9, Try.ntmps9
  go_wp2_with fail
  refine (window_c _ hs hd Hp.out (by omega) Hx.out).mono ?_
  rintro e w1 ⟨rfl, hd1⟩
  have hb1 := hd1.below
  clear hd1
  have B1 := stepB (by repeat (first | exact B0 | apply below_alloc)) hb1
  obtain ⟨c1, f1⟩ := bcell hb1
  have z1 := hb1.size
  try simp only [World.size_alloc] at c1 f1 z1
  try have z1_0_0 : w0.heap.size < w1.heap.size := by omega
  try have z1_0_1 : w0.heap.size + 1 < w1.heap.size := by omega
  try have z1_0_2 : w0.heap.size + 2 < w1.heap.size := by omega
  clear hb1
  go_wp2_with fail
  refine (Window_c _ (Kd.C_below hs B1) hd Hp.out (by omega) Hx.out).mono ?_
  rintro e w2 ⟨rfl, hd2⟩
  have hb2 := hd2.below
  clear hd2
  have B2 := stepB (by repeat (first | exact B1 | apply below_alloc)) hb2
  obtain ⟨c2, f2⟩ := bcell hb2
  have z2 := hb2.size
  try simp only [World.size_alloc] at c2 f2 z2
  try have z2_0_0 : w0.heap.size < w2.heap.size := by omega
  try have z2_0_1 : w0.heap.size + 1 < w2.heap.size := by omega
  try have z2_0_2 : w0.heap.size + 2 < w2.heap.size := by omega
  try have z2_1_0 : w1.heap.size < w2.heap.size := by omega
  try have z2_1_1 : w1.heap.size + 1 < w2.heap.size := by omega
  try have z2_1_2 : w1.heap.size + 2 < w2.heap.size := by omega
  clear hb2
  go_wp2_with (at_make; go_must (refine wpList_make_own _ rfl _ _ 42 rfl w0.heap.size 22 i0 (.int .u64 0) 1 Try.underlying42 hi hz0 hz1 .i64 .i64 _ p.length rfl rfl rfl (by rw [hz2]; omega) (by unfold maxLen; omega) B2.size ?_); intro w3 hown3 hg3)
  have B3 := B2.grown hg3 B2.size (fun k hk => by cases hk)
  go_loopw [13, 14] (fun v i wr => ∃ k : Nat, k ≤ p.length ∧ i = .int .i64 k ∧ wr.ownsRow w0.heap.size 22 1 v k (nums .u64 (modP (p.take k))) ∧ Below w0.heap.size w0 wr) (fun _ i _ => p.length - (intOf i).toNat)
  case atStart => exact ⟨0, Nat.zero_le _, rfl, hown3, B3⟩
  case round =>
    obtain ⟨k, hk, rfl, hown, HB⟩ := hrel
    by_cases hlt : k < p.length
    · obtain ⟨ad, rfl, had, hcl⟩ := C_cells hs (by omega)
      have hload : wr.cell? (ad.add k) = some (.int .u64 (rd p k)) := by
        rw [HB.cell (p := ad.add k) (by rw [add_block]; exact had)]
        exact hcl k hlt
      clear hcl
      have h0 := Hpr.out k hlt
      go_wp2_with (at_builtin; go_must (refine wpList_append_own_at _ rfl _ _ 42 rfl w0.heap.size 22 i0 (.int .u64 0) 1 8 Try.underlying42 hi hz0 hz1 hz2 rfl (by decide) _ _ _ rfl (hown.alloc _) ⟨wr.heap.size, 0, none⟩ 1 1 [.int .u64 (rd p k % 2305843009213693951)] rfl rfl (cell_one_new _ _ _) (by simp [Value.oneCell']) (by unfold maxLen; omega) (by omega) (by have := HB.size; simp; omega) ?_); intro v' w4 hown' hg4 _ _)
      have HB' : Below w0.heap.size w0 w4 := (HB.alloc HB.size _).grown hg4 (by simp; have := HB.size; omega) (fun g hg => own_base hown g hg)
      go_roundw
      case rel => exact ⟨k + 1, by omega, by go_num, by rw [modP_take p k hlt, nums_append]; exact hown', HB'⟩
      case measure => simp [intOf]; omega
    · obtain rfl : k = p.length := by omega
      clear hlt hk
      obtain ⟨q, hq⟩ : ∃ q, q = modP p := ⟨_, rfl⟩
      have hql : p.length = q.length := by rw [hq]; simp [modP]
      have hqp : ∀ y ∈ q, 0 ≤ y := by rw [hq]; intro y hy; obtain ⟨z, _, rfl⟩ := List.mem_map.1 hy; exact emod_nonneg _
      rw [List.take_length, ← hq, hql] at hown
      rw [hql] at hm
      obtain ⟨A', c', hu, hc', hrq⟩ := Kd.R_reads (Kd.R_of_own (ok := fun _ => True) (enc := Value.int .u64) (h1 := fun _ => rfl) hown (fun _ _ => trivial))
      have Hq := Lib.hid hq
      have Hqp := Lib.hid hqp
      subst hu
      rw [hql]
      clear hown hq hqp hql
      go_wp2_with fail
      refine (fold_any _ hb (by omega)).mono ?_
      rintro e w5 ⟨r, rfl, r0, r1, hd5⟩
      have B5 := stepB HB hd5.below
      have hrq5 := Kd.C_below hrq hd5.below
      clear hd5 hrq
      go_wp2_with fail
      refine (fold_any _ ha (by omega)).mono ?_
      rintro e w6 ⟨t, rfl, t0, t1, hd6⟩
      have B6 := stepB B5 hd6.below
      have hrq6 := Kd.C_below hrq5 hd6.below
      clear hd6 hrq5
      go_wp2_with fail
      obtain ⟨y, yk, hy⟩ : ∃ x ok, winS q t r = (x, ok) := ⟨_, _, rfl⟩
      have Hy := Lib.hid hy
      clear hy
      refine (window_c _ hrq6 hc' Hqp.out (by omega) Hy.out).mono ?_
      rintro e w7 ⟨rfl, hd7⟩
      have B7 := stepB B6 hd7.below
      have hrq7 := Kd.C_below hrq6 hd7.below
      clear hd7 hrq6
      go_wp2_with fail
      refine (Window_c _ hrq7 hc' Hqp.out (by omega) Hy.out).mono ?_
      rintro e w8 ⟨rfl, hd8⟩
      have B8 := stepB B7 hd8.below
      clear hd8 hrq7
      go_wp2_with fail
      refine (prefixes_r _ (Kd.C_below hr B8) hc hl (by omega)).mono ?_
      rintro e w9 ⟨A9, c9, P9, rfl, e9, hc9, hr9, hb9⟩
      have B9 := stepB B8 hb9
      clear hb9
      go_wp2_with fail
      refine (Prefixes_r _ (Kd.C_below hr B9) hc hl (by omega)).mono ?_
      rintro e w10 ⟨A10, c10, P10, rfl, e10, hc10, hr10, hb10⟩
      have B10 := stepB B9 hb10
      have hr9 := Kd.C_below hr9 hb10
      clear hb10
      go_wp2_with fail
      refine (same_c _ hr9 hc9 hr10 hc10 (e9.out.trans e10.out.symm) (by rw [e9.out, prefS_length]; omega)).mono ?_
      rintro e w11 ⟨rfl, hd11⟩
      have B11 := stepB B10 hd11.below
      go_wp2_with fail
      go_ret
      exact ⟨by simp, B11⟩
end Go.Proofs.Ytbjadpeolkpmcaa.Walk
