/- The walk of FingerprintParts: Window over the Prefixes of a string returns the fingerprint of every part of it. -/
import Derived.Test.YtbjadpeolkpmcaaGFingerprintParts
import Derived.Test.YtbjadpeolkpmcaaFw
import Derived.Test.YtbjadpeolkpmcaaFj
import Derived.Lib.Hide
import Derived.Outline
namespace Go.Proofs.Ytbjadpeolkpmcaa.Walk
open Go.RowKit Go.Proofs.Ytbjadpeolkpmcaa.P Go.Proofs.Ytbjadpeolkpmcaa.Fp Go.Proofs.Ytbjadpeolkpmcaa.FM Go.Proofs.YtbjadpeolkpmcaaW.PrintWords Go.Proofs.YtbjadpeolkpmcaaW.PrintLast
set_option linter.unusedVariables false
theorem infoB : (Try.prog.info? 5).map (fun i => (i.zero, i.size, i.bytes)) = some (some (.int .u8 0), 1, 1) := by kernel_rfl
set_option maxHeartbeats 4000000 in
set_option maxRecDepth 100000 in
theorem FingerprintParts : Goal.FingerprintParts := by
  intro A c l a b w0 hr hc hn hw ha hb
  have hl := IsBytes.of_wf hw
  have ha := wf_i64 ha
  have hb := wf_i64 hb
  clear hw
  by_cases h0 : l.length ≤ 1048576
  · have B0 := Below.refl w0.heap.size w0
    go_enter Try.func12, Try.ntmps12
    go_wp2_with fail
    rw [show (l.length : Int) + 1 = ((l.length + 1 : Nat) : Int) by omega]
    refine (fold_c _ hb (by omega) (by omega)).mono ?_
    rintro e w1 ⟨q, rfl, hq, hd1⟩
    have B1 := stepB B0 hd1.below
    clear hd1
    go_wp2_with fail
    rw [show (q : Int) + 1 = ((q + 1 : Nat) : Int) by omega]
    refine (fold_c _ ha (by omega) (by omega)).mono ?_
    rintro e w2 ⟨p, rfl, hp, hd2⟩
    have B2 := stepB B1 hd2.below
    clear hd2
    go_wp2_with fail
    refine (prefixes_r _ (Kd.C_below hr B2) hc hl (by omega)).mono ?_
    rintro e w3 ⟨A3, c3, P3, rfl, e3, hc3, hr3, hb3⟩
    have B3 := stepB B2 hb3
    clear hb3
    have n3 : P3.length ≤ 140737488351232 := by rw [e3.out, prefS_length]; omega
    have hp3 : ∀ x ∈ P3, 0 ≤ x := by rw [e3.out]; exact prefS_nonneg l
    go_wp2_with fail
    refine (window_c (x := fp ((l.take q).drop p)) (ok := true) _ hr3 hc3 hp3 n3 (by rw [e3.out]; exact winS_part l p q (by omega) (by omega) h0)).mono ?_
    rintro e w4 ⟨rfl, hd4⟩
    have B4 := stepB B3 hd4.below
    clear hd4 hp3
    go_wp2_with fail
    refine (known_c _).mono ?_
    rintro e w5 ⟨rfl, hb5⟩
    have B5 := stepB B4 hb5
    clear hb5
    obtain ⟨i5, hi5, hz5, hs5, hy5⟩ := info_parts infoB
    obtain ⟨A6, c6, l6, e6, hc6, hr6, hcut⟩ := cut_r (Kd.int .u8) 27 5 Try.underlying27 hi5 hs5 A c l p q (by omega) (by omega) hc
    have hr6 := hr6 _ (Kd.C_below hr B5)
    have hl6 : IsBytes l6 := by rw [e6.out]; exact fun x hx => hl x (List.mem_of_mem_take (List.mem_of_mem_drop hx))
    have n6 : l6.length ≤ 1048576 := by rw [e6.out, List.length_drop, List.length_take]; omega
    go_wp2_with fail
    refine (sum_c _ hr6 hc6 hl6 (by omega)).mono ?_
    rintro e w7 ⟨rfl, hd7⟩
    have B7 := stepB B5 hd7.below
    go_wp2_with fail
    go_ret
    exact ⟨by rw [e6.out]; simp, B7⟩
  · go_enter Try.func12, Try.ntmps12
    go_wp2_with fail
    go_ret
    exact ⟨rfl, Below.refl _ _⟩
end Go.Proofs.Ytbjadpeolkpmcaa.Walk
