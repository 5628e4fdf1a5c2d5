-- What this claim does not use is left out (shake.py).
import Derived.Test.YtleapbbdpediiaaFm
import Derived.Laws.BitsAllLaws
/- The chunker, plainly: where chunks end, and what follows from it. No program in it. -/
namespace Go.Proofs.Ytleapbbdpediiaa.Ck
open Go.Proofs.Ytleapbbdpediiaa.FM
set_option linter.unusedVariables false
set_option linter.unusedSimpArgs false
/-- The window behind the first i bytes. -/
def Wn (n : Nat) (b : List Int) (i : Nat) : List Int := (b.take i).drop (i - n)
/-- A chunk of these bytes may end behind k of them. -/
def hit (mn mx wd : Nat) (ms : Int) (l : List Int) (k : Nat) : Bool := decide (mn ≤ k) && (decide (k = mx) || Go.bits .and .u64 (fp (Wn wd l k)) ms == 0)
/-- The first hit behind k, among the next d places. -/
def first (mn mx wd : Nat) (ms : Int) (l : List Int) : Nat → Nat → Option Nat
  | _, 0 => none
  | k, d + 1 => if hit mn mx wd ms l (k + 1) = true then some (k + 1) else first mn mx wd ms l (k + 1) d
/-- Where the chunk at the begin of l ends, and whether it is complete. -/
def endF (mn mx wd : Nat) (ms : Int) (l : List Int) : Nat × Bool :=
  match first mn mx wd ms l 0 l.length with
  | some k => (k, true)
  | none => (l.length, false)
section
variable {mn mx wd : Nat} {ms : Int} {l : List Int}
theorem Wn_take (n : Nat) (b : List Int) (i j : Nat) (h : i ≤ j) : Wn n (b.take j) i = Wn n b i := by
  unfold Wn
  rw [List.take_take, Nat.min_eq_left h]
theorem first_some {k d r : Nat} (h : first mn mx wd ms l k d = some r) : k < r ∧ r ≤ k + d ∧ hit mn mx wd ms l r = true ∧ ∀ j, k < j → j < r → hit mn mx wd ms l j = false := by
  induction d generalizing k with
  | zero => cases h
  | succ d ih =>
    unfold first at h
    split at h
    · rename_i hh
      cases h
      exact ⟨by omega, by omega, hh, fun j h1 h2 => by omega⟩
    · rename_i hh
      obtain ⟨h1, h2, h3, h4⟩ := ih h
      refine ⟨by omega, by omega, h3, fun j g1 g2 => ?_⟩
      by_cases hj : j = k + 1
      · subst hj; simpa using hh
      · exact h4 j (by omega) g2
theorem first_none {k d : Nat} (h : first mn mx wd ms l k d = none) : ∀ j, k < j → j ≤ k + d → hit mn mx wd ms l j = false := by
  induction d generalizing k with
  | zero => intro j h1 h2; omega
  | succ d ih =>
    unfold first at h
    split at h
    · cases h
    · rename_i hh
      intro j g1 g2
      by_cases hj : j = k + 1
      · subst hj; simpa using hh
      · exact ih h j (by omega) (by omega)
theorem first_is {k d r : Nat} (h1 : k < r) (h2 : r ≤ k + d) (h3 : hit mn mx wd ms l r = true) (h4 : ∀ j, k < j → j < r → hit mn mx wd ms l j = false) : first mn mx wd ms l k d = some r := by
  induction d generalizing k with
  | zero => omega
  | succ d ih =>
    unfold first
    by_cases hr : r = k + 1
    · rw [← hr, if_pos h3]
    · rw [if_neg (by rw [h4 (k + 1) (by omega) (by omega)]; simp)]
      exact ih (by omega) (by omega) (fun j g1 g2 => h4 j (by omega) g2)
theorem first_isn {k d : Nat} (h : ∀ j, k < j → j ≤ k + d → hit mn mx wd ms l j = false) : first mn mx wd ms l k d = none := by
  induction d generalizing k with
  | zero => rfl
  | succ d ih =>
    unfold first
    rw [if_neg (by rw [h (k + 1) (by omega) (by omega)]; simp)]
    exact ih (fun j g1 g2 => h j (by omega) (by omega))
/-- What endF is, in words. -/
theorem endF_true {k : Nat} (h : endF mn mx wd ms l = (k, true)) : 0 < k ∧ k ≤ l.length ∧ hit mn mx wd ms l k = true ∧ ∀ j, 0 < j → j < k → hit mn mx wd ms l j = false := by
  unfold endF at h
  split at h
  · rename_i r hr
    cases h
    have := first_some hr
    exact ⟨this.1, by omega, this.2.2.1, this.2.2.2⟩
  · simp at h
theorem endF_false {k : Nat} (h : endF mn mx wd ms l = (k, false)) : k = l.length ∧ ∀ j, 0 < j → j ≤ l.length → hit mn mx wd ms l j = false := by
  unfold endF at h
  split at h
  · simp at h
  · rename_i hr
    cases h
    exact ⟨rfl, fun j h1 h2 => first_none hr j h1 (by omega)⟩
theorem endF_is {k : Nat} (h0 : 0 < k) (h1 : k ≤ l.length) (h2 : hit mn mx wd ms l k = true) (h3 : ∀ j, 0 < j → j < k → hit mn mx wd ms l j = false) : endF mn mx wd ms l = (k, true) := by
  unfold endF
  rw [first_is h0 (by omega) h2 h3]
theorem endF_isn (h : ∀ j, 0 < j → j ≤ l.length → hit mn mx wd ms l j = false) : endF mn mx wd ms l = (l.length, false) := by
  unfold endF
  rw [first_isn (fun j g1 g2 => h j g1 (by omega))]
theorem endF_le : (endF mn mx wd ms l).1 ≤ l.length := by
  cases h : endF mn mx wd ms l with
  | mk k b => cases b with
    | true => exact (endF_true h).2.1
    | false => rw [(endF_false h).1]; exact Nat.le_refl _
theorem endF_pos (hl : 0 < l.length) : 0 < (endF mn mx wd ms l).1 := by
  cases h : endF mn mx wd ms l with
  | mk k b => cases b with
    | true => exact (endF_true h).1
    | false => rw [(endF_false h).1]; exact hl
theorem hit_mx (h : mn ≤ mx) : hit mn mx wd ms l mx = true := by simp [hit, h]
/-- The ends from a place on (f: at most so many). -/
def endsN (mn mx wd : Nat) (ms : Int) (l : List Int) : Nat → Nat → List Nat
  | 0, _ => []
  | f + 1, p => if p < l.length then (p + (endF mn mx wd ms (l.drop p)).1) :: endsN mn mx wd ms l f (p + (endF mn mx wd ms (l.drop p)).1) else []
def ends (mn mx wd : Nat) (ms : Int) (l : List Int) : List Nat := endsN mn mx wd ms l l.length 0
theorem step_lt {p : Nat} (hp : p < l.length) : p < p + (endF mn mx wd ms (l.drop p)).1 ∧ p + (endF mn mx wd ms (l.drop p)).1 ≤ l.length := by
  have h1 := endF_pos (mn := mn) (mx := mx) (wd := wd) (ms := ms) (l := l.drop p) (by rw [List.length_drop]; omega)
  have h2 := endF_le (mn := mn) (mx := mx) (wd := wd) (ms := ms) (l := l.drop p)
  rw [List.length_drop] at h2
  omega
theorem endsN_succ (f p : Nat) : endsN mn mx wd ms l (f + 1) p = if p < l.length then (p + (endF mn mx wd ms (l.drop p)).1) :: endsN mn mx wd ms l f (p + (endF mn mx wd ms (l.drop p)).1) else [] := rfl
theorem endsN_fuel {f g p : Nat} (hf : l.length - p ≤ f) (hg : l.length - p ≤ g) : endsN mn mx wd ms l f p = endsN mn mx wd ms l g p := by
  induction f generalizing p g with
  | zero =>
    cases g with
    | zero => rfl
    | succ g => unfold endsN; rw [if_neg (by omega)]
  | succ f ih =>
    cases g with
    | zero => unfold endsN; rw [if_neg (by omega)]
    | succ g =>
      unfold endsN
      by_cases hp : p < l.length
      · have := step_lt (mn := mn) (mx := mx) (wd := wd) (ms := ms) hp
        rw [if_pos hp, if_pos hp, ih (g := g) (by omega) (by omega)]
      · rw [if_neg hp, if_neg hp]
theorem endsN_shift (f a b : Nat) : endsN mn mx wd ms l f (a + b) = (endsN mn mx wd ms (l.drop a) f b).map (a + ·) := by
  induction f generalizing b with
  | zero => rfl
  | succ f ih =>
    unfold endsN
    rw [List.drop_drop, List.length_drop]
    by_cases hp : a + b < l.length
    · rw [if_pos hp, if_pos (by omega), List.map_cons, Nat.add_assoc, ih]
    · rw [if_neg hp, if_neg (by omega)]
      rfl
theorem ends_nil : ends mn mx wd ms [] = [] := rfl
/-- The first end, and the rest's. -/
theorem ends_cons (hl : 0 < l.length) : ends mn mx wd ms l = (endF mn mx wd ms l).1 :: (ends mn mx wd ms (l.drop (endF mn mx wd ms l).1)).map ((endF mn mx wd ms l).1 + ·) := by
  have h1 := endF_pos (mn := mn) (mx := mx) (wd := wd) (ms := ms) hl
  have h2 := endF_le (mn := mn) (mx := mx) (wd := wd) (ms := ms) (l := l)
  obtain ⟨f, hf⟩ : ∃ f, l.length = f + 1 := ⟨l.length - 1, by omega⟩
  have e : ends mn mx wd ms l = endsN mn mx wd ms l (f + 1) 0 := by rw [← hf]; rfl
  rw [e, endsN_succ, if_pos hl, List.drop_zero, Nat.zero_add]
  congr 1
  have := endsN_shift (mn := mn) (mx := mx) (wd := wd) (ms := ms) (l := l) f (endF mn mx wd ms l).1 0
  rw [Nat.add_zero] at this
  rw [this]
  congr 1
  exact endsN_fuel (l := l.drop (endF mn mx wd ms l).1) (f := f) (g := (l.drop (endF mn mx wd ms l).1).length) (p := 0) (by rw [List.length_drop]; omega) (by omega)
end
end Go.Proofs.Ytleapbbdpediiaa.Ck
