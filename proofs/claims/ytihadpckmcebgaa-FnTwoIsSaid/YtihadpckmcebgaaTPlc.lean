/- Plain arithmetic: places told by trial. -/
import Derived.Test.YtihadpckmcebgaaTCls
set_option linter.unusedVariables false
set_option linter.unusedSimpArgs false
namespace Locg
open Go.RowKit Go.Proofs.YtihadpckmcebgaaW.PrintWords Go.Proofs.YtihadpckmcebgaaW.PrintMore

def trial (n : Int) : Nat → Int → Bool
  | 0, _ => true
  | d + 1, x => if x * x ≤ n then (if n.tmod x = 0 then false else trial n d (x + 1)) else true
def placeOk (p : Int) : Bool := decide (p = 0) || (decide (p ≤ 5000) && (decide (p ≥ 2) && trial p 70 2))
theorem trial_iff {n : Int} (hn : 2 ≤ n) (hN : n ≤ 5000) : ∀ (d : Nat) (x : Int), 2 ≤ x → 72 ≤ x + d → (∀ r : Int, 2 ≤ r → r < x → ¬ r ∣ n) → (trial n d x = true ↔ ∀ r : Int, 2 ≤ r → r * r ≤ n → ¬ r ∣ n) := by
  intro d
  induction d with
  | zero =>
    intro x h1 h2 hr
    simp only [trial, true_iff]
    intro r r1 r2
    refine hr r r1 ?_
    exact lt_of_sq (by omega) (by have := sq_le (show (0 : Int) ≤ 72 by omega) (show 72 ≤ x by omega); omega)
  | succ d ih =>
    intro x h1 h2 hr
    simp only [trial]
    by_cases c : x * x ≤ n
    · rw [if_pos c]
      by_cases c2 : n.tmod x = 0
      · rw [if_pos c2]
        simp only [Bool.false_eq_true, false_iff]
        intro h; exact h x h1 c (Int.dvd_of_tmod_eq_zero c2)
      · rw [if_neg c2]
        refine ih (x + 1) (by omega) (by omega) (fun r r1 r2 hd => ?_)
        rcases Int.lt_or_eq_of_le (show r ≤ x by omega) with h4 | h4
        · exact hr r r1 h4 hd
        · subst h4; exact c2 (Int.tmod_eq_zero_of_dvd hd)
    · rw [if_neg c]
      simp only [true_iff]
      intro r r1 r2
      refine hr r r1 (lt_of_sq (by omega) (by omega))
theorem prime_iff {n : Int} (hn : 2 ≤ n) : PrimeL n ↔ ∀ r : Int, 2 ≤ r → r * r ≤ n → ¬ r ∣ n := by
  constructor
  · intro h r r1 r2 hd
    have := h.2 r r1 hd
    subst this
    have := Int.mul_le_mul_of_nonneg_right r1 (show 0 ≤ r by omega)
    omega
  · intro h
    refine ⟨hn, fun r r1 hd => ?_⟩
    obtain ⟨s, hs⟩ := hd
    have hs0 : 0 < s := by
      rcases Int.lt_or_le 0 s with h | h
      · exact h
      · have := Int.mul_nonneg (show 0 ≤ r by omega) (show 0 ≤ -s by omega); rw [Int.mul_neg] at this; omega
    rcases Int.lt_or_le 1 s with h1 | h1
    · exfalso
      rcases Int.le_total r s with h2 | h2
      · have := Int.mul_le_mul_of_nonneg_left h2 (show 0 ≤ r by omega)
        exact h r r1 (by omega) ⟨s, hs⟩
      · have := Int.mul_le_mul_of_nonneg_right h2 (show 0 ≤ s by omega)
        exact h s (by omega) (by omega) ⟨r, by rw [Int.mul_comm]; exact hs⟩
    · have : s = 1 := by omega
      subst this; omega
theorem placeOk_iff {p : Int} : placeOk p = true ↔ Plc p := by
  unfold placeOk Plc OddP
  by_cases c : p = 0
  · simp [c]
  · by_cases c5 : p ≤ 5000
    · by_cases c2 : p ≥ 2
      · rw [decide_eq_false c, decide_eq_true c5, decide_eq_true c2, Bool.false_or, Bool.true_and, Bool.true_and, trial_iff c2 c5 70 2 (by omega) (by omega) (fun r r1 r2 => by omega), ← prime_iff c2]
        constructor
        · intro h
          rcases Int.lt_or_eq_of_le c2 with h2 | h2
          · exact Or.inr (Or.inr ⟨h, by omega, c5⟩)
          · exact Or.inr (Or.inl h2.symm)
        · rintro (h | h | h)
          · exact absurd h c
          · subst h; exact prime2
          · exact h.1
      · rw [decide_eq_false c, decide_eq_false c2]
        simp only [Bool.false_and, Bool.and_false, Bool.or_false, Bool.false_eq_true, false_iff]
        rintro (h | h | h) <;> omega
    · rw [decide_eq_false c, decide_eq_false c5]
      simp only [Bool.false_and, Bool.or_false, Bool.false_eq_true, false_iff]
      rintro (h | h | h) <;> omega

end Locg
