/- Plain arithmetic: forms at a place. -/
import Derived.Test.YtihadpckmcebgaaTLoc
set_option linter.unusedVariables false
set_option linter.unusedSimpArgs false
namespace Locg
open Go.RowKit Go.Proofs.YtihadpckmcebgaaW.PrintWords Go.Proofs.YtihadpckmcebgaaW.PrintMore

def Sm (x : Int) : Prop := x ≠ 0 ∧ x.natAbs ≤ 30
def prodF : List Int → Int → Int
  | [], acc => acc
  | x :: xs, acc => prodF xs (acc * x)
def prod (xs : List Int) : Int := prodF xs 1
def lessF : List Int → Int → Int
  | [], acc => acc
  | x :: xs, acc => lessF xs (if x < 0 then acc + 1 else acc)
def less (xs : List Int) : Int := lessF xs 0
def inn (p x : Int) : List Int → Int → Int
  | [], acc => acc
  | y :: ys, acc => inn p x ys (acc * sym x y p)
def outr (p : Int) : List Int → List Int → Int → Int
  | _, [], acc => acc
  | pre, x :: xs, acc => outr p (pre ++ [x]) xs (inn p x pre acc)
def inv (xs : List Int) (p : Int) : Int := outr p [] xs 1
def van (xs : List Int) (p : Int) : Bool :=
  if p = 0 then decide (less xs > 0) && decide (less xs < (xs.length : Int))
  else if (xs.length : Int) = 2 then sqAt (-(prod xs)) p
  else if (xs.length : Int) = 3 then inv xs p == sym (-1) (-(prod xs)) p
  else if (xs.length : Int) = 4 then !(sqAt (prod xs) p) || (inv xs p == sym (-1) (-1) p)
  else false
def planes (xs : List Int) (p : Int) : Int :=
  if p = 0 then mn (less xs) ((xs.length : Int) - less xs)
  else if van xs p = true then (if (xs.length : Int) = 4 ∧ sqAt (prod xs) p = true then 2 else 1) else 0
def formOk (xs : List Int) : Bool := xs.all (fun x => decide (x ≠ 0) && decide (x.natAbs ≤ 30)) && (decide (1 ≤ xs.length) && decide (xs.length ≤ 4))
theorem formOk_iff {xs : List Int} : formOk xs = true ↔ (∀ x ∈ xs, Sm x) ∧ 1 ≤ xs.length ∧ xs.length ≤ 4 := by
  simp [formOk, Sm, and_assoc]
theorem pm_mul {a b : Int} (ha : a = 1 ∨ a = -1) (hb : b = 1 ∨ b = -1) : (a * b = 1 ∨ a * b = -1) ∧ wrap64 (a * b) = a * b := by
  rcases ha with rfl | rfl <;> rcases hb with rfl | rfl <;> decide +kernel
theorem inn_pm (p x : Int) : ∀ (ys : List Int) (acc : Int), (acc = 1 ∨ acc = -1) → inn p x ys acc = 1 ∨ inn p x ys acc = -1
  | [], acc, h => h
  | y :: ys, acc, h => inn_pm p x ys _ (pm_mul h (sym_pm x y p)).1
theorem prodF_bd : ∀ (xs : List Int) (acc : Int) (j : Nat), (∀ x ∈ xs, Sm x) → acc ≠ 0 → acc.natAbs ≤ 30 ^ j → prodF xs acc ≠ 0 ∧ (prodF xs acc).natAbs ≤ 30 ^ (j + xs.length)
  | [], acc, j, _, h0, h => ⟨h0, h⟩
  | x :: xs, acc, j, hx, h0, h => by
    have h1 := hx x (by simp)
    have h2 : (acc * x).natAbs ≤ 30 ^ (j + 1) := by rw [Int.natAbs_mul, Nat.pow_succ]; exact Nat.mul_le_mul h h1.2
    have := prodF_bd xs (acc * x) (j + 1) (fun y hy => hx y (by simp [hy])) (Int.mul_ne_zero h0 h1.1) h2
    simp only [prodF, List.length_cons]
    rw [show j + (xs.length + 1) = j + 1 + xs.length from by omega]
    exact this
theorem prod_bd4 {xs : List Int} (hx : ∀ x ∈ xs, Sm x) (hl : xs.length ≤ 5) : prod xs ≠ 0 ∧ (prod xs).natAbs ≤ 24300000 := by
  have := prodF_bd xs 1 0 hx (by omega) (by simp)
  have h2 : 30 ^ (0 + xs.length) ≤ 30 ^ 5 := Nat.pow_le_pow_right (by omega) (by omega)
  exact ⟨this.1, by unfold prod; omega⟩
theorem lessF_bd : ∀ (xs : List Int) (acc : Int), acc ≤ lessF xs acc ∧ lessF xs acc ≤ acc + xs.length
  | [], acc => by simp [lessF]
  | x :: xs, acc => by
    have h1 := lessF_bd xs (acc + 1)
    have h2 := lessF_bd xs acc
    simp only [lessF, List.length_cons]
    split <;> omega
theorem less_bd (xs : List Int) : 0 ≤ less xs ∧ less xs ≤ xs.length := by have := lessF_bd xs 0; unfold less; omega

end Locg
