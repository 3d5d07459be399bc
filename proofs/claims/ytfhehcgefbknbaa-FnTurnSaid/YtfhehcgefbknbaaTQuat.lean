/- Plain arithmetic: lists of four integers as quaternions. -/
import Derived.Test.YtfhehcgefbknbaaTNum
set_option linter.unusedVariables false
set_option linter.unusedSimpArgs false
namespace Locg
open Go.RowKit Go.Proofs.YtfhehcgefbknbaaW.PrintWords

def qIn (x : Int) : Bool := decide (-10000 ≤ x) && decide (x ≤ 10000)
def qv (l : List Int) : Bool := l.all qIn && ((l.length : Int) == 4)
def qprod : List Int → List Int → List Int
  | [a, b, c, d], [e, f, g, h] => [a * e - b * f - c * g - d * h, a * f + b * e + c * h - d * g, a * g - b * h + c * e + d * f, a * h + b * g - c * f + d * e]
  | _, _ => []
def qmul (p q : List Int) : List Int × Bool := if qv p = true ∧ qv q = true ∧ qv (qprod p q) = true then (qprod p q, true) else ([], false)
def qnorm : List Int → Int
  | [a, b, c, d] => a * a + b * b + c * c + d * d
  | _ => -1
def qconj : List Int → List Int
  | [a, b, c, d] => [a, -b, -c, -d]
  | _ => []
theorem qIn_iff {x : Int} : qIn x = true ↔ -10000 ≤ x ∧ x ≤ 10000 := by simp [qIn]
theorem qv_four {l : List Int} (h : qv l = true) : ∃ a b c d, l = [a, b, c, d] ∧ qIn a = true ∧ qIn b = true ∧ qIn c = true ∧ qIn d = true := by
  simp only [qv, Bool.and_eq_true, List.all_eq_true, beq_iff_eq] at h
  match l, h with
  | [a, b, c, d], h => exact ⟨a, b, c, d, rfl, h.1 a (by simp), h.1 b (by simp), h.1 c (by simp), h.1 d (by simp)⟩
  | [], h => simp at h
  | [_], h => simp at h
  | [_, _], h => simp at h
  | [_, _, _], h => simp at h
  | _ :: _ :: _ :: _ :: _ :: _, h => exfalso; have := h.2; simp at this; omega
theorem qv_of {a b c d : Int} : qv [a, b, c, d] = (qIn a && (qIn b && (qIn c && qIn d))) := by simp [qv]
def I64 (x : Int) : Prop := -9223372036854775808 ≤ x ∧ x ≤ 9223372036854775807
theorem prod_bd {a b : Int} (ha : qIn a = true) (hb : qIn b = true) : -100000000 ≤ a * b ∧ a * b ≤ 100000000 := by
  rw [qIn_iff] at ha hb
  have h1 : (a * b).natAbs ≤ 10000 * 10000 := by rw [Int.natAbs_mul]; exact Nat.mul_le_mul (by omega) (by omega)
  omega

end Locg
