/- Plain arithmetic for the laws: 64-bit words in range, integer square roots, bounds of products. -/
import Derived.Test.YtihadpckmcebgaaTWMore
set_option linter.unusedVariables false
set_option linter.unusedSimpArgs false
namespace Locg
open Go.RowKit Go.Proofs.YtihadpckmcebgaaW.PrintWords

theorem w64 {x : Int} (h : -9223372036854775808 ≤ x) (h' : x ≤ 9223372036854775807) : wrap64 x = x := by unfold wrap64; omega
theorem w64' {x : Int} (h : 0 ≤ x) (h' : x ≤ 9223372036854775807) : wrap64 x = x := w64 (by omega) h'

theorem sq_le {a b : Int} (h0 : 0 ≤ a) (h : a ≤ b) : a * a ≤ b * b := Int.mul_le_mul h h h0 (by omega)
theorem sq_lt {a b : Int} (h0 : 0 ≤ a) (h : a < b) : a * a < b * b := by
  have h1 : a * a ≤ a * b := Int.mul_le_mul_of_nonneg_left (by omega) h0
  have h2 : a * b < b * b := Int.mul_lt_mul_of_pos_right h (by omega)
  omega
theorem lt_of_sq {a b : Int} (h0 : 0 ≤ b) (h : a * a < b * b) : a < b := by
  rcases Int.lt_or_le a b with h1 | h1
  · exact h1
  · have := sq_le h0 h1; omega
theorem le_of_sq {a b : Int} (h0 : 0 ≤ b) (h : a * a ≤ b * b) : a ≤ b := by
  rcases Int.lt_or_le b a with h1 | h1
  · have := sq_lt h0 h1; omega
  · exact h1
theorem sq_nonneg (a : Int) : 0 ≤ a * a := by
  rcases Int.le_total 0 a with h | h
  · exact Int.mul_nonneg h h
  · have := Int.mul_nonneg (a := -a) (b := -a) (by omega) (by omega); rw [Int.neg_mul_neg] at this; exact this
theorem mul_le2 {a b A B : Int} (ha : 0 ≤ a) (hA : a ≤ A) (hb : 0 ≤ b) (hB : b ≤ B) : a * b ≤ A * B := Int.mul_le_mul hA hB hb (by omega)

/-- The greatest number whose square is at most n. -/
def isqrt : Nat → Nat
  | 0 => 0
  | n + 1 => if (isqrt n + 1) * (isqrt n + 1) ≤ n + 1 then isqrt n + 1 else isqrt n
theorem isqrt_spec (n : Nat) : isqrt n * isqrt n ≤ n ∧ n < (isqrt n + 1) * (isqrt n + 1) := by
  induction n with
  | zero => simp [isqrt]
  | succ n ih =>
    unfold isqrt
    split
    · rename_i h
      refine ⟨h, ?_⟩
      have e : (isqrt n + 1 + 1) * (isqrt n + 1 + 1) = (isqrt n + 1) * (isqrt n + 1) + 2 * isqrt n + 3 := by grind
      omega
    · rename_i h
      exact ⟨by omega, by omega⟩
theorem isqrt_unique {n r : Nat} (h : r * r ≤ n) (h' : n < (r + 1) * (r + 1)) : isqrt n = r := by
  obtain ⟨h1, h2⟩ := isqrt_spec n
  apply Nat.le_antisymm
  · rcases Nat.lt_or_ge r (isqrt n) with hl | hl
    · have := Nat.mul_le_mul (show r + 1 ≤ isqrt n from hl) (show r + 1 ≤ isqrt n from hl); omega
    · exact hl
  · rcases Nat.lt_or_ge (isqrt n) r with hl | hl
    · have := Nat.mul_le_mul (show isqrt n + 1 ≤ r from hl) (show isqrt n + 1 ≤ r from hl); omega
    · exact hl
/-- The greatest number whose square is at most n, of an integer. -/
def isq (n : Int) : Int := (isqrt n.toNat : Nat)
theorem isq_nonneg (n : Int) : 0 ≤ isq n := Int.natCast_nonneg _
theorem isq_le {n : Int} (h : 0 ≤ n) : isq n * isq n ≤ n := by
  have := (isqrt_spec n.toNat).1
  have e : isq n * isq n = ((isqrt n.toNat * isqrt n.toNat : Nat) : Int) := by simp [isq]
  omega
theorem isq_lt {n : Int} (h : 0 ≤ n) : n < (isq n + 1) * (isq n + 1) := by
  have := (isqrt_spec n.toNat).2
  have e : (isq n + 1) * (isq n + 1) = (((isqrt n.toNat + 1) * (isqrt n.toNat + 1) : Nat) : Int) := by simp [isq]
  omega
theorem isq_bound {n b : Int} (h : 0 ≤ n) (hb : 0 ≤ b) (h' : n < b * b) : isq n < b := lt_of_sq hb (by have := isq_le h; omega)
theorem isq_unique {n r : Int} (h0 : 0 ≤ r) (h : r * r ≤ n) (h' : n < (r + 1) * (r + 1)) : isq n = r := by
  have hn : 0 ≤ n := by have := sq_nonneg r; omega
  apply Int.le_antisymm
  · have := isq_le hn; have := lt_of_sq (a := isq n) (b := r + 1) (by omega) (by omega); omega
  · have := isq_lt hn; have := lt_of_sq (a := r) (b := isq n + 1) (by have := isq_nonneg n; omega) (by omega); omega
theorem succ_sq (r : Int) : (r + 1) * (r + 1) = r * r + 2 * r + 1 := by grind
theorem isq_sq {r : Int} (h0 : 0 ≤ r) : isq (r * r) = r := isq_unique h0 (Int.le_refl _) (by have := succ_sq r; omega)
/-- A square: its root, and that it is one. -/
def sqB (n : Int) : Bool := decide (isq n * isq n = n)

theorem tdiv2 {n : Int} (h : 0 ≤ n) : Int.tdiv n 2 = n / 2 := Int.tdiv_eq_ediv_of_nonneg h
theorem wmul {a b : Int} (ha : 0 ≤ a) (hA : a ≤ 1048577) (hb : 0 ≤ b) (hB : b ≤ 1048577) : wrap64 (a * b) = a * b :=
  w64' (Int.mul_nonneg ha hb) (by have := mul_le2 ha hA hb hB; omega)

/-- What one x gives to the ways of two squares. -/
def wayW (n x : Int) : Int := if isq (n - x * x) * isq (n - x * x) = n - x * x then (if x > 0 then (if isq (n - x * x) > 0 then 4 else 2) else (if isq (n - x * x) > 0 then 2 else 1)) else 0
def r2from (n : Int) : Nat → Int → Int
  | 0, _ => 0
  | d + 1, x => wayW n x + r2from n d (x + 1)
def r2 (n : Int) : Int := r2from n (isq n + 1).toNat 0
theorem wayW_bd (n x : Int) : 0 ≤ wayW n x ∧ wayW n x ≤ 4 := by unfold wayW; repeat' split <;> omega
theorem r2from_bd (n : Int) : ∀ (d : Nat) (x : Int), 0 ≤ r2from n d x ∧ r2from n d x ≤ 4 * d
  | 0, x => by simp [r2from]
  | d + 1, x => by have := wayW_bd n x; have := r2from_bd n d (x + 1); simp only [r2from]; omega
theorem r2_bd {n : Int} (h0 : 0 ≤ n) : 0 ≤ r2 n ∧ r2 n ≤ 4 * (isq n + 1) := by
  have := r2from_bd n (isq n + 1).toNat 0; have := isq_nonneg n; unfold r2; omega
/-- Ways of four squares, as sums over two and two. -/
def conv (n : Int) : Nat → Int → Int
  | 0, _ => 0
  | d + 1, k => r2 k * r2 (n - k) + conv n d (k + 1)
def r4 (n : Int) : Int := conv n (n + 1).toNat 0

theorem rd_drop {xs : List Int} {j : Nat} (h : j < xs.length) : xs.drop j = rd xs (j : Int) :: xs.drop (j + 1) := by
  rw [List.drop_eq_getElem_cons h]
  simp [rd, List.getElem?_eq_getElem h]
theorem rd_mem {xs : List Int} {j : Nat} (h : j < xs.length) : rd xs (j : Int) ∈ xs := by
  simp [rd, List.getElem?_eq_getElem h]

/-- The first list of so many numbers, each at least the one ahead, whose squares have a sum. -/
def sqFrom (f : Int → Option (List Int)) (c left : Int) : Nat → Int → Option (List Int)
  | 0, _ => none
  | d + 1, x => if x * x * c ≤ left then (match f x with | some r => some (x :: r) | none => sqFrom f c left d (x + 1)) else none
def sqs : Nat → Int → Int → Option (List Int)
  | 0, low, left => if isq left * isq left = left ∧ low ≤ isq left then some [isq left] else none
  | m + 1, low, left => sqFrom (fun x => sqs m x (left - x * x)) (m + 2) left (left + 2 - low).toNat low
theorem sqFrom_stop {f : Int → Option (List Int)} {c left : Int} (d : Nat) {x : Int} (h : ¬ x * x * c ≤ left) : sqFrom f c left d x = none := by
  cases d with
  | zero => rfl
  | succ d => simp only [sqFrom, if_neg h]
theorem sq_bound {c left x : Int} (hc : 1 ≤ c) (hx : 0 ≤ x) (h : x * x * c ≤ left) : x * x ≤ left ∧ x ≤ left := by
  have h0 := sq_nonneg x
  have h1 : x * x * 1 ≤ x * x * c := Int.mul_le_mul_of_nonneg_left hc h0
  have h2 : x ≤ x * x := by
    rcases Int.lt_or_le x 1 with h | h
    · omega
    · have := Int.mul_le_mul_of_nonneg_left (c := x) h hx; omega
  omega
theorem sqFrom_hit {f : Int → Option (List Int)} {c left x : Int} {r : List Int} (hc : 1 ≤ c) (hx : 0 ≤ x) (h : x * x * c ≤ left) (hf : f x = some r) : sqFrom f c left (left + 2 - x).toNat x = some (x :: r) := by
  have := sq_bound hc hx h
  obtain ⟨d, hd⟩ : ∃ d, (left + 2 - x).toNat = d + 1 := ⟨(left + 1 - x).toNat, by omega⟩
  rw [hd]
  simp only [sqFrom, if_pos h, hf]
theorem sqFrom_next {f : Int → Option (List Int)} {c left x : Int} (hc : 1 ≤ c) (hx : 0 ≤ x) (h : x * x * c ≤ left) (hf : f x = none) : sqFrom f c left (left + 2 - x).toNat x = sqFrom f c left (left + 2 - (x + 1)).toNat (x + 1) := by
  have := sq_bound hc hx h
  obtain ⟨d, hd⟩ : ∃ d, (left + 2 - x).toNat = d + 1 := ⟨(left + 1 - x).toNat, by omega⟩
  rw [hd, show (left + 2 - (x + 1)).toNat = d from by omega]
  simp only [sqFrom, if_pos h, hf]
/-- Numbers one behind the other. -/
def marks : Nat → Int → List Int
  | 0, _ => []
  | d + 1, k => k :: marks d (k + 1)
theorem marks_len : ∀ (d : Nat) (k : Int), (marks d k).length = d
  | 0, _ => rfl
  | d + 1, k => by simp [marks, marks_len d (k + 1)]
theorem rd_append (a : List Int) (x : Int) (b : List Int) : rd (a ++ x :: b) (a.length : Int) = x := by simp [rd]

end Locg
