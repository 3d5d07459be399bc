/- The plain texts of this claim, one behind the other. -/
import Derived.Test.YtacfcoilmdhgnaaGreatDoorTWMore
set_option linter.unusedVariables false
set_option linter.unusedSimpArgs false
namespace Locg
open Go.RowKit Go.Proofs.YtacfcoilmdhgnaaGreatDoorW.PrintWords

theorem w64 {x : Int} (h : -9223372036854775808 ≤ x) (h' : x ≤ 9223372036854775807) : wrap64 x = x := by unfold wrap64; omega
theorem w64' {x : Int} (h : 0 ≤ x) (h' : x ≤ 9223372036854775807) : wrap64 x = x := w64 (by omega) h'

theorem sq_le {a b : Int} (h0 : 0 ≤ a) (h : a ≤ b) : a * a ≤ b * b := Int.mul_le_mul h h h0 (by omega)
theorem sq_lt {a b : Int} (h0 : 0 ≤ a) (h : a < b) : a * a < b * b := by
  have h1 : a * a ≤ a * b := Int.mul_le_mul_of_nonneg_left (by omega) h0
  have h2 : a * b < b * b := Int.mul_lt_mul_of_pos_right h (by omega)
  omega
theorem lt_of_sq {a b : Int} (h0 : 0 ≤ b) (h : a * a < b * b) : a < b := by
  rcases Int.lt_or_le a b with h1 | h1
  · exact h1
  · have := sq_le h0 h1; omega
theorem le_of_sq {a b : Int} (h0 : 0 ≤ b) (h : a * a ≤ b * b) : a ≤ b := by
  rcases Int.lt_or_le b a with h1 | h1
  · have := sq_lt h0 h1; omega
  · exact h1
theorem sq_nonneg (a : Int) : 0 ≤ a * a := by
  rcases Int.le_total 0 a with h | h
  · exact Int.mul_nonneg h h
  · have := Int.mul_nonneg (a := -a) (b := -a) (by omega) (by omega); rw [Int.neg_mul_neg] at this; exact this
theorem mul_le2 {a b A B : Int} (ha : 0 ≤ a) (hA : a ≤ A) (hb : 0 ≤ b) (hB : b ≤ B) : a * b ≤ A * B := Int.mul_le_mul hA hB hb (by omega)

/-- The greatest number whose square is at most n. -/
def isqrt : Nat → Nat
  | 0 => 0
  | n + 1 => if (isqrt n + 1) * (isqrt n + 1) ≤ n + 1 then isqrt n + 1 else isqrt n
theorem isqrt_spec (n : Nat) : isqrt n * isqrt n ≤ n ∧ n < (isqrt n + 1) * (isqrt n + 1) := by
  induction n with
  | zero => simp [isqrt]
  | succ n ih =>
    unfold isqrt
    split
    · rename_i h
      refine ⟨h, ?_⟩
      have e : (isqrt n + 1 + 1) * (isqrt n + 1 + 1) = (isqrt n + 1) * (isqrt n + 1) + 2 * isqrt n + 3 := by grind
      omega
    · rename_i h
      exact ⟨by omega, by omega⟩
theorem isqrt_unique {n r : Nat} (h : r * r ≤ n) (h' : n < (r + 1) * (r + 1)) : isqrt n = r := by
  obtain ⟨h1, h2⟩ := isqrt_spec n
  apply Nat.le_antisymm
  · rcases Nat.lt_or_ge r (isqrt n) with hl | hl
    · have := Nat.mul_le_mul (show r + 1 ≤ isqrt n from hl) (show r + 1 ≤ isqrt n from hl); omega
    · exact hl
  · rcases Nat.lt_or_ge (isqrt n) r with hl | hl
    · have := Nat.mul_le_mul (show isqrt n + 1 ≤ r from hl) (show isqrt n + 1 ≤ r from hl); omega
    · exact hl
/-- The greatest number whose square is at most n, of an integer. -/
def isq (n : Int) : Int := (isqrt n.toNat : Nat)
theorem isq_nonneg (n : Int) : 0 ≤ isq n := Int.natCast_nonneg _
theorem isq_le {n : Int} (h : 0 ≤ n) : isq n * isq n ≤ n := by
  have := (isqrt_spec n.toNat).1
  have e : isq n * isq n = ((isqrt n.toNat * isqrt n.toNat : Nat) : Int) := by simp [isq]
  omega
theorem isq_lt {n : Int} (h : 0 ≤ n) : n < (isq n + 1) * (isq n + 1) := by
  have := (isqrt_spec n.toNat).2
  have e : (isq n + 1) * (isq n + 1) = (((isqrt n.toNat + 1) * (isqrt n.toNat + 1) : Nat) : Int) := by simp [isq]
  omega
theorem isq_bound {n b : Int} (h : 0 ≤ n) (hb : 0 ≤ b) (h' : n < b * b) : isq n < b := lt_of_sq hb (by have := isq_le h; omega)
theorem isq_unique {n r : Int} (h0 : 0 ≤ r) (h : r * r ≤ n) (h' : n < (r + 1) * (r + 1)) : isq n = r := by
  have hn : 0 ≤ n := by have := sq_nonneg r; omega
  apply Int.le_antisymm
  · have := isq_le hn; have := lt_of_sq (a := isq n) (b := r + 1) (by omega) (by omega); omega
  · have := isq_lt hn; have := lt_of_sq (a := r) (b := isq n + 1) (by have := isq_nonneg n; omega) (by omega); omega
theorem succ_sq (r : Int) : (r + 1) * (r + 1) = r * r + 2 * r + 1 := by grind
theorem isq_sq {r : Int} (h0 : 0 ≤ r) : isq (r * r) = r := isq_unique h0 (Int.le_refl _) (by have := succ_sq r; omega)
theorem tdiv2 {n : Int} (h : 0 ≤ n) : Int.tdiv n 2 = n / 2 := Int.tdiv_eq_ediv_of_nonneg h
theorem wmul {a b : Int} (ha : 0 ≤ a) (hA : a ≤ 1048577) (hb : 0 ≤ b) (hB : b ≤ 1048577) : wrap64 (a * b) = a * b :=
  w64' (Int.mul_nonneg ha hb) (by have := mul_le2 ha hA hb hB; omega)

/-- What one x gives to the ways of two squares. -/
def wayW (n x : Int) : Int := if isq (n - x * x) * isq (n - x * x) = n - x * x then (if x > 0 then (if isq (n - x * x) > 0 then 4 else 2) else (if isq (n - x * x) > 0 then 2 else 1)) else 0
def r2from (n : Int) : Nat → Int → Int
  | 0, _ => 0
  | d + 1, x => wayW n x + r2from n d (x + 1)
def r2 (n : Int) : Int := r2from n (isq n + 1).toNat 0
/-- Ways of four squares, as sums over two and two. -/
def conv (n : Int) : Nat → Int → Int
  | 0, _ => 0
  | d + 1, k => r2 k * r2 (n - k) + conv n d (k + 1)
def r4 (n : Int) : Int := conv n (n + 1).toNat 0

theorem rd_drop {xs : List Int} {j : Nat} (h : j < xs.length) : xs.drop j = rd xs (j : Int) :: xs.drop (j + 1) := by
  rw [List.drop_eq_getElem_cons h]
  simp [rd, List.getElem?_eq_getElem h]
theorem rd_mem {xs : List Int} {j : Nat} (h : j < xs.length) : rd xs (j : Int) ∈ xs := by
  simp [rd, List.getElem?_eq_getElem h]

/-- The first list of so many numbers, each at least the one ahead, whose squares have a sum. -/
def sqFrom (f : Int → Option (List Int)) (c left : Int) : Nat → Int → Option (List Int)
  | 0, _ => none
  | d + 1, x => if x * x * c ≤ left then (match f x with | some r => some (x :: r) | none => sqFrom f c left d (x + 1)) else none
def sqs : Nat → Int → Int → Option (List Int)
  | 0, low, left => if isq left * isq left = left ∧ low ≤ isq left then some [isq left] else none
  | m + 1, low, left => sqFrom (fun x => sqs m x (left - x * x)) (m + 2) left (left + 2 - low).toNat low
theorem sqFrom_stop {f : Int → Option (List Int)} {c left : Int} (d : Nat) {x : Int} (h : ¬ x * x * c ≤ left) : sqFrom f c left d x = none := by
  cases d with
  | zero => rfl
  | succ d => simp only [sqFrom, if_neg h]
theorem sq_bound {c left x : Int} (hc : 1 ≤ c) (hx : 0 ≤ x) (h : x * x * c ≤ left) : x * x ≤ left ∧ x ≤ left := by
  have h0 := sq_nonneg x
  have h1 : x * x * 1 ≤ x * x * c := Int.mul_le_mul_of_nonneg_left hc h0
  have h2 : x ≤ x * x := by
    rcases Int.lt_or_le x 1 with h | h
    · omega
    · have := Int.mul_le_mul_of_nonneg_left (c := x) h hx; omega
  omega
theorem sqFrom_hit {f : Int → Option (List Int)} {c left x : Int} {r : List Int} (hc : 1 ≤ c) (hx : 0 ≤ x) (h : x * x * c ≤ left) (hf : f x = some r) : sqFrom f c left (left + 2 - x).toNat x = some (x :: r) := by
  have := sq_bound hc hx h
  obtain ⟨d, hd⟩ : ∃ d, (left + 2 - x).toNat = d + 1 := ⟨(left + 1 - x).toNat, by omega⟩
  rw [hd]
  simp only [sqFrom, if_pos h, hf]
theorem sqFrom_next {f : Int → Option (List Int)} {c left x : Int} (hc : 1 ≤ c) (hx : 0 ≤ x) (h : x * x * c ≤ left) (hf : f x = none) : sqFrom f c left (left + 2 - x).toNat x = sqFrom f c left (left + 2 - (x + 1)).toNat (x + 1) := by
  have := sq_bound hc hx h
  obtain ⟨d, hd⟩ : ∃ d, (left + 2 - x).toNat = d + 1 := ⟨(left + 1 - x).toNat, by omega⟩
  rw [hd, show (left + 2 - (x + 1)).toNat = d from by omega]
  simp only [sqFrom, if_pos h, hf]
end Locg

namespace Locg
open Go.RowKit Go.Proofs.YtacfcoilmdhgnaaGreatDoorW.PrintWords Go.Proofs.YtacfcoilmdhgnaaGreatDoorW.PrintMore

/-- How often p divides n, and what is left; d: how often at most. -/
def spl (p : Int) : Nat → Int → Int × Int
  | 0, n => (0, n)
  | d + 1, n => if n.tmod p = 0 then ((spl p d (n.tdiv p)).1 + 1, (spl p d (n.tdiv p)).2) else (0, n)
def unit (p n : Int) : Int := (spl p 64 n).2

/-- The primes of n from p on, by trial. -/
def pl : Nat → Int → Int → List Int
  | 0, _, _ => []
  | d + 1, n, p => if p * p ≤ n then (if n.tmod p = 0 then p :: pl d (unit p n) (p + 1) else pl d n (p + 1)) else (if n > 1 then [n] else [])
def absI (n : Int) : Int := (n.natAbs : Nat)
def primes (n : Int) : List Int := pl (n.natAbs + 2) (absI n) 2
end Locg

namespace Locg
open Go.RowKit Go.Proofs.YtacfcoilmdhgnaaGreatDoorW.PrintWords

/-- A root by its bits. -/
def sqF (d n x : Nat) : Nat := Nat.rec (motive := fun _ => Nat → Nat) (fun x => x) (fun d ih x => bif Nat.ble (Nat.mul (Nat.add x (Nat.pow 2 d)) (Nat.add x (Nat.pow 2 d))) n then ih (Nat.add x (Nat.pow 2 d)) else ih x) d x
theorem sqF_spec (n : Nat) : ∀ (d x : Nat), x * x ≤ n → n < (x + 2 ^ d) * (x + 2 ^ d) → sqF d n x * sqF d n x ≤ n ∧ n < (sqF d n x + 1) * (sqF d n x + 1)
  | 0, x, h, h' => by simpa [sqF] using ⟨h, h'⟩
  | d + 1, x, h, h' => by
    have e : sqF (d + 1) n x = bif Nat.ble (Nat.mul (Nat.add x (Nat.pow 2 d)) (Nat.add x (Nat.pow 2 d))) n then sqF d n (Nat.add x (Nat.pow 2 d)) else sqF d n x := rfl
    rw [e]
    change _ ∧ _
    by_cases c : (x + 2 ^ d) * (x + 2 ^ d) ≤ n
    · have hb : Nat.ble (Nat.mul (Nat.add x (Nat.pow 2 d)) (Nat.add x (Nat.pow 2 d))) n = true := Nat.ble_eq_true_of_le c
      rw [hb]
      exact sqF_spec n d (x + 2 ^ d) c (by rw [show x + 2 ^ d + 2 ^ d = x + 2 ^ (d + 1) from by rw [Nat.pow_succ]; omega]; exact h')
    · have hb : Nat.ble (Nat.mul (Nat.add x (Nat.pow 2 d)) (Nat.add x (Nat.pow 2 d))) n = false := by
        rw [Bool.eq_false_iff]; intro h; exact c (Nat.le_of_ble_eq_true h)
      rw [hb]
      exact sqF_spec n d x h (by omega)
theorem sqF_eq {n : Nat} (d : Nat) (h : n < 2 ^ d * 2 ^ d) : sqF d n 0 = isqrt n := by
  obtain ⟨h1, h2⟩ := sqF_spec n d 0 (by omega) (by simpa using h)
  exact (isqrt_unique h1 h2).symm
theorem beq_iff {a b : Nat} : Nat.beq a b = decide (a = b) := by
  rw [Bool.eq_iff_iff, decide_eq_true_eq]; exact ⟨Nat.eq_of_beq_eq_true, fun h => by rw [h]; exact Nat.beq_refl b⟩
/-- The sum of the divisors up to k that 4 does not divide. -/
def s4 (n k : Nat) : Nat := Nat.rec (motive := fun _ => Nat) 0 (fun d ih => Nat.add ih (bif Nat.beq (Nat.mod n (Nat.succ d)) 0 then (bif Nat.beq (Nat.mod (Nat.succ d) 4) 0 then 0 else Nat.succ d) else 0)) k
end Locg

namespace Locg
open Go.RowKit Go.Proofs.YtacfcoilmdhgnaaGreatDoorW.PrintWords

theorem sqFrom_some_iff {f : Int → Option (List Int)} {c left : Int} (hc : 1 ≤ c) : ∀ (d : Nat) (x : Int), 0 ≤ x → (left + 2 - x).toNat = d →
    ((sqFrom f c left (left + 2 - x).toNat x).isSome = true ↔ ∃ y, x ≤ y ∧ y * y * c ≤ left ∧ (f y).isSome = true) := by
  have key : ∀ x : Int, 0 ≤ x → ¬ x * x * c ≤ left → ¬ ∃ y, x ≤ y ∧ y * y * c ≤ left ∧ (f y).isSome = true := by
    rintro x hx h ⟨y, h1, h2, _⟩
    have := sq_le hx h1
    have := Int.mul_le_mul_of_nonneg_right this (show 0 ≤ c by omega)
    omega
  intro d
  induction d with
  | zero =>
    intro x hx hd
    have hn : ¬ x * x * c ≤ left := fun h => by have := sq_bound hc hx h; omega
    rw [sqFrom_stop _ hn]
    simp only [Option.isSome_none, Bool.false_eq_true, false_iff]
    exact key x hx hn
  | succ d ih =>
    intro x hx hd
    by_cases h : x * x * c ≤ left
    · cases hf : f x with
      | some r =>
        rw [sqFrom_hit hc hx h hf]
        simp only [Option.isSome_some, true_iff]
        exact ⟨x, Int.le_refl _, h, by rw [hf]; rfl⟩
      | none =>
        rw [sqFrom_next hc hx h hf, ih (x + 1) (by omega) (by omega)]
        constructor
        · rintro ⟨y, h1, h2, h3⟩; exact ⟨y, by omega, h2, h3⟩
        · rintro ⟨y, h1, h2, h3⟩
          refine ⟨y, ?_, h2, h3⟩
          rcases Int.lt_or_le x y with h4 | h4
          · omega
          · obtain rfl : y = x := by omega
            rw [hf] at h3; cases h3
    · rw [sqFrom_stop _ h]
      simp only [Option.isSome_none, Bool.false_eq_true, false_iff]
      exact key x hx h
/-- Does one of the first so many numbers answer? -/
def anyN (f : Nat → Bool) (k : Nat) : Bool := Nat.rec (motive := fun _ => Bool) false (fun i ih => or ih (f i)) k
theorem anyN_iff {f : Nat → Bool} : ∀ k, anyN f k = true ↔ ∃ i, i < k ∧ f i = true
  | 0 => by simp [anyN]
  | k + 1 => by
    have e : anyN f (k + 1) = or (anyN f k) (f k) := rfl
    rw [e, Bool.or_eq_true, anyN_iff k]
    constructor
    · rintro (⟨i, h, h'⟩ | h)
      · exact ⟨i, by omega, h'⟩
      · exact ⟨k, by omega, h⟩
    · rintro ⟨i, h, h'⟩
      rcases Nat.lt_or_ge i k with h1 | h1
      · exact .inl ⟨i, h1, h'⟩
      · obtain rfl : i = k := by omega
        exact .inr h'
def ex1 (left : Nat) : Bool := Nat.beq (Nat.mul (sqF 6 left 0) (sqF 6 left 0)) left
def ex2 (low left : Nat) : Bool := anyN (fun y => and (Nat.ble low y) (ex1 (Nat.sub left (Nat.mul y y)))) (Nat.succ (sqF 6 (Nat.div left 2) 0))
def ex3 (low left : Nat) : Bool := anyN (fun y => and (Nat.ble low y) (ex2 y (Nat.sub left (Nat.mul y y)))) (Nat.succ (sqF 6 (Nat.div left 3) 0))
def ex4 (low left : Nat) : Bool := anyN (fun y => and (Nat.ble low y) (ex3 y (Nat.sub left (Nat.mul y y)))) (Nat.succ (sqF 6 (Nat.div left 4) 0))
theorem ex1_iff {left : Nat} (h : left < 4096) : ex1 left = true ↔ isq left * isq left = (left : Int) := by
  unfold ex1
  rw [sqF_eq 6 (by omega), beq_iff, decide_eq_true_eq]
  have e : isq (left : Int) = ((isqrt left : Nat) : Int) := by simp [isq]
  rw [e]
  constructor
  · intro h; exact_mod_cast h
  · intro h; exact_mod_cast h
theorem bound_iff {left c y : Nat} (hc : 1 ≤ c) (h : left < 4096) : y < sqF 6 (left / c) 0 + 1 ↔ y * y * c ≤ left := by
  have hl : left / c < 2 ^ 6 * 2 ^ 6 := by have := Nat.div_le_self left c; omega
  rw [sqF_eq 6 hl]
  have hs := isqrt_spec (left / c)
  rw [← Nat.le_div_iff_mul_le hc]
  constructor
  · intro h; exact Nat.le_trans (Nat.mul_le_mul (show y ≤ isqrt (left / c) by omega) (show y ≤ isqrt (left / c) by omega)) hs.1
  · intro h
    rcases Nat.lt_or_ge y (isqrt (left / c) + 1) with h1 | h1
    · exact h1
    · have := Nat.mul_le_mul h1 h1; omega
theorem sub_cast {left y : Nat} (h : y * y ≤ left) : (((left - y * y : Nat)) : Int) = (left : Int) - (y : Int) * (y : Int) := by rw [Int.natCast_sub h]; simp
theorem exm_step {m c : Nat} (hc : 1 ≤ c) (hcm : c = m + 2) {g : Nat → Nat → Bool} (hg : ∀ y left : Nat, left < 4096 → ((y * y ≤ left) ∨ m ≠ 0) → (g y left = true ↔ (sqs m y left).isSome = true)) {low left : Nat} (h : left < 4096) :
    anyN (fun y => and (Nat.ble low y) (g y (left - y * y))) (sqF 6 (left / c) 0 + 1) = true ↔ (sqs (m + 1) low left).isSome = true := by
  have e : sqs (m + 1) low left = sqFrom (fun x => sqs m x ((left : Int) - x * x)) ((m : Int) + 2) left ((left : Int) + 2 - low).toNat low := rfl
  rw [e, sqFrom_some_iff (by omega) _ _ (by omega) rfl, anyN_iff]
  constructor
  · rintro ⟨y, h1, h2⟩
    rw [Bool.and_eq_true] at h2
    have hb := (bound_iff hc h).1 h1
    have hyl : y * y * 2 ≤ y * y * c := Nat.mul_le_mul_left _ (by omega)
    have hle := Nat.le_of_ble_eq_true h2.1
    have := (hg y (left - y * y) (by omega) (.inl (by omega))).1 h2.2
    rw [sub_cast (by omega)] at this
    refine ⟨y, by omega, ?_, this⟩
    have hb' : ((y * y * c : Nat) : Int) ≤ (left : Nat) := by omega
    rw [hcm] at hb'
    simpa using hb'
  · rintro ⟨y, h1, h2, h3⟩
    obtain ⟨y, rfl⟩ := Int.eq_ofNat_of_zero_le (show 0 ≤ y by omega)
    have hb : y * y * c ≤ left := by
      have : ((y * y * c : Nat) : Int) ≤ (left : Nat) := by rw [hcm]; simpa using h2
      omega
    have hyl : y * y * 2 ≤ y * y * c := Nat.mul_le_mul_left _ (by omega)
    refine ⟨y, (bound_iff hc h).2 hb, ?_⟩
    rw [Bool.and_eq_true]
    refine ⟨Nat.ble_eq_true_of_le (by omega), (hg y (left - y * y) (by omega) (.inl (by omega))).2 ?_⟩
    rw [sub_cast (by omega)]
    exact h3
theorem ex1_some {y left : Nat} (h : left < 4096) (hy : y * y ≤ left) : ex1 left = true ↔ (sqs 0 y left).isSome = true := by
  rw [ex1_iff h]
  simp only [sqs]
  constructor
  · intro e
    have hle : (y : Int) ≤ isq left := le_of_sq (isq_nonneg _) (by rw [e]; have : ((y * y : Nat) : Int) ≤ (left : Nat) := by omega
                                                                   simpa using this)
    rw [if_pos ⟨e, hle⟩]; rfl
  · intro e
    split at e
    · rename_i h; exact h.1
    · cases e
theorem ex2_some {low left : Nat} (h : left < 4096) : ex2 low left = true ↔ (sqs 1 low left).isSome = true :=
  exm_step (m := 0) (c := 2) (by omega) rfl (g := fun _ l => ex1 l) (fun y l hl hy => ex1_some hl (hy.resolve_right (by simp))) h
theorem ex3_some {low left : Nat} (h : left < 4096) : ex3 low left = true ↔ (sqs 2 low left).isSome = true :=
  exm_step (m := 1) (c := 3) (by omega) rfl (g := ex2) (fun y l hl hy => ex2_some hl) h
theorem ex4_some {low left : Nat} (h : left < 4096) : ex4 low left = true ↔ (sqs 3 low left).isSome = true :=
  exm_step (m := 2) (c := 4) (by omega) rfl (g := ex3) (fun y l hl hy => ex3_some hl) h

/-- What is found, ascends and has the sum. -/
def sumSq (l : List Int) : Int := l.foldl (fun s x => s + x * x) 0
theorem sumSq_go (l : List Int) : ∀ a : Int, l.foldl (fun s x => s + x * x) a = a + sumSq l := by
  induction l with
  | nil => intro a; simp [sumSq]
  | cons x l ih => intro a; simp only [sumSq, List.foldl_cons]; rw [ih, ih (0 + x * x)]; omega
theorem sumSq_cons (x : Int) (l : List Int) : sumSq (x :: l) = x * x + sumSq l := by
  have := sumSq_go l (0 + x * x); simp only [sumSq, List.foldl_cons] at this ⊢; omega
def asc : Int → List Int → Prop
  | _, [] => True
  | low, x :: l => low ≤ x ∧ asc x l
theorem sqFrom_good {f : Int → Option (List Int)} {c left : Int} (hf : ∀ x r, 0 ≤ x → f x = some r → asc x r ∧ sumSq r = left - x * x) : ∀ (d : Nat) (x : Int) (r : List Int), 0 ≤ x → sqFrom f c left d x = some r → asc x r ∧ sumSq r = left
  | 0, _, _, _, h => by simp [sqFrom] at h
  | d + 1, x, r, hx, h => by
    simp only [sqFrom] at h
    split at h
    · split at h
      · rename_i r' hr
        injection h with h
        obtain ⟨h1, h2⟩ := hf x r' hx hr
        rw [← h, sumSq_cons, h2]
        exact ⟨⟨Int.le_refl _, h1⟩, by omega⟩
      · obtain ⟨h1, h2⟩ := sqFrom_good hf d (x + 1) r (by omega) h
        refine ⟨?_, h2⟩
        cases r with
        | nil => trivial
        | cons a r => exact ⟨by have := h1.1; omega, h1.2⟩
    · cases h
theorem sqs_good : ∀ (m : Nat) (low left : Int) (r : List Int), 0 ≤ low → sqs m low left = some r → asc low r ∧ sumSq r = left
  | 0, low, left, r, h0, h => by
    simp only [sqs] at h
    split at h
    · rename_i hc
      injection h with h
      rw [← h, sumSq_cons]
      exact ⟨⟨hc.2, trivial⟩, by simp [sumSq]; exact hc.1⟩
    · cases h
  | m + 1, low, left, r, h0, h => by
    simp only [sqs] at h
    exact sqFrom_good (fun x r hx hr => sqs_good m _ _ r hx hr) _ _ _ h0 h

def allN (f : Nat → Bool) (k : Nat) : Bool := Nat.rec (motive := fun _ => Bool) true (fun i ih => and (f i) ih) k
theorem allN_get {f : Nat → Bool} : ∀ k, allN f k = true → ∀ i, i < k → f i = true
  | 0, _, i, h => by omega
  | k + 1, hc, i, h => by
    have e : allN f (k + 1) = and (f k) (allN f k) := rfl
    rw [e, Bool.and_eq_true] at hc
    rcases Nat.lt_or_ge i k with h1 | h1
    · exact allN_get k hc.2 i h1
    · obtain rfl : i = k := by omega
      exact hc.1
def ok4 (n : Nat) : Bool := ex4 0 n
set_option maxRecDepth 100000 in
theorem four_ok' : allN ok4 495 = true := by decide +kernel
set_option maxRecDepth 100000 in
theorem four_2000 : ok4 2000 = true := by decide +kernel
theorem four_all {n : Nat} (h : n ≤ 494 ∨ n = 2000) : (sqs 3 0 n).isSome = true := by
  have : ok4 n = true := by
    rcases h with h | h
    · exact allN_get 495 four_ok' n (by omega)
    · rw [h]; exact four_2000
  exact (ex4_some (low := 0) (left := n) (by omega)).1 this

end Locg
