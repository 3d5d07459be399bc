/- The plain texts of this claim, one behind the other. -/
import Derived.Test.YtihadpckmcebgaaTWMore
set_option linter.unusedVariables false
set_option linter.unusedSimpArgs false
namespace Locg
open Go.RowKit Go.Proofs.YtihadpckmcebgaaW.PrintWords

theorem w64 {x : Int} (h : -9223372036854775808 ≤ x) (h' : x ≤ 9223372036854775807) : wrap64 x = x := by unfold wrap64; omega
theorem w64' {x : Int} (h : 0 ≤ x) (h' : x ≤ 9223372036854775807) : wrap64 x = x := w64 (by omega) h'

theorem sq_le {a b : Int} (h0 : 0 ≤ a) (h : a ≤ b) : a * a ≤ b * b := Int.mul_le_mul h h h0 (by omega)
theorem lt_of_sq {a b : Int} (h0 : 0 ≤ b) (h : a * a < b * b) : a < b := by
  rcases Int.lt_or_le a b with h1 | h1
  · exact h1
  · have := sq_le h0 h1; omega
theorem sq_nonneg (a : Int) : 0 ≤ a * a := by
  rcases Int.le_total 0 a with h | h
  · exact Int.mul_nonneg h h
  · have := Int.mul_nonneg (a := -a) (b := -a) (by omega) (by omega); rw [Int.neg_mul_neg] at this; exact this
theorem mul_le2 {a b A B : Int} (ha : 0 ≤ a) (hA : a ≤ A) (hb : 0 ≤ b) (hB : b ≤ B) : a * b ≤ A * B := Int.mul_le_mul hA hB hb (by omega)

/-- The greatest number whose square is at most n. -/
def isqrt : Nat → Nat
  | 0 => 0
  | n + 1 => if (isqrt n + 1) * (isqrt n + 1) ≤ n + 1 then isqrt n + 1 else isqrt n
theorem isqrt_spec (n : Nat) : isqrt n * isqrt n ≤ n ∧ n < (isqrt n + 1) * (isqrt n + 1) := by
  induction n with
  | zero => simp [isqrt]
  | succ n ih =>
    unfold isqrt
    split
    · rename_i h
      refine ⟨h, ?_⟩
      have e : (isqrt n + 1 + 1) * (isqrt n + 1 + 1) = (isqrt n + 1) * (isqrt n + 1) + 2 * isqrt n + 3 := by grind
      omega
    · rename_i h
      exact ⟨by omega, by omega⟩
theorem isqrt_unique {n r : Nat} (h : r * r ≤ n) (h' : n < (r + 1) * (r + 1)) : isqrt n = r := by
  obtain ⟨h1, h2⟩ := isqrt_spec n
  apply Nat.le_antisymm
  · rcases Nat.lt_or_ge r (isqrt n) with hl | hl
    · have := Nat.mul_le_mul (show r + 1 ≤ isqrt n from hl) (show r + 1 ≤ isqrt n from hl); omega
    · exact hl
  · rcases Nat.lt_or_ge (isqrt n) r with hl | hl
    · have := Nat.mul_le_mul (show isqrt n + 1 ≤ r from hl) (show isqrt n + 1 ≤ r from hl); omega
    · exact hl
/-- The greatest number whose square is at most n, of an integer. -/
def isq (n : Int) : Int := (isqrt n.toNat : Nat)
theorem isq_nonneg (n : Int) : 0 ≤ isq n := Int.natCast_nonneg _
theorem isq_le {n : Int} (h : 0 ≤ n) : isq n * isq n ≤ n := by
  have := (isqrt_spec n.toNat).1
  have e : isq n * isq n = ((isqrt n.toNat * isqrt n.toNat : Nat) : Int) := by simp [isq]
  omega
theorem isq_lt {n : Int} (h : 0 ≤ n) : n < (isq n + 1) * (isq n + 1) := by
  have := (isqrt_spec n.toNat).2
  have e : (isq n + 1) * (isq n + 1) = (((isqrt n.toNat + 1) * (isqrt n.toNat + 1) : Nat) : Int) := by simp [isq]
  omega
theorem isq_bound {n b : Int} (h : 0 ≤ n) (hb : 0 ≤ b) (h' : n < b * b) : isq n < b := lt_of_sq hb (by have := isq_le h; omega)
theorem isq_unique {n r : Int} (h0 : 0 ≤ r) (h : r * r ≤ n) (h' : n < (r + 1) * (r + 1)) : isq n = r := by
  have hn : 0 ≤ n := by have := sq_nonneg r; omega
  apply Int.le_antisymm
  · have := isq_le hn; have := lt_of_sq (a := isq n) (b := r + 1) (by omega) (by omega); omega
  · have := isq_lt hn; have := lt_of_sq (a := r) (b := isq n + 1) (by have := isq_nonneg n; omega) (by omega); omega
theorem succ_sq (r : Int) : (r + 1) * (r + 1) = r * r + 2 * r + 1 := by grind
theorem isq_sq {r : Int} (h0 : 0 ≤ r) : isq (r * r) = r := isq_unique h0 (Int.le_refl _) (by have := succ_sq r; omega)
theorem tdiv2 {n : Int} (h : 0 ≤ n) : Int.tdiv n 2 = n / 2 := Int.tdiv_eq_ediv_of_nonneg h
theorem wmul {a b : Int} (ha : 0 ≤ a) (hA : a ≤ 1048577) (hb : 0 ≤ b) (hB : b ≤ 1048577) : wrap64 (a * b) = a * b :=
  w64' (Int.mul_nonneg ha hb) (by have := mul_le2 ha hA hb hB; omega)

/-- What one x gives to the ways of two squares. -/
def wayW (n x : Int) : Int := if isq (n - x * x) * isq (n - x * x) = n - x * x then (if x > 0 then (if isq (n - x * x) > 0 then 4 else 2) else (if isq (n - x * x) > 0 then 2 else 1)) else 0
def r2from (n : Int) : Nat → Int → Int
  | 0, _ => 0
  | d + 1, x => wayW n x + r2from n d (x + 1)
def r2 (n : Int) : Int := r2from n (isq n + 1).toNat 0
theorem wayW_bd (n x : Int) : 0 ≤ wayW n x ∧ wayW n x ≤ 4 := by unfold wayW; repeat' split <;> omega
theorem r2from_bd (n : Int) : ∀ (d : Nat) (x : Int), 0 ≤ r2from n d x ∧ r2from n d x ≤ 4 * d
  | 0, x => by simp [r2from]
  | d + 1, x => by have := wayW_bd n x; have := r2from_bd n d (x + 1); simp only [r2from]; omega
theorem r2_bd {n : Int} (h0 : 0 ≤ n) : 0 ≤ r2 n ∧ r2 n ≤ 4 * (isq n + 1) := by
  have := r2from_bd n (isq n + 1).toNat 0; have := isq_nonneg n; unfold r2; omega
theorem rd_drop {xs : List Int} {j : Nat} (h : j < xs.length) : xs.drop j = rd xs (j : Int) :: xs.drop (j + 1) := by
  rw [List.drop_eq_getElem_cons h]
  simp [rd, List.getElem?_eq_getElem h]
theorem rd_mem {xs : List Int} {j : Nat} (h : j < xs.length) : rd xs (j : Int) ∈ xs := by
  simp [rd, List.getElem?_eq_getElem h]

end Locg

namespace Locg
open Go.RowKit Go.Proofs.YtihadpckmcebgaaW.PrintWords Go.Proofs.YtihadpckmcebgaaW.PrintMore

/-- How often p divides n, and what is left; d: how often at most. -/
def spl (p : Int) : Nat → Int → Int × Int
  | 0, n => (0, n)
  | d + 1, n => if n.tmod p = 0 then ((spl p d (n.tdiv p)).1 + 1, (spl p d (n.tdiv p)).2) else (0, n)
def val (p n : Int) : Int := (spl p 64 n).1
def unit (p n : Int) : Int := (spl p 64 n).2

/-- The primes of n from p on, by trial. -/
def pl : Nat → Int → Int → List Int
  | 0, _, _ => []
  | d + 1, n, p => if p * p ≤ n then (if n.tmod p = 0 then p :: pl d (unit p n) (p + 1) else pl d n (p + 1)) else (if n > 1 then [n] else [])
def absI (n : Int) : Int := (n.natAbs : Nat)
def primes (n : Int) : List Int := pl (n.natAbs + 2) (absI n) 2
theorem size_ev {n : Int} (h : -9223372036854775808 < n) (h' : n ≤ 9223372036854775807) : mx n (wrap64 (-n)) = absI n := by
  rw [w64 (by omega) (by omega)]; unfold mx absI; omega
end Locg

namespace Locg
/-- 1, 2, .., n. -/
def upto : Nat → List Int
  | 0 => []
  | n + 1 => ((n : Int) + 1) :: upto n
def resS (p r : Int) : Nat → Int → Int
  | 0, _ => -1
  | d + 1, x => if x ≤ p.tdiv 2 then (if (x * x).tmod p = r then 1 else resS p r d (x + 1)) else -1
def resR (p r : Int) : Int := if r = 0 then 0 else resS p r p.toNat 1
/-- The residue's sign. -/
def res (p u : Int) : Int := resR p (u % p)
end Locg

namespace Locg
open Go.RowKit Go.Proofs.YtihadpckmcebgaaW.PrintWords Go.Proofs.YtihadpckmcebgaaW.PrintMore

def par (x : Int) : Nat := (x % 2).toNat
/-- The class of a number that is not 0, at a place. -/
def code (p n : Int) : Nat := if p = 0 then (if n < 0 then 1 else 0) else if p = 2 then 4 * par (val 2 n) + (unit 2 n % 8).toNat / 2 else 2 * par (val p n) + (if res p (unit p n) = 1 then 0 else 1)
def hf (e : Nat) : Int := if e % 2 = 0 then 1 else -1
end Locg

namespace Locg
open Go.RowKit Go.Proofs.YtihadpckmcebgaaW.PrintWords Go.Proofs.YtihadpckmcebgaaW.PrintMore

def Sm (x : Int) : Prop := x ≠ 0 ∧ x.natAbs ≤ 30
def formOk (xs : List Int) : Bool := xs.all (fun x => decide (x ≠ 0) && decide (x.natAbs ≤ 30)) && (decide (1 ≤ xs.length) && decide (xs.length ≤ 4))
theorem formOk_iff {xs : List Int} : formOk xs = true ↔ (∀ x ∈ xs, Sm x) ∧ 1 ≤ xs.length ∧ xs.length ≤ 4 := by
  simp [formOk, Sm, and_assoc]
end Locg

namespace Locg
open Go.RowKit Go.Proofs.YtihadpckmcebgaaW.PrintWords Go.Proofs.YtihadpckmcebgaaW.PrintMore

end Locg

namespace Locg
open Go.RowKit Go.Proofs.YtihadpckmcebgaaW.PrintWords Go.Proofs.YtihadpckmcebgaaW.PrintMore

end Locg

namespace Locg
open Go.RowKit Go.Proofs.YtihadpckmcebgaaW.PrintWords Go.Proofs.YtihadpckmcebgaaW.PrintMore

end Locg

namespace Locg
open Go.RowKit Go.Proofs.YtihadpckmcebgaaW.PrintWords Go.Proofs.YtihadpckmcebgaaW.PrintMore

end Locg

namespace Locg
open Go.RowKit Go.Proofs.YtihadpckmcebgaaW.PrintWords

/-- A root by its bits. -/
def sqF (d n x : Nat) : Nat := Nat.rec (motive := fun _ => Nat → Nat) (fun x => x) (fun d ih x => bif Nat.ble (Nat.mul (Nat.add x (Nat.pow 2 d)) (Nat.add x (Nat.pow 2 d))) n then ih (Nat.add x (Nat.pow 2 d)) else ih x) d x
theorem sqF_spec (n : Nat) : ∀ (d x : Nat), x * x ≤ n → n < (x + 2 ^ d) * (x + 2 ^ d) → sqF d n x * sqF d n x ≤ n ∧ n < (sqF d n x + 1) * (sqF d n x + 1)
  | 0, x, h, h' => by simpa [sqF] using ⟨h, h'⟩
  | d + 1, x, h, h' => by
    have e : sqF (d + 1) n x = bif Nat.ble (Nat.mul (Nat.add x (Nat.pow 2 d)) (Nat.add x (Nat.pow 2 d))) n then sqF d n (Nat.add x (Nat.pow 2 d)) else sqF d n x := rfl
    rw [e]
    change _ ∧ _
    by_cases c : (x + 2 ^ d) * (x + 2 ^ d) ≤ n
    · have hb : Nat.ble (Nat.mul (Nat.add x (Nat.pow 2 d)) (Nat.add x (Nat.pow 2 d))) n = true := Nat.ble_eq_true_of_le c
      rw [hb]
      exact sqF_spec n d (x + 2 ^ d) c (by rw [show x + 2 ^ d + 2 ^ d = x + 2 ^ (d + 1) from by rw [Nat.pow_succ]; omega]; exact h')
    · have hb : Nat.ble (Nat.mul (Nat.add x (Nat.pow 2 d)) (Nat.add x (Nat.pow 2 d))) n = false := by
        rw [Bool.eq_false_iff]; intro h; exact c (Nat.le_of_ble_eq_true h)
      rw [hb]
      exact sqF_spec n d x h (by omega)
theorem sqF_eq {n : Nat} (d : Nat) (h : n < 2 ^ d * 2 ^ d) : sqF d n 0 = isqrt n := by
  obtain ⟨h1, h2⟩ := sqF_spec n d 0 (by omega) (by simpa using h)
  exact (isqrt_unique h1 h2).symm
def wayN (n x : Nat) : Nat := bif Nat.ble (Nat.mul x x) n then (bif Nat.beq (Nat.mul (sqF 6 (Nat.sub n (Nat.mul x x)) 0) (sqF 6 (Nat.sub n (Nat.mul x x)) 0)) (Nat.sub n (Nat.mul x x)) then Nat.mul (bif Nat.beq x 0 then 1 else 2) (bif Nat.beq (Nat.sub n (Nat.mul x x)) 0 then 1 else 2) else 0) else 0
def r2N (n : Nat) : Nat := Nat.rec (motive := fun _ => Nat) 0 (fun x ih => Nat.add ih (wayN n x)) 46
theorem ble_iff {a b : Nat} : Nat.ble a b = decide (a ≤ b) := by
  rw [Bool.eq_iff_iff, decide_eq_true_eq]; exact ⟨Nat.le_of_ble_eq_true, Nat.ble_eq_true_of_le⟩
theorem beq_iff {a b : Nat} : Nat.beq a b = decide (a = b) := by
  rw [Bool.eq_iff_iff, decide_eq_true_eq]; exact ⟨Nat.eq_of_beq_eq_true, fun h => by rw [h]; exact Nat.beq_refl b⟩
theorem wayN_eq {n x : Nat} (hn : n < 4096) : ((wayN n x : Nat) : Int) = if x * x ≤ n then wayW n x else 0 := by
  unfold wayN
  rw [ble_iff, beq_iff, beq_iff, beq_iff]
  change ((bif decide (x * x ≤ n) then (bif decide (sqF 6 (n - x * x) 0 * sqF 6 (n - x * x) 0 = n - x * x) then (bif decide (x = 0) then 1 else 2) * (bif decide (n - x * x = 0) then 1 else 2) else 0) else 0 : Nat) : Int) = _
  rw [sqF_eq (n := n - x * x) 6 (by omega)]
  by_cases c : x * x ≤ n
  · have e : ((n : Int) - (x : Int) * (x : Int)) = ((n - x * x : Nat) : Int) := by rw [Int.natCast_sub c]; simp
    have eq : isq ((n - x * x : Nat) : Int) = (isqrt (n - x * x) : Nat) := by simp [isq]
    have hs := isqrt_spec (n - x * x)
    simp only [decide_eq_true c, cond_true, if_pos c]
    unfold wayW
    rw [e, eq]
    by_cases c1 : isqrt (n - x * x) * isqrt (n - x * x) = n - x * x
    · have c1i : ((isqrt (n - x * x) : Nat) : Int) * ((isqrt (n - x * x) : Nat) : Int) = ((n - x * x : Nat) : Int) := by exact_mod_cast c1
      rw [if_pos c1i, decide_eq_true c1, cond_true]
      clear c1i e eq hs
      generalize isqrt (n - x * x) = s at c1
      generalize n - x * x = m at c1
      by_cases d1 : x = 0 <;> by_cases d2 : m = 0
      · obtain rfl : s = 0 := by rcases Nat.eq_zero_or_pos s with h | h
                                 · exact h
                                 · have := Nat.mul_pos h h; omega
        simp [d1, d2]
      · have : 0 < s := by rcases Nat.eq_zero_or_pos s with h | h
                           · subst h; omega
                           · exact h
        simp [d1, d2, this]
      · obtain rfl : s = 0 := by rcases Nat.eq_zero_or_pos s with h | h
                                 · exact h
                                 · have := Nat.mul_pos h h; omega
        have : 0 < x := by omega
        simp [d1, d2, this]
      · have : 0 < s := by rcases Nat.eq_zero_or_pos s with h | h
                           · subst h; omega
                           · exact h
        have : 0 < x := by omega
        simp [d1, d2, *]
    · have c1' : ¬ ((isqrt (n - x * x) : Nat) : Int) * ((isqrt (n - x * x) : Nat) : Int) = ((n - x * x : Nat) : Int) := fun h => c1 (by exact_mod_cast h)
      rw [if_neg c1', decide_eq_false c1, cond_false]; rfl
  · simp [c]
theorem r2from_snoc (n : Int) : ∀ (d : Nat) (x : Int), r2from n (d + 1) x = r2from n d x + wayW n (x + d)
  | 0, x => by simp [r2from]
  | d + 1, x => by
    have := r2from_snoc n d (x + 1)
    have e : x + ((d + 1 : Nat) : Int) = x + 1 + d := by omega
    simp only [r2from] at this ⊢
    rw [e]; omega
def r2P (n k : Nat) : Nat := Nat.rec (motive := fun _ => Nat) 0 (fun x ih => Nat.add ih (wayN n x)) k
theorem r2P_eq {n : Nat} (hn : n < 4096) : ∀ k, ((r2P n k : Nat) : Int) = r2from n (min k (isqrt n + 1)) 0
  | 0 => by simp only [Nat.zero_min]; rfl
  | k + 1 => by
    have e : r2P n (k + 1) = r2P n k + wayN n k := rfl
    have hs := isqrt_spec n
    rw [e, Int.natCast_add, r2P_eq hn k, wayN_eq hn]
    by_cases c : k * k ≤ n
    · have hk : k ≤ isqrt n := by
        rcases Nat.lt_or_ge (isqrt n) k with h | h
        · have := Nat.mul_le_mul (show isqrt n + 1 ≤ k from h) (show isqrt n + 1 ≤ k from h); omega
        · exact h
      rw [if_pos c, show min (k + 1) (isqrt n + 1) = k + 1 from by omega, show min k (isqrt n + 1) = k from by omega, r2from_snoc]
      simp
    · have hk : isqrt n < k := by
        rcases Nat.lt_or_ge (isqrt n) k with h | h
        · exact h
        · have := Nat.mul_le_mul h h; omega
      rw [if_neg c, show min (k + 1) (isqrt n + 1) = isqrt n + 1 from by omega, show min k (isqrt n + 1) = isqrt n + 1 from by omega]
      simp
theorem r2N_eq {n : Nat} (hn : n < 2116) : r2 n = (r2N n : Nat) := by
  have h := r2P_eq (n := n) (by omega) 46
  have hs := isqrt_spec n
  have hk : isqrt n + 1 ≤ 46 := by
    rcases Nat.lt_or_ge (isqrt n) 46 with h | h
    · exact h
    · have := Nat.mul_le_mul h h; omega
  rw [show min 46 (isqrt n + 1) = isqrt n + 1 from by omega] at h
  change r2 n = ((r2P n 46 : Nat) : Int)
  rw [h]
  unfold r2
  congr 1

/-- The sum of the divisors up to k that 4 does not divide. -/
def s4 (n k : Nat) : Nat := Nat.rec (motive := fun _ => Nat) 0 (fun d ih => Nat.add ih (bif Nat.beq (Nat.mod n (Nat.succ d)) 0 then (bif Nat.beq (Nat.mod (Nat.succ d) 4) 0 then 0 else Nat.succ d) else 0)) k
end Locg

namespace Locg
open Go.RowKit Go.Proofs.YtihadpckmcebgaaW.PrintWords Go.Proofs.YtihadpckmcebgaaW.PrintMore

/-- The value of a form at a vector. -/
def qv : List Int → List Int → Int
  | x :: xs, v :: vs => x * v * v + qv xs vs
  | _, _ => 0
end Locg

namespace Locg
open Go.RowKit Go.Proofs.YtihadpckmcebgaaW.PrintWords Go.Proofs.YtihadpckmcebgaaW.PrintMore

def trial (n : Int) : Nat → Int → Bool
  | 0, _ => true
  | d + 1, x => if x * x ≤ n then (if n.tmod x = 0 then false else trial n d (x + 1)) else true
end Locg

namespace Locg
open Go.RowKit Go.Proofs.YtihadpckmcebgaaW.PrintWords Go.Proofs.YtihadpckmcebgaaW.PrintMore

end Locg

namespace Locg
open Go.RowKit Go.Proofs.YtihadpckmcebgaaW.PrintWords Go.Proofs.YtihadpckmcebgaaW.PrintMore

end Locg

namespace Locg
open Go.RowKit Go.Proofs.YtihadpckmcebgaaW.PrintWords Go.Proofs.YtihadpckmcebgaaW.PrintMore

theorem qv_app : ∀ (xs vs : List Int) (t d : Int), xs.length = vs.length → qv (xs ++ [t]) (vs ++ [d]) = qv xs vs + t * d * d
  | [], [], t, d, _ => by simp [qv]
  | x :: xs, v :: vs, t, d, h => by
    simp only [List.cons_append, qv, qv_app xs vs t d (by simpa using h)]; omega
end Locg
