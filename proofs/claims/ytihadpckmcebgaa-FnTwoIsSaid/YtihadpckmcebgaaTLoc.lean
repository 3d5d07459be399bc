/- Plain arithmetic: classes at a place, symbols, for each prime up to 5000. -/
import Derived.Test.YtihadpckmcebgaaTEul
set_option linter.unusedVariables false
set_option linter.unusedSimpArgs false
namespace Locg
open Go.RowKit Go.Proofs.YtihadpckmcebgaaW.PrintWords Go.Proofs.YtihadpckmcebgaaW.PrintMore

/-- A place: 0, 2, or an odd prime up to 5000. -/
def Plc (p : Int) : Prop := p = 0 ∨ p = 2 ∨ OddP p
theorem prime2 : PrimeL 2 := ⟨by omega, fun r h hd => by have := Int.le_of_dvd (by omega) hd; omega⟩
theorem two_prime {p : Int} (h : p = 2 ∨ OddP p) : PrimeL p := by rcases h with rfl | h; exact prime2; exact h.1
theorem mod_range {p u : Int} (h : 1 ≤ p) : ∃ r ∈ List.range p.toNat, u % p = (r : Int) := by
  refine ⟨(u % p).toNat, ?_, ?_⟩
  · have := Int.emod_nonneg u (show p ≠ 0 by omega); have := Int.emod_lt_of_pos u (show 0 < p by omega)
    rw [List.mem_range]; omega
  · have := Int.emod_nonneg u (show p ≠ 0 by omega); omega
theorem rest_eq (a : Int) {m : Int} (h : 0 < m) : Int.tmod (Int.tmod a m + m) m = a % m := by
  have h1 := Int.tmod_lt_of_pos a h
  have h2 : -m < Int.tmod a m := by
    rcases Int.le_total 0 a with c | c
    · have := Int.tmod_nonneg m c; omega
    · have e : a = -(-a) := by omega
      rw [e, Int.neg_tmod]; have := Int.tmod_lt_of_pos (-a) h; omega
  rw [Int.tmod_eq_emod_of_nonneg (by omega)]
  have e : a % m = (Int.tmod a m + m) % m := by
    have := Int.mul_tdiv_add_tmod a m
    rw [Int.add_emod_right]
    conv => lhs; rw [← this]
    rw [Int.mul_add_emod_self_left]
  exact e.symm
theorem tmod_ne {a p : Int} (h : a.tmod p ≠ 0) : a % p ≠ 0 := fun h' => h (Int.tmod_eq_zero_of_dvd (Int.dvd_of_emod_eq_zero h'))
theorem tmod_of_ne {a p : Int} (h : a % p ≠ 0) : a.tmod p ≠ 0 := fun h' => h (Int.emod_eq_zero_of_dvd (Int.dvd_of_tmod_eq_zero h'))

def par (x : Int) : Nat := (x % 2).toNat
/-- The class of a number that is not 0, at a place. -/
def code (p n : Int) : Nat := if p = 0 then (if n < 0 then 1 else 0) else if p = 2 then 4 * par (val 2 n) + (unit 2 n % 8).toNat / 2 else 2 * par (val p n) + (if res p (unit p n) = 1 then 0 else 1)
def sqAt (n p : Int) : Bool := code p n == 0
def hf (e : Nat) : Int := if e % 2 = 0 then 1 else -1
def symC (p : Int) (c d : Nat) : Int :=
  if p = 0 then (if c = 1 ∧ d = 1 then -1 else 1)
  else if p = 2 then hf (c % 4 * (d % 4) + c / 4 * ((d % 4) * (d % 4 + 1) / 2) + d / 4 * ((c % 4) * (c % 4 + 1) / 2))
  else (if c / 2 = 1 ∧ d / 2 = 1 ∧ p % 4 = 3 then -1 else 1) * (if d / 2 = 1 then (if c % 2 = 0 then 1 else -1) else 1) * (if c / 2 = 1 then (if d % 2 = 0 then 1 else -1) else 1)
def sym (a b p : Int) : Int := symC p (code p a) (code p b)
theorem par_cases (x : Int) : (par x = 0 ∧ x % 2 = 0) ∨ (par x = 1 ∧ x % 2 = 1) := by unfold par; omega
theorem code_zero {n : Int} (hn : n ≠ 0) : sqAt n 0 = decide (n > 0) := by
  unfold sqAt code
  by_cases h : n < 0
  · simp [h]; omega
  · simp [h]; omega
theorem hf_pm (e : Nat) : hf e = 1 ∨ hf e = -1 := by unfold hf; split <;> simp
theorem symC_pm (p : Int) (c d : Nat) : symC p c d = 1 ∨ symC p c d = -1 := by
  unfold symC
  split
  · split <;> simp
  · split
    · exact hf_pm _
    · repeat' split
      all_goals simp
theorem sym_pm (a b p : Int) : sym a b p = 1 ∨ sym a b p = -1 := symC_pm _ _ _
theorem symC_comm {p : Int} {c d : Nat} : symC p c d = symC p d c := by
  unfold symC
  split
  · simp only [and_comm]
  · split
    · congr 1; rw [Nat.mul_comm (c % 4) (d % 4)]; omega
    · rw [Int.mul_right_comm]; congr 2
      simp only [← and_assoc, and_comm]
theorem sym_comm (a b p : Int) : sym a b p = sym b a p := symC_comm
/-- The class of 2: the unit is odd. -/
theorem unit2 {n : Int} (hn : n ≠ 0) (h : n.natAbs < 2 ^ 63) : unit 2 n % 8 = 1 ∨ unit 2 n % 8 = 3 ∨ unit 2 n % 8 = 5 ∨ unit 2 n % 8 = 7 := by
  have := tmod_ne (val_spec (p := 2) (by omega) hn h).2.1
  omega
/-- A power of p, times what p does not divide. -/
theorem val_pow {p u : Int} (hp : 2 ≤ p) (hu : u.tmod p ≠ 0) : ∀ (k : Nat), (p ^ k * u).natAbs < 2 ^ 63 → val p (p ^ k * u) = k ∧ unit p (p ^ k * u) = u
  | 0, _ => by have := val_of_not hu; simpa using this
  | k + 1, h => by
    have hu0 : u ≠ 0 := by intro h0; subst h0; simp at hu
    have e : p ^ (k + 1) * u = p * (p ^ k * u) := by rw [Int.pow_succ, Int.mul_comm (p ^ k) p, Int.mul_assoc]
    have hk0 : p ^ k * u ≠ 0 := Int.mul_ne_zero (by have := Int.pow_pos (n := p) (m := k) (by omega); omega) hu0
    have hle : (p ^ k * u).natAbs ≤ (p ^ (k + 1) * u).natAbs := by
      have h1 : (p * (p ^ k * u)).natAbs = p.natAbs * (p ^ k * u).natAbs := Int.natAbs_mul _ _
      rw [e, h1]; exact Nat.le_mul_of_pos_left _ (by omega)
    have ih := val_pow hp hu k (Nat.lt_of_le_of_lt hle h)
    have hd : (p * (p ^ k * u)).tdiv p = p ^ k * u := Int.mul_tdiv_cancel_left _ (by omega)
    have hm : (p * (p ^ k * u)).tmod p = 0 := Int.mul_tmod_right _ _
    have := val_of_dvd hp (n := p * (p ^ k * u)) (Int.mul_ne_zero (show p ≠ 0 by omega) hk0) (by rw [← e]; exact h) hm
    rw [hd, ih.1, ih.2] at this
    rw [e]; exact ⟨by rw [this.1]; simp, this.2⟩
theorem P7_bd {p : Int} (h : p = 2 ∨ OddP p) : 2 ≤ p := by
  rcases h with h | h
  · omega
  · have := h.2.1; omega
theorem P7_hi {p : Int} (h : p = 2 ∨ OddP p) : p ≤ 5000 := by
  rcases h with h | h
  · omega
  · exact h.2.2
theorem val_mul {p a b : Int} (h : p = 2 ∨ OddP p) (ha : a ≠ 0) (hb : b ≠ 0) (hab : (a * b).natAbs < 2 ^ 63) :
    val p (a * b) = val p a + val p b ∧ unit p (a * b) = unit p a * unit p b := by
  have hp := P7_bd h
  have la : a.natAbs ≤ (a * b).natAbs := by rw [Int.natAbs_mul]; exact Nat.le_mul_of_pos_right _ (by omega)
  have lb : b.natAbs ≤ (a * b).natAbs := by rw [Int.natAbs_mul]; exact Nat.le_mul_of_pos_left _ (by omega)
  obtain ⟨a1, a2, a3, _⟩ := val_spec hp ha (by omega)
  obtain ⟨b1, b2, b3, _⟩ := val_spec hp hb (by omega)
  have e : a * b = p ^ ((val p a).toNat + (val p b).toNat) * (unit p a * unit p b) := by
    rw [Int.pow_add]
    conv => lhs; rw [a1, b1]
    rw [Int.mul_assoc, Int.mul_assoc, Int.mul_left_comm (unit p a)]
  have hnz : (unit p a * unit p b).tmod p ≠ 0 := by
    intro h0
    rcases prime_mul (two_prime h) (Int.dvd_of_tmod_eq_zero h0) with h1 | h1
    · exact a2 (Int.tmod_eq_zero_of_dvd h1)
    · exact b2 (Int.tmod_eq_zero_of_dvd h1)
  have := val_pow hp hnz ((val p a).toNat + (val p b).toNat) (by rw [← e]; exact hab)
  rw [← e] at this
  exact ⟨by rw [this.1]; omega, this.2⟩
theorem code_lt (p n : Int) (hn : n ≠ 0) (h : n.natAbs < 2 ^ 63) : code p n < 8 := by
  unfold code
  have := par_cases (val 2 n); have := par_cases (val p n)
  split
  · split <;> omega
  · split
    · have := unit2 hn h; omega
    · split <;> omega
theorem code_lt2 (n : Int) : code 0 n < 2 := by unfold code; simp only [if_true]; split <;> omega
theorem code_lt4 (p n : Int) (h0 : p ≠ 0) (h2 : p ≠ 2) : code p n < 4 := by
  unfold code
  rw [if_neg h0, if_neg h2]
  have := par_cases (val p n)
  split <;> omega
theorem xor_tab : ∀ i ∈ List.range 2, ∀ j ∈ List.range 2, ∀ x ∈ [1, 3, 5, 7], ∀ y ∈ [1, 3, 5, 7], 4 * ((i + j) % 2) + (x * y % 8) / 2 = (4 * i + x / 2) ^^^ (4 * j + y / 2) := by decide
theorem xor_tab4 : ∀ i ∈ List.range 2, ∀ j ∈ List.range 2, ∀ x ∈ List.range 2, ∀ y ∈ List.range 2, 2 * ((i + j) % 2) + ((x + y) % 2) = (2 * i + x) ^^^ (2 * j + y) := by decide
theorem code_mul {p a b : Int} (h : Plc p) (ha : a ≠ 0) (hb : b ≠ 0) (hab : (a * b).natAbs < 2 ^ 63) : code p (a * b) = code p a ^^^ code p b := by
  have la : a.natAbs ≤ (a * b).natAbs := by rw [Int.natAbs_mul]; exact Nat.le_mul_of_pos_right _ (by omega)
  have lb : b.natAbs ≤ (a * b).natAbs := by rw [Int.natAbs_mul]; exact Nat.le_mul_of_pos_left _ (by omega)
  rcases h with rfl | h
  · unfold code
    simp only [if_true]
    rcases Int.lt_or_lt_of_ne ha with h1 | h1
    · rcases Int.lt_or_lt_of_ne hb with h2 | h2
      · have := Int.mul_pos_of_neg_of_neg h1 h2
        rw [if_neg (by omega), if_pos h1, if_pos h2]; rfl
      · have := Int.mul_neg_of_neg_of_pos h1 h2
        rw [if_pos this, if_pos h1, if_neg (by omega)]; rfl
    · rcases Int.lt_or_lt_of_ne hb with h2 | h2
      · have := Int.mul_neg_of_pos_of_neg h1 h2
        rw [if_pos this, if_neg (by omega), if_pos h2]; rfl
      · have := Int.mul_pos h1 h2
        rw [if_neg (by omega), if_neg (by omega), if_neg (by omega)]; rfl
  · have hv := val_mul h ha hb hab
    have hp := P7_bd h
    unfold code
    simp only [if_neg (show ¬ p = 0 by omega)]
    rcases h with rfl | h6
    · simp only [if_true]
      rw [hv.1, hv.2]
      have ua := unit2 ha (by omega)
      have ub := unit2 hb (by omega)
      have t := xor_tab (par (val 2 a)) (by have := par_cases (val 2 a); rw [List.mem_range]; omega) (par (val 2 b)) (by have := par_cases (val 2 b); rw [List.mem_range]; omega)
        (unit 2 a % 8).toNat (by simp only [List.mem_cons, List.not_mem_nil, or_false]; omega) (unit 2 b % 8).toNat (by simp only [List.mem_cons, List.not_mem_nil, or_false]; omega)
      rw [← t]
      have e1 : par (val 2 a + val 2 b) = (par (val 2 a) + par (val 2 b)) % 2 := by unfold par; omega
      have e2 : (unit 2 a * unit 2 b % 8).toNat = (unit 2 a % 8).toNat * (unit 2 b % 8).toNat % 8 := by
        rw [Int.mul_emod]
        rcases ua with h1 | h1 | h1 | h1 <;> rcases ub with h2 | h2 | h2 | h2 <;> rw [h1, h2] <;> rfl
      rw [e1, e2]
    · have h2 := h6.2
      simp only [if_neg (show ¬ p = 2 by omega)]
      rw [hv.1, hv.2, res_mul h6]
      have ra := res_pm h6 (tmod_ne (val_spec hp ha (by omega)).2.1)
      have rb := res_pm h6 (tmod_ne (val_spec hp hb (by omega)).2.1)
      have e1 : par (val p a + val p b) = (par (val p a) + par (val p b)) % 2 := by unfold par; omega
      rw [e1]
      have pa := par_cases (val p a)
      have pb := par_cases (val p b)
      have t := xor_tab4 (par (val p a)) (by rw [List.mem_range]; omega) (par (val p b)) (by rw [List.mem_range]; omega)
      rcases ra with h1 | h1 <;> rcases rb with h2 | h2 <;> rw [h1, h2]
      · exact t 0 (by decide) 0 (by decide)
      · exact t 0 (by decide) 1 (by decide)
      · exact t 1 (by decide) 0 (by decide)
      · exact t 1 (by decide) 1 (by decide)

end Locg
