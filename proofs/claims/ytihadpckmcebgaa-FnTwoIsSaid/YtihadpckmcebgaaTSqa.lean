/- Plain arithmetic: squares told by all places; numbers without square divisors. -/
import Derived.Test.YtihadpckmcebgaaTPls
set_option linter.unusedVariables false
set_option linter.unusedSimpArgs false
namespace Locg
open Go.RowKit Go.Proofs.YtihadpckmcebgaaW.PrintWords Go.Proofs.YtihadpckmcebgaaW.PrintMore

theorem prime_div : ∀ (k : Nat) (n : Int), n.toNat ≤ k → 1 < n → ∃ q, PrimeL q ∧ q ∣ n := by
  intro k
  induction k with
  | zero => intro n h h1; omega
  | succ k ih =>
    intro n h h1
    by_cases c : PrimeL n
    · exact ⟨n, c, Int.dvd_refl n⟩
    · have : ∃ r : Int, 2 ≤ r ∧ r ∣ n ∧ r ≠ n := by
        apply Classical.byContradiction
        intro hno
        apply c
        refine ⟨by omega, fun r h2 hd => ?_⟩
        apply Classical.byContradiction
        intro hne
        exact hno ⟨r, h2, hd, hne⟩
      obtain ⟨r, r1, r2, r3⟩ := this
      have hle := Int.le_of_dvd (by omega) r2
      obtain ⟨q, q1, q2⟩ := ih r (by omega) (by omega)
      exact ⟨q, q1, Int.dvd_trans q2 r2⟩
theorem mul_natAbs_le {a b : Int} (hb : b ≠ 0) : a.natAbs ≤ (a * b).natAbs := by rw [Int.natAbs_mul]; exact Nat.le_mul_of_pos_right _ (by omega)
/-- A positive number all of whose valuations are even is a square. -/
theorem sq_of_even : ∀ (k : Nat) (n : Int), n.toNat ≤ k → 0 < n → n.natAbs < 2 ^ 63 → (∀ q, PrimeL q → q ∣ n → q ≤ 5000 ∧ par (val q n) = 0) → ∃ m, m ≠ 0 ∧ n = m * m := by
  intro k
  induction k with
  | zero => intro n h h1; omega
  | succ k ih =>
    intro n h h1 hN hq
    by_cases c : n = 1
    · exact ⟨1, by omega, by omega⟩
    · obtain ⟨q, q1, q2⟩ := prime_div n.toNat n (Nat.le_refl _) (by omega)
      obtain ⟨q5, qv⟩ := hq q q1 q2
      have hq2 := q1.1
      obtain ⟨v1, v2, v3, v4, v5, v6, v7⟩ := val_spec hq2 (show n ≠ 0 by omega) hN
      have hv : 2 ≤ (val q n).toNat := by
        have hp := par_cases (val q n)
        rcases Nat.lt_or_ge (val q n).toNat 1 with h0 | h0
        · exfalso
          rw [show (val q n).toNat = 0 by omega, Int.pow_zero, Int.one_mul] at v1
          rw [← v1] at v2
          exact v2 (Int.tmod_eq_zero_of_dvd q2)
        · omega
      have e : n = (q ^ ((val q n).toNat - 2) * unit q n) * q * q := by
        conv => lhs; rw [v1, pow_split hv]
        rw [show q ^ 2 = q * q from by rw [Int.pow_succ, Int.pow_succ, Int.pow_zero, Int.one_mul]]
        grind
      generalize hm : q ^ ((val q n).toNat - 2) * unit q n = m at e
      have hm0 : 0 < m := by
        rw [← hm]; exact Int.mul_pos (Int.pow_pos (by omega)) (v7 h1)
      have hmm : m * q * q = n := e.symm
      have hmq : 2 * m ≤ m * q := by have := Int.mul_le_mul_of_nonneg_left hq2 (show 0 ≤ m by omega); omega
      have hmq2 : m * q ≤ m * q * q := by have := Int.mul_le_mul_of_nonneg_left (show 1 ≤ q by omega) (show 0 ≤ m * q by omega); omega
      have place : ∀ r, PrimeL r → r ≤ 5000 → r = 2 ∨ OddP r := fun r h1 h5 => by
        have := h1.1
        by_cases c : r = 2
        · exact Or.inl c
        · exact Or.inr ⟨h1, by omega, h5⟩
      obtain ⟨x, x0, hx⟩ := ih m (by omega) hm0 (by omega) (fun r r1 r2 => by
        obtain ⟨r5, rv⟩ := hq r r1 (by rw [e, Int.mul_assoc]; exact Int.dvd_trans r2 (Int.dvd_mul_right _ _))
        refine ⟨r5, ?_⟩
        have hr := place r r1 r5
        have e1 := (val_mul hr (show m * q ≠ 0 by omega) (show q ≠ 0 by omega) (by rw [hmm]; exact hN)).1
        have e2 := (val_mul hr (show m ≠ 0 by omega) (show q ≠ 0 by omega) (by omega)).1
        rw [hmm, e2] at e1
        generalize val r m = a at e1 ⊢
        generalize val r q = b at e1
        rw [e1] at rv
        unfold par at rv ⊢; omega)
      exact ⟨x * q, Int.mul_ne_zero x0 (by omega), by rw [← hmm, hx]; grind⟩
theorem par_of_code {p n : Int} (h : p = 2 ∨ OddP p) (hc : code p n = 0) : par (val p n) = 0 := by
  have h2 := P7_bd h
  unfold code at hc
  rw [if_neg (by omega)] at hc
  by_cases c : p = 2
  · rw [if_pos c] at hc; subst c; omega
  · rw [if_neg c] at hc; omega
/-- A number of the class of 1 at all its places is a square. -/
theorem sq_places {n : Int} (hn : n ≠ 0) (hN : n.natAbs < 2 ^ 63) (h0 : code 0 n = 0) (hq : ∀ q, PrimeL q → q ∣ n → q ≤ 5000 ∧ code q n = 0) : ∃ m, m ≠ 0 ∧ n = m * m := by
  have hpos : 0 < n := by
    rw [code0] at h0
    by_cases c : n < 0
    · rw [if_pos c] at h0; omega
    · omega
  refine sq_of_even n.toNat n (Nat.le_refl _) hpos hN (fun q q1 q2 => ?_)
  obtain ⟨q5, qc⟩ := hq q q1 q2
  have := q1.1
  refine ⟨q5, par_of_code ?_ qc⟩
  by_cases c : q = 2
  · exact Or.inl c
  · exact Or.inr ⟨q1, by omega, q5⟩
theorem code_square {p m : Int} (h : Plc p) (hm : m ≠ 0) (hN : (m * m).natAbs < 2 ^ 63) : code p (m * m) = 0 := by
  rw [code_mul h hm hm hN, Nat.xor_self]
/-- No square but 1 divides. -/
def SqFree (c : Int) : Prop := c ≠ 0 ∧ ∀ d : Int, 2 ≤ d → ¬ d * d ∣ c
theorem core_half {c c' s s' : Int} (hc : SqFree c) (hs' : 1 ≤ s') (hg : Int.gcd s s' = 1) (e : c * (s * s) = c' * (s' * s')) : s' = 1 := by
  have hd : s' * s' ∣ c * (s * s) := by rw [e]; exact Int.dvd_mul_left _ _
  have h1 : (s'.natAbs * s'.natAbs) ∣ c.natAbs * (s.natAbs * s.natAbs) := by
    rw [← Int.natAbs_mul, ← Int.natAbs_mul, ← Int.natAbs_mul]; exact Int.natAbs_dvd_natAbs.2 hd
  have hcop : Nat.Coprime s'.natAbs s.natAbs := by
    unfold Nat.Coprime; rw [Nat.gcd_comm]; exact hg
  have h2 : Nat.Coprime (s'.natAbs * s'.natAbs) (s.natAbs * s.natAbs) := by
    exact Nat.Coprime.mul_left (Nat.Coprime.mul_right hcop hcop) (Nat.Coprime.mul_right hcop hcop)
  have h3 := Nat.Coprime.dvd_of_dvd_mul_right h2 h1
  have h4 : s' * s' ∣ c := by
    rw [← Int.natAbs_dvd_natAbs, Int.natAbs_mul]; exact h3
  rcases Int.lt_or_le 1 s' with h | h
  · exact absurd h4 (hc.2 s' (by omega))
  · omega
/-- Core and root are told by their product. -/
theorem core_unique {c c' r r' : Int} (hc : SqFree c) (hc' : SqFree c') (hr : 1 ≤ r) (hr' : 1 ≤ r') (e : c * (r * r) = c' * (r' * r')) : c = c' ∧ r = r' := by
  have hg0 : 0 < Int.gcd r r' := Int.gcd_pos_of_ne_zero_left _ (by omega)
  obtain ⟨s, hs⟩ := Int.gcd_dvd_left r r'
  obtain ⟨s', hs'⟩ := Int.gcd_dvd_right r r'
  generalize hgg : Int.gcd r r' = g at hg0 hs hs'
  have hg1 : (0 : Int) < (g : Int) := by omega
  have hs1 : 1 ≤ s := by
    rcases Int.lt_or_le 0 s with h | h
    · omega
    · have := Int.mul_nonneg (show 0 ≤ (g : Int) by omega) (show 0 ≤ -s by omega); rw [Int.mul_neg] at this; omega
  have hs1' : 1 ≤ s' := by
    rcases Int.lt_or_le 0 s' with h | h
    · omega
    · have := Int.mul_nonneg (show 0 ≤ (g : Int) by omega) (show 0 ≤ -s' by omega); rw [Int.mul_neg] at this; omega
  have hcop : Int.gcd s s' = 1 := by
    have h1 : Int.gcd ((g : Int) * s) ((g : Int) * s') = g * Int.gcd s s' := by rw [Int.gcd_mul_left]; simp
    rw [← hs, ← hs', hgg] at h1
    exact Nat.eq_of_mul_eq_mul_left hg0 (by omega)
  have e2 : c * (s * s) = c' * (s' * s') := by
    have hgg0 : ((g : Int) * (g : Int)) ≠ 0 := Int.mul_ne_zero (by omega) (by omega)
    apply Int.eq_of_mul_eq_mul_left hgg0
    rw [hs, hs'] at e
    grind
  have q1 := core_half hc hs1' hcop e2
  have q2 := core_half hc' hs1 (by rw [Int.gcd_comm]; exact hcop) e2.symm
  subst q1; subst q2
  refine ⟨by simpa using e2, by rw [hs, hs']⟩
/-- Cores whose product is a square are one. -/
theorem core_same {c c' k : Int} (hc : SqFree c) (hc' : SqFree c') (e : c * c' = k * k) : c = c' := by
  have hk : k ≠ 0 := by intro h; rw [h] at e; exact Int.mul_ne_zero hc.1 hc'.1 (by simpa using e)
  have hkk : ((k.natAbs : Int)) * (k.natAbs : Int) = k * k := by rw [← Int.natCast_mul]; exact Int.natAbs_mul_self
  have hcc : ((c'.natAbs : Int)) * (c'.natAbs : Int) = c' * c' := by rw [← Int.natCast_mul]; exact Int.natAbs_mul_self
  have := core_unique (c := c') (c' := c) (r := (k.natAbs : Int)) (r' := (c'.natAbs : Int)) hc' hc (by omega) (by have := hc'.1; omega) (by rw [hkk, hcc, ← e]; grind)
  exact this.1.symm
end Locg
