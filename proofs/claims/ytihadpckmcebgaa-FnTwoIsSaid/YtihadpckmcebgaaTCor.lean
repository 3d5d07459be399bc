/- Plain arithmetic: cores. -/
import Derived.Test.YtihadpckmcebgaaTSqa
set_option linter.unusedVariables false
set_option linter.unusedSimpArgs false
namespace Locg
open Go.RowKit Go.Proofs.YtihadpckmcebgaaW.PrintWords Go.Proofs.YtihadpckmcebgaaW.PrintMore

/-- A number is its core times the square of its root part. -/
def IsCore (n c r : Int) : Prop := n = c * (r * r) ∧ 1 ≤ r ∧ SqFree c
theorem core_uni {n c r c' r' : Int} (h : IsCore n c r) (h' : IsCore n c' r') : c = c' ∧ r = r' := core_unique h.2.2 h'.2.2 h.2.1 h'.2.1 (by rw [← h.1, ← h'.1])
def coreW (q : Int) : Nat → Int → Int → Int × Int
  | 0, n, r => (n, r)
  | d + 1, n, r => if n.tmod (q * q) = 0 then coreW q d (n.tdiv (q * q)) (r * q) else (n, r)
def coreLs : List Int → Int → Int → Int × Int
  | [], n, r => (n, r)
  | q :: qs, n, r => coreLs qs (coreW q 64 n r).1 (coreW q 64 n r).2
/-- The core and the root part. -/
def coreF (n : Int) : Int × Int := coreLs (primes n) n 1
def core (n : Int) : Int := (coreF n).1
theorem sq_div {q n : Int} (hq : 2 ≤ q) (hn : n ≠ 0) (h : n.tmod (q * q) = 0) : n.tdiv (q * q) ≠ 0 ∧ n = n.tdiv (q * q) * (q * q) ∧ 4 * (n.tdiv (q * q)).natAbs ≤ n.natAbs := by
  have hqq : 4 ≤ q * q := by have := sq_le (show (0 : Int) ≤ 2 by omega) hq; omega
  have t := tdiv_abs (show 2 ≤ q * q by omega) hn h
  refine ⟨t.1, by rw [Int.mul_comm]; exact t.2.1, ?_⟩
  have e := t.2.1
  have : n.natAbs = (q * q).natAbs * (n.tdiv (q * q)).natAbs := by rw [← Int.natAbs_mul, ← e]
  rw [this]
  exact Nat.mul_le_mul_right _ (by omega)
theorem coreW_spec {q : Int} (hq : 2 ≤ q) : ∀ (d : Nat) (n r : Int), n ≠ 0 → n.natAbs < 2 ^ d → 1 ≤ r →
    (coreW q d n r).1 ≠ 0 ∧ 1 ≤ (coreW q d n r).2 ∧ n * (r * r) = (coreW q d n r).1 * ((coreW q d n r).2 * (coreW q d n r).2) ∧ (coreW q d n r).1 ∣ n ∧ ¬ q * q ∣ (coreW q d n r).1 := by
  intro d
  induction d with
  | zero => intro n r hn h; simp at h; omega
  | succ d ih =>
    intro n r hn h hr
    simp only [coreW]
    by_cases c : n.tmod (q * q) = 0
    · rw [if_pos c]
      obtain ⟨h1, h2, h3⟩ := sq_div hq hn c
      have hrq : 1 ≤ r * q := by have := Int.mul_le_mul hr (show (1 : Int) ≤ q by omega) (by omega) (by omega); omega
      obtain ⟨g1, g2, g3, g4, g5⟩ := ih (n.tdiv (q * q)) (r * q) h1 (by rw [Nat.pow_succ] at h; omega) hrq
      refine ⟨g1, g2, ?_, Int.dvd_trans g4 ⟨q * q, h2⟩, g5⟩
      rw [← g3]
      conv => lhs; rw [h2]
      grind
    · rw [if_neg c]
      exact ⟨hn, hr, rfl, Int.dvd_refl n, fun hd => c (Int.tmod_eq_zero_of_dvd hd)⟩
theorem coreLs_spec : ∀ (qs : List Int) (n r : Int), (∀ q ∈ qs, 2 ≤ q) → n ≠ 0 → n.natAbs < 2 ^ 63 → 1 ≤ r →
    (coreLs qs n r).1 ≠ 0 ∧ 1 ≤ (coreLs qs n r).2 ∧ n * (r * r) = (coreLs qs n r).1 * ((coreLs qs n r).2 * (coreLs qs n r).2) ∧ (coreLs qs n r).1 ∣ n ∧ ∀ q ∈ qs, ¬ q * q ∣ (coreLs qs n r).1
  | [], n, r, _, hn, _, hr => ⟨hn, hr, rfl, Int.dvd_refl n, by simp⟩
  | q :: qs, n, r, hq, hn, hN, hr => by
    obtain ⟨g1, g2, g3, g4, g5⟩ := coreW_spec (hq q (by simp)) 64 n r hn (by omega) hr
    have hle : (coreW q 64 n r).1.natAbs ≤ n.natAbs := Nat.le_of_dvd (by omega) (Int.natAbs_dvd_natAbs.2 g4)
    obtain ⟨f1, f2, f3, f4, f5⟩ := coreLs_spec qs (coreW q 64 n r).1 (coreW q 64 n r).2 (fun x hx => hq x (by simp [hx])) g1 (by omega) g2
    simp only [coreLs]
    refine ⟨f1, f2, by rw [g3, f3], Int.dvd_trans f4 g4, fun x hx => ?_⟩
    rcases List.mem_cons.1 hx with e | e
    · subst e; exact fun hd => g5 (Int.dvd_trans hd f4)
    · exact f5 x e
theorem coreF_is {n : Int} (hn : n ≠ 0) (hN : n.natAbs < 2 ^ 63) : IsCore n (coreF n).1 (coreF n).2 := by
  obtain ⟨h1, h2, h3, h4, h5⟩ := coreLs_spec (primes n) n 1 (fun q hq => primes_ge hq) hn hN (by omega)
  refine ⟨by have := h3; simp only [Int.mul_one] at this; exact this, h2, h1, fun d hd hdd => ?_⟩
  obtain ⟨q, q1, q2⟩ := prime_div d.toNat d (Nat.le_refl _) (by omega)
  have hqn : q ∣ n := Int.dvd_trans (Int.dvd_trans q2 (Int.dvd_mul_right d d)) (Int.dvd_trans hdd h4)
  exact h5 q ((primes_iff hn hN).2 ⟨q1, hqn⟩) (Int.dvd_trans (Int.mul_dvd_mul q2 q2) hdd)
theorem core_is {n c r : Int} (hn : n ≠ 0) (hN : n.natAbs < 2 ^ 63) (h : IsCore n c r) : coreF n = (c, r) := by
  have := core_uni (coreF_is hn hN) h
  exact Prod.ext this.1 this.2
theorem core_le {n c r : Int} (h : IsCore n c r) : c.natAbs ≤ n.natAbs ∧ r.natAbs * r.natAbs ≤ n.natAbs := by
  have h1 := h.2.1
  have h0 : 0 < r.natAbs := by omega
  have hc := h.2.2.1
  rw [h.1, Int.natAbs_mul, Int.natAbs_mul]
  refine ⟨Nat.le_mul_of_pos_right _ (Nat.mul_pos h0 h0), Nat.le_mul_of_pos_left _ (by omega)⟩
theorem core_neg {n : Int} (hn : n ≠ 0) (hN : n.natAbs < 2 ^ 63) : coreF (-n) = (-(coreF n).1, (coreF n).2) := by
  have h := coreF_is hn hN
  refine core_is (by omega) (by omega) ⟨by rw [Int.neg_mul, ← h.1], h.2.1, ?_, fun d hd hdd => h.2.2.2 d hd (Int.dvd_neg.1 hdd)⟩
  have := h.2.2.1; omega
/-- The core of a core. -/
theorem core_core {n : Int} (hn : n ≠ 0) (hN : n.natAbs < 2 ^ 63) : coreF (coreF n).1 = ((coreF n).1, 1) := by
  have h := coreF_is hn hN
  have := core_le h
  exact core_is h.2.2.1 (by omega) ⟨by omega, by omega, h.2.2⟩
/-- Where a product is a square, the cores are one. -/
theorem core_eq {n m k : Int} (hn : n ≠ 0) (hN : n.natAbs < 2 ^ 63) (hm : m ≠ 0) (hM : m.natAbs < 2 ^ 63) (h : n * m = k * k) : (coreF n).1 = (coreF m).1 := by
  have a := coreF_is hn hN
  have b := coreF_is hm hM
  generalize (coreF n).1 = c at a ⊢
  generalize (coreF n).2 = r at a
  generalize (coreF m).1 = c' at b ⊢
  generalize (coreF m).2 = r' at b
  have e : c * c' * ((r * r') * (r * r')) = k * k := by rw [← h, a.1, b.1]; grind
  have hr : 1 ≤ r * r' := by have := Int.mul_le_mul a.2.1 b.2.1 (by omega) (by have := a.2.1; omega); omega
  have hd : (r * r') * (r * r') ∣ k * k := ⟨c * c', by rw [← e]; grind⟩
  have hd2 : r * r' ∣ k := by
    rw [← Int.natAbs_dvd_natAbs]
    have := Int.natAbs_dvd_natAbs.2 hd
    rw [Int.natAbs_mul, Int.natAbs_mul k k] at this
    rw [← Nat.pow_two, ← Nat.pow_two] at this
    exact (Nat.pow_dvd_pow_iff (by omega)).1 this
  obtain ⟨j, hj⟩ := hd2
  have e2 : c * c' = j * j := by
    have h0 : (r * r') * (r * r') ≠ 0 := Int.mul_ne_zero (by omega) (by omega)
    apply Int.eq_of_mul_eq_mul_left h0
    rw [hj] at e; grind
  exact core_same a.2.2 b.2.2 e2

end Locg
