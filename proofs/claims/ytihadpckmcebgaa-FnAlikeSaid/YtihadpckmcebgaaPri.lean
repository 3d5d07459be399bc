/- Plain arithmetic: the terms that are drawn, and their primes. -/
import Derived.Test.YtihadpckmcebgaaFrm
set_option linter.unusedVariables false
set_option linter.unusedSimpArgs false
namespace Locg
open Go.RowKit Go.Proofs.YtihadpckmcebgaaW.PrintWords Go.Proofs.YtihadpckmcebgaaW.PrintMore

def TT : List Int := [1, 2, 3, 5, 6, 7, 10, 12, 15, 4, 21, 30, 8, -1, -2, -3, -5, -6, -7, -10, -12, -15, -4, -21, -30, -8]
def PrimeL (q : Int) : Prop := 2 ≤ q ∧ ∀ r : Int, 2 ≤ r → r ∣ q → r = q
theorem TT_sm {x : Int} (h : x ∈ TT) : Sm x := by
  have : ∀ x ∈ TT, x ≠ 0 ∧ x.natAbs ≤ 30 := by decide +kernel
  exact this x h
theorem pl_prime : ∀ (d : Nat) (n p : Int), 2 ≤ p → 0 < n → n.natAbs < 2 ^ 63 → (∀ r : Int, 2 ≤ r → r < p → ¬ r ∣ n) → ∀ q ∈ pl d n p, q ∣ n ∧ PrimeL q := by
  intro d
  induction d with
  | zero => intro n p _ _ _ _ q hq; simp [pl] at hq
  | succ d ih =>
    intro n p hp hn hN hr q hq
    simp only [pl] at hq
    by_cases c : p * p ≤ n
    · rw [if_pos c] at hq
      by_cases c2 : n.tmod p = 0
      · rw [if_pos c2] at hq
        have hpn : p ∣ n := Int.dvd_of_tmod_eq_zero c2
        rcases List.mem_cons.1 hq with h | h
        · subst h
          refine ⟨hpn, hp, fun r h2 hd => ?_⟩
          have hle := Int.le_of_dvd (by omega) hd
          rcases Int.lt_or_eq_of_le hle with h | h
          · exact absurd (Int.dvd_trans hd hpn) (hr r h2 h)
          · exact h
        · have hv := val_spec hp (show n ≠ 0 by omega) hN
          have hud : unit p n ∣ n := ⟨p ^ (val p n).toNat, by rw [Int.mul_comm]; exact hv.1⟩
          have := ih (unit p n) (p + 1) (by omega) (hv.2.2.2.2.2.2 hn) (by omega) (fun r h2 h3 hd => by
            rcases Int.lt_or_eq_of_le (show r ≤ p by omega) with h4 | h4
            · exact hr r h2 h4 (Int.dvd_trans hd hud)
            · subst h4; exact hv.2.1 (Int.tmod_eq_zero_of_dvd hd)) q h
          exact ⟨Int.dvd_trans this.1 hud, this.2⟩
      · rw [if_neg c2] at hq
        exact ih n (p + 1) (by omega) hn hN (fun r h2 h3 hd => by
            rcases Int.lt_or_eq_of_le (show r ≤ p by omega) with h4 | h4
            · exact hr r h2 h4 hd
            · subst h4; exact c2 (Int.tmod_eq_zero_of_dvd hd)) q hq
    · rw [if_neg c] at hq
      by_cases c2 : n > 1
      · rw [if_pos c2] at hq
        have h := List.mem_singleton.1 hq
        subst h
        refine ⟨Int.dvd_refl _, by omega, fun r h2 hd => ?_⟩
        have hle := Int.le_of_dvd hn hd
        have hrp : p ≤ r := by
          rcases Int.lt_or_le r p with h | h
          · exact absurd hd (hr r h2 h)
          · exact h
        obtain ⟨s, hs⟩ := hd
        have hs1 : 1 ≤ s := by
          rcases Int.lt_or_le 0 s with h | h
          · omega
          · have := Int.mul_nonneg (show 0 ≤ r by omega) (show 0 ≤ -s by omega); rw [Int.mul_neg] at this; omega
        rcases Int.lt_or_eq_of_le hs1 with h | h
        · have hsp : p ≤ s := by
            rcases Int.lt_or_le s p with h3 | h3
            · exact absurd ⟨r, by rw [Int.mul_comm]; exact hs⟩ (hr s (by omega) h3)
            · exact h3
          have := Int.mul_le_mul hrp hsp (by omega) (by omega)
          omega
        · subst h; omega
      · rw [if_neg c2] at hq; simp at hq
theorem prime_mul {q a b : Int} (hq : PrimeL q) (h : q ∣ a * b) : q ∣ a ∨ q ∣ b := by
  have hg1 : ((Int.gcd q a : Nat) : Int) ∣ q := Int.gcd_dvd_left ..
  have hg2 : ((Int.gcd q a : Nat) : Int) ∣ a := Int.gcd_dvd_right ..
  rcases Nat.lt_or_ge (Int.gcd q a) 2 with h1 | h1
  · right
    have h0 : Int.gcd q a ≠ 0 := by
      intro h0; have := (Int.gcd_eq_zero_iff.1 h0).1; have := hq.1; omega
    have hc : Nat.Coprime q.natAbs a.natAbs := by
      have : Int.gcd q a = Nat.gcd q.natAbs a.natAbs := rfl
      unfold Nat.Coprime; omega
    have hd : q.natAbs ∣ a.natAbs * b.natAbs := by rw [← Int.natAbs_mul]; exact Int.natAbs_dvd_natAbs.2 h
    exact Int.natAbs_dvd_natAbs.1 (Nat.Coprime.dvd_of_dvd_mul_left hc hd)
  · left
    have := hq.2 _ (show (2 : Int) ≤ ((Int.gcd q a : Nat) : Int) by omega) hg1
    rw [this] at hg2; exact hg2
theorem TT_prime {q x : Int} (hq : PrimeL q) (hx : x ∈ TT) (h : q ∣ x) : q = 2 ∨ q = 3 ∨ q = 5 ∨ q = 7 := by
  have tab : ∀ x ∈ TT, ∀ q ∈ List.range 31, 2 ≤ q → x % (q : Int) = 0 → (∀ r ∈ List.range 31, 2 ≤ r → q % r = 0 → r = q) → q = 2 ∨ q = 3 ∨ q = 5 ∨ q = 7 := by decide +kernel
  have hs := TT_sm hx
  have h2 := hq.1
  have hle : q ≤ 30 := by
    have : q.natAbs ≤ x.natAbs := Nat.le_of_dvd (by have := hs.1; omega) (Int.natAbs_dvd_natAbs.2 h)
    have := hs.2; omega
  have := tab x hx q.toNat (by rw [List.mem_range]; omega) (by omega) (by rw [Int.toNat_of_nonneg (by omega)]; exact Int.emod_eq_zero_of_dvd h)
    (fun r hr h3 h4 => by
      have hd : (r : Int) ∣ q := by
        have := Int.natCast_dvd_natCast.2 (Nat.dvd_of_mod_eq_zero h4)
        rwa [Int.toNat_of_nonneg (by omega)] at this
      have := hq.2 r (by omega) hd
      omega)
  omega
theorem prodF_prime {q : Int} (hq : PrimeL q) : ∀ (xs : List Int) (acc : Int), (∀ x ∈ xs, x ∈ TT) → q ∣ prodF xs acc → q ∣ acc ∨ (q = 2 ∨ q = 3 ∨ q = 5 ∨ q = 7)
  | [], acc, _, h => Or.inl h
  | x :: xs, acc, hx, h => by
    rcases prodF_prime hq xs (acc * x) (fun y hy => hx y (by simp [hy])) h with h1 | h1
    · rcases prime_mul hq h1 with h2 | h2
      · exact Or.inl h2
      · exact Or.inr (TT_prime hq (hx x (by simp)) h2)
    · exact Or.inr h1
/-- The primes of a drawn form's product. -/
theorem prod_primes {xs : List Int} (hx : ∀ x ∈ xs, x ∈ TT) (hl : xs.length ≤ 5) {q : Int} (h : q ∈ primes (prod xs)) : q = 2 ∨ q = 3 ∨ q = 5 ∨ q = 7 := by
  have hb := prod_bd4 (fun x h => TT_sm (hx x h)) hl
  have := pl_prime ((prod xs).natAbs + 2) (absI (prod xs)) 2 (by omega) (by unfold absI; omega) (by unfold absI; omega) (fun r h2 h3 => by omega) q h
  have hd : q ∣ prod xs := by
    have := this.1; unfold absI at this; exact Int.dvd_natAbs.1 this
  rcases prodF_prime this.2 xs 1 hx hd with h1 | h1
  · have := Int.le_of_dvd (by omega) h1; have := ‹_ ∧ PrimeL q›.2.1; omega
  · exact h1

end Locg
