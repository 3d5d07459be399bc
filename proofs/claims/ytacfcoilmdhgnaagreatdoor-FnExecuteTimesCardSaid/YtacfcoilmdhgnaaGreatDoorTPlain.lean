/- The plain texts of this claim, one behind the other. -/
import Derived.Test.YtacfcoilmdhgnaaGreatDoorTWMore
set_option linter.unusedVariables false
set_option linter.unusedSimpArgs false
namespace Locg
open Go.RowKit Go.Proofs.YtacfcoilmdhgnaaGreatDoorW.PrintWords

theorem w64 {x : Int} (h : -9223372036854775808 ≤ x) (h' : x ≤ 9223372036854775807) : wrap64 x = x := by unfold wrap64; omega
theorem w64' {x : Int} (h : 0 ≤ x) (h' : x ≤ 9223372036854775807) : wrap64 x = x := w64 (by omega) h'

theorem sq_le {a b : Int} (h0 : 0 ≤ a) (h : a ≤ b) : a * a ≤ b * b := Int.mul_le_mul h h h0 (by omega)
theorem sq_lt {a b : Int} (h0 : 0 ≤ a) (h : a < b) : a * a < b * b := by
  have h1 : a * a ≤ a * b := Int.mul_le_mul_of_nonneg_left (by omega) h0
  have h2 : a * b < b * b := Int.mul_lt_mul_of_pos_right h (by omega)
  omega
theorem lt_of_sq {a b : Int} (h0 : 0 ≤ b) (h : a * a < b * b) : a < b := by
  rcases Int.lt_or_le a b with h1 | h1
  · exact h1
  · have := sq_le h0 h1; omega
theorem le_of_sq {a b : Int} (h0 : 0 ≤ b) (h : a * a ≤ b * b) : a ≤ b := by
  rcases Int.lt_or_le b a with h1 | h1
  · have := sq_lt h0 h1; omega
  · exact h1
theorem sq_nonneg (a : Int) : 0 ≤ a * a := by
  rcases Int.le_total 0 a with h | h
  · exact Int.mul_nonneg h h
  · have := Int.mul_nonneg (a := -a) (b := -a) (by omega) (by omega); rw [Int.neg_mul_neg] at this; exact this
theorem mul_le2 {a b A B : Int} (ha : 0 ≤ a) (hA : a ≤ A) (hb : 0 ≤ b) (hB : b ≤ B) : a * b ≤ A * B := Int.mul_le_mul hA hB hb (by omega)

/-- The greatest number whose square is at most n. -/
def isqrt : Nat → Nat
  | 0 => 0
  | n + 1 => if (isqrt n + 1) * (isqrt n + 1) ≤ n + 1 then isqrt n + 1 else isqrt n
/-- The greatest number whose square is at most n, of an integer. -/
def isq (n : Int) : Int := (isqrt n.toNat : Nat)
theorem wmul {a b : Int} (ha : 0 ≤ a) (hA : a ≤ 1048577) (hb : 0 ≤ b) (hB : b ≤ 1048577) : wrap64 (a * b) = a * b :=
  w64' (Int.mul_nonneg ha hb) (by have := mul_le2 ha hA hb hB; omega)

/-- What one x gives to the ways of two squares. -/
def wayW (n x : Int) : Int := if isq (n - x * x) * isq (n - x * x) = n - x * x then (if x > 0 then (if isq (n - x * x) > 0 then 4 else 2) else (if isq (n - x * x) > 0 then 2 else 1)) else 0
def r2from (n : Int) : Nat → Int → Int
  | 0, _ => 0
  | d + 1, x => wayW n x + r2from n d (x + 1)
def r2 (n : Int) : Int := r2from n (isq n + 1).toNat 0
/-- Ways of four squares, as sums over two and two. -/
def conv (n : Int) : Nat → Int → Int
  | 0, _ => 0
  | d + 1, k => r2 k * r2 (n - k) + conv n d (k + 1)
def r4 (n : Int) : Int := conv n (n + 1).toNat 0

theorem rd_drop {xs : List Int} {j : Nat} (h : j < xs.length) : xs.drop j = rd xs (j : Int) :: xs.drop (j + 1) := by
  rw [List.drop_eq_getElem_cons h]
  simp [rd, List.getElem?_eq_getElem h]
theorem rd_mem {xs : List Int} {j : Nat} (h : j < xs.length) : rd xs (j : Int) ∈ xs := by
  simp [rd, List.getElem?_eq_getElem h]

end Locg

namespace Locg
open Go.RowKit Go.Proofs.YtacfcoilmdhgnaaGreatDoorW.PrintWords Go.Proofs.YtacfcoilmdhgnaaGreatDoorW.PrintMore

/-- How often p divides n, and what is left; d: how often at most. -/
def spl (p : Int) : Nat → Int → Int × Int
  | 0, n => (0, n)
  | d + 1, n => if n.tmod p = 0 then ((spl p d (n.tdiv p)).1 + 1, (spl p d (n.tdiv p)).2) else (0, n)
def val (p n : Int) : Int := (spl p 64 n).1
def unit (p n : Int) : Int := (spl p 64 n).2

theorem tdiv_abs {n p : Int} (hp : 2 ≤ p) (hn : n ≠ 0) (h : n.tmod p = 0) : n.tdiv p ≠ 0 ∧ n = p * n.tdiv p ∧ 2 * (n.tdiv p).natAbs ≤ n.natAbs ∧ (0 < n → 0 < n.tdiv p) ∧ (n < 0 → n.tdiv p < 0) := by
  have e : n = p * n.tdiv p := by have := Int.mul_tdiv_add_tmod n p; omega
  generalize n.tdiv p = m at e
  have hm : m ≠ 0 := by intro h0; subst h0; simp at e; exact hn e
  have hk : n.natAbs = p.natAbs * m.natAbs := by rw [e, Int.natAbs_mul]
  have h2 : 2 * m.natAbs ≤ p.natAbs * m.natAbs := Nat.mul_le_mul_right _ (by omega)
  refine ⟨hm, e, by omega, fun h0 => ?_, fun h0 => ?_⟩
  · rcases Int.lt_or_le 0 m with h1 | h1
    · exact h1
    · have := Int.mul_nonneg (a := p) (b := -m) (by omega) (by omega); rw [Int.mul_neg] at this; omega
  · rcases Int.lt_or_le m 0 with h1 | h1
    · exact h1
    · have := Int.mul_nonneg (a := p) (b := m) (by omega) h1; omega

theorem spl_spec {p : Int} (hp : 2 ≤ p) : ∀ (d : Nat) (n : Int), n ≠ 0 → n.natAbs < 2 ^ d →
    n = p ^ (spl p d n).1.toNat * (spl p d n).2 ∧ (spl p d n).2.tmod p ≠ 0 ∧ 0 ≤ (spl p d n).1 ∧ (spl p d n).1 < d ∧ (spl p d n).2 ≠ 0 ∧ (spl p d n).2.natAbs ≤ n.natAbs ∧ (0 < n → 0 < (spl p d n).2) := by
  intro d
  induction d with
  | zero => intro n hn h; simp at h; omega
  | succ d ih =>
    intro n hn h
    by_cases c : n.tmod p = 0
    · obtain ⟨h0, h1, h2, h3, _⟩ := tdiv_abs hp hn c
      obtain ⟨g1, g2, g3, g4, g5, g6, g7⟩ := ih (n.tdiv p) h0 (by rw [Nat.pow_succ] at h; omega)
      simp only [spl, if_pos c]
      refine ⟨?_, g2, by omega, by omega, g5, by omega, fun h => g7 (h3 h)⟩
      rw [show ((spl p d (n.tdiv p)).1 + 1).toNat = (spl p d (n.tdiv p)).1.toNat + 1 from by omega, Int.pow_succ, Int.mul_comm (p ^ _) p, Int.mul_assoc, ← g1]
      exact h1
    · simp only [spl, if_neg c]
      refine ⟨by simp, c, by omega, by omega, hn, by omega, fun h => h⟩
/-- More rounds tell the same. -/
theorem spl_more {p : Int} (hp : 2 ≤ p) : ∀ (d : Nat) (n : Int), n ≠ 0 → n.natAbs < 2 ^ d → spl p (d + 1) n = spl p d n := by
  intro d
  induction d with
  | zero => intro n hn h; simp at h; omega
  | succ d ih =>
    intro n hn h
    by_cases c : n.tmod p = 0
    · obtain ⟨h0, h1, h2, h3, _⟩ := tdiv_abs hp hn c
      have := ih (n.tdiv p) h0 (by rw [Nat.pow_succ] at h; omega)
      simp only [spl, if_pos c] at this ⊢
      rw [this]
    · simp only [spl, if_neg c]
theorem spl_dvd {p n : Int} (d : Nat) (c : n.tmod p = 0) : spl p (d + 1) n = ((spl p d (n.tdiv p)).1 + 1, (spl p d (n.tdiv p)).2) := by simp only [spl, if_pos c]
theorem spl_not {p n : Int} (d : Nat) (c : n.tmod p ≠ 0) : spl p (d + 1) n = (0, n) := by simp only [spl, if_neg c]
theorem val_spec {p n : Int} (hp : 2 ≤ p) (hn : n ≠ 0) (h : n.natAbs < 2 ^ 63) :
    n = p ^ (val p n).toNat * unit p n ∧ (unit p n).tmod p ≠ 0 ∧ 0 ≤ val p n ∧ val p n < 64 ∧ unit p n ≠ 0 ∧ (unit p n).natAbs ≤ n.natAbs ∧ (0 < n → 0 < unit p n) :=
  spl_spec hp 64 n hn (by omega)

/-- The primes of n from p on, by trial. -/
def pl : Nat → Int → Int → List Int
  | 0, _, _ => []
  | d + 1, n, p => if p * p ≤ n then (if n.tmod p = 0 then p :: pl d (unit p n) (p + 1) else pl d n (p + 1)) else (if n > 1 then [n] else [])
def absI (n : Int) : Int := (n.natAbs : Nat)
def primes (n : Int) : List Int := pl (n.natAbs + 2) (absI n) 2
theorem pl_len : ∀ (d : Nat) (n p : Int), (pl d n p).length ≤ d
  | 0, _, _ => by simp [pl]
  | d + 1, n, p => by
    simp only [pl]
    have h1 := pl_len d (unit p n) (p + 1)
    have h2 := pl_len d n (p + 1)
    repeat' split
    all_goals simp
    all_goals omega
theorem size_ev {n : Int} (h : -9223372036854775808 < n) (h' : n ≤ 9223372036854775807) : mx n (wrap64 (-n)) = absI n := by
  rw [w64 (by omega) (by omega)]; unfold mx absI; omega
theorem pl_ge : ∀ (d : Nat) (n p : Int), 2 ≤ p → ∀ q ∈ pl d n p, 2 ≤ q
  | 0, _, _, _, q, hq => by simp [pl] at hq
  | d + 1, n, p, hp, q, hq => by
    simp only [pl] at hq
    have h1 := pl_ge d (unit p n) (p + 1) (by omega) q
    have h2 := pl_ge d n (p + 1) (by omega) q
    split at hq
    · split at hq
      · rcases List.mem_cons.1 hq with h | h
        · omega
        · exact h1 h
      · exact h2 hq
    · split at hq
      · simp at hq; omega
      · simp at hq
theorem primes_ge {n q : Int} (h : q ∈ primes n) : 2 ≤ q := pl_ge _ _ _ (by omega) q h
theorem primes_len (n : Int) : (primes n).length ≤ n.natAbs + 2 := pl_len _ _ _

end Locg

namespace Locg
def PrimeL (q : Int) : Prop := 2 ≤ q ∧ ∀ r : Int, 2 ≤ r → r ∣ q → r = q

theorem prime_mul {q a b : Int} (hq : PrimeL q) (h : q ∣ a * b) : q ∣ a ∨ q ∣ b := by
  have hg1 : ((Int.gcd q a : Nat) : Int) ∣ q := Int.gcd_dvd_left ..
  have hg2 : ((Int.gcd q a : Nat) : Int) ∣ a := Int.gcd_dvd_right ..
  rcases Nat.lt_or_ge (Int.gcd q a) 2 with h1 | h1
  · right
    have h0 : Int.gcd q a ≠ 0 := by
      intro h0; have := (Int.gcd_eq_zero_iff.1 h0).1; have := hq.1; omega
    have hc : Nat.Coprime q.natAbs a.natAbs := by
      have : Int.gcd q a = Nat.gcd q.natAbs a.natAbs := rfl
      unfold Nat.Coprime; omega
    have hd : q.natAbs ∣ a.natAbs * b.natAbs := by rw [← Int.natAbs_mul]; exact Int.natAbs_dvd_natAbs.2 h
    exact Int.natAbs_dvd_natAbs.1 (Nat.Coprime.dvd_of_dvd_mul_left hc hd)
  · left
    have := hq.2 _ (show (2 : Int) ≤ ((Int.gcd q a : Nat) : Int) by omega) hg1
    rw [this] at hg2; exact hg2

/-- 1, 2, .., n. -/
def upto : Nat → List Int
  | 0 => []
  | n + 1 => ((n : Int) + 1) :: upto n
end Locg

namespace Locg
open Go.RowKit Go.Proofs.YtacfcoilmdhgnaaGreatDoorW.PrintWords Go.Proofs.YtacfcoilmdhgnaaGreatDoorW.PrintMore

def hf (e : Nat) : Int := if e % 2 = 0 then 1 else -1
end Locg

namespace Locg
open Go.RowKit Go.Proofs.YtacfcoilmdhgnaaGreatDoorW.PrintWords Go.Proofs.YtacfcoilmdhgnaaGreatDoorW.PrintMore

def Sm (x : Int) : Prop := x ≠ 0 ∧ x.natAbs ≤ 30
def prodF : List Int → Int → Int
  | [], acc => acc
  | x :: xs, acc => prodF xs (acc * x)
def prod (xs : List Int) : Int := prodF xs 1
def formOk (xs : List Int) : Bool := xs.all (fun x => decide (x ≠ 0) && decide (x.natAbs ≤ 30)) && (decide (1 ≤ xs.length) && decide (xs.length ≤ 4))
theorem formOk_iff {xs : List Int} : formOk xs = true ↔ (∀ x ∈ xs, Sm x) ∧ 1 ≤ xs.length ∧ xs.length ≤ 4 := by
  simp [formOk, Sm, and_assoc]
theorem prodF_bd : ∀ (xs : List Int) (acc : Int) (j : Nat), (∀ x ∈ xs, Sm x) → acc ≠ 0 → acc.natAbs ≤ 30 ^ j → prodF xs acc ≠ 0 ∧ (prodF xs acc).natAbs ≤ 30 ^ (j + xs.length)
  | [], acc, j, _, h0, h => ⟨h0, h⟩
  | x :: xs, acc, j, hx, h0, h => by
    have h1 := hx x (by simp)
    have h2 : (acc * x).natAbs ≤ 30 ^ (j + 1) := by rw [Int.natAbs_mul, Nat.pow_succ]; exact Nat.mul_le_mul h h1.2
    have := prodF_bd xs (acc * x) (j + 1) (fun y hy => hx y (by simp [hy])) (Int.mul_ne_zero h0 h1.1) h2
    simp only [prodF, List.length_cons]
    rw [show j + (xs.length + 1) = j + 1 + xs.length from by omega]
    exact this
theorem prod_bd4 {xs : List Int} (hx : ∀ x ∈ xs, Sm x) (hl : xs.length ≤ 5) : prod xs ≠ 0 ∧ (prod xs).natAbs ≤ 24300000 := by
  have := prodF_bd xs 1 0 hx (by omega) (by simp)
  have h2 : 30 ^ (0 + xs.length) ≤ 30 ^ 5 := Nat.pow_le_pow_right (by omega) (by omega)
  exact ⟨this.1, by unfold prod; omega⟩
end Locg

namespace Locg
open Go.RowKit Go.Proofs.YtacfcoilmdhgnaaGreatDoorW.PrintWords Go.Proofs.YtacfcoilmdhgnaaGreatDoorW.PrintMore

end Locg

namespace Locg
open Go.RowKit Go.Proofs.YtacfcoilmdhgnaaGreatDoorW.PrintWords Go.Proofs.YtacfcoilmdhgnaaGreatDoorW.PrintMore

end Locg

namespace Locg
open Go.RowKit Go.Proofs.YtacfcoilmdhgnaaGreatDoorW.PrintWords Go.Proofs.YtacfcoilmdhgnaaGreatDoorW.PrintMore

end Locg

namespace Locg
open Go.RowKit Go.Proofs.YtacfcoilmdhgnaaGreatDoorW.PrintWords Go.Proofs.YtacfcoilmdhgnaaGreatDoorW.PrintMore

end Locg

namespace Locg
open Go.RowKit Go.Proofs.YtacfcoilmdhgnaaGreatDoorW.PrintWords Go.Proofs.YtacfcoilmdhgnaaGreatDoorW.PrintMore

end Locg

namespace Locg
open Go.RowKit Go.Proofs.YtacfcoilmdhgnaaGreatDoorW.PrintWords Go.Proofs.YtacfcoilmdhgnaaGreatDoorW.PrintMore

def trial (n : Int) : Nat → Int → Bool
  | 0, _ => true
  | d + 1, x => if x * x ≤ n then (if n.tmod x = 0 then false else trial n d (x + 1)) else true
theorem prime_iff {n : Int} (hn : 2 ≤ n) : PrimeL n ↔ ∀ r : Int, 2 ≤ r → r * r ≤ n → ¬ r ∣ n := by
  constructor
  · intro h r r1 r2 hd
    have := h.2 r r1 hd
    subst this
    have := Int.mul_le_mul_of_nonneg_right r1 (show 0 ≤ r by omega)
    omega
  · intro h
    refine ⟨hn, fun r r1 hd => ?_⟩
    obtain ⟨s, hs⟩ := hd
    have hs0 : 0 < s := by
      rcases Int.lt_or_le 0 s with h | h
      · exact h
      · have := Int.mul_nonneg (show 0 ≤ r by omega) (show 0 ≤ -s by omega); rw [Int.mul_neg] at this; omega
    rcases Int.lt_or_le 1 s with h1 | h1
    · exfalso
      rcases Int.le_total r s with h2 | h2
      · have := Int.mul_le_mul_of_nonneg_left h2 (show 0 ≤ r by omega)
        exact h r r1 (by omega) ⟨s, hs⟩
      · have := Int.mul_le_mul_of_nonneg_right h2 (show 0 ≤ s by omega)
        exact h s (by omega) (by omega) ⟨r, by rw [Int.mul_comm]; exact hs⟩
    · have : s = 1 := by omega
      subst this; omega
end Locg

namespace Locg
open Go.RowKit Go.Proofs.YtacfcoilmdhgnaaGreatDoorW.PrintWords Go.Proofs.YtacfcoilmdhgnaaGreatDoorW.PrintMore

def TT : List Int := [1, 2, 3, 5, 6, 7, 10, 12, 15, 4, 21, 30, 8, -1, -2, -3, -5, -6, -7, -10, -12, -15, -4, -21, -30, -8]
theorem TT_sm {x : Int} (h : x ∈ TT) : Sm x := by
  have : ∀ x ∈ TT, x ≠ 0 ∧ x.natAbs ≤ 30 := by decide +kernel
  exact this x h
theorem pl_prime : ∀ (d : Nat) (n p : Int), 2 ≤ p → 0 < n → n.natAbs < 2 ^ 63 → (∀ r : Int, 2 ≤ r → r < p → ¬ r ∣ n) → ∀ q ∈ pl d n p, q ∣ n ∧ PrimeL q := by
  intro d
  induction d with
  | zero => intro n p _ _ _ _ q hq; simp [pl] at hq
  | succ d ih =>
    intro n p hp hn hN hr q hq
    simp only [pl] at hq
    by_cases c : p * p ≤ n
    · rw [if_pos c] at hq
      by_cases c2 : n.tmod p = 0
      · rw [if_pos c2] at hq
        have hpn : p ∣ n := Int.dvd_of_tmod_eq_zero c2
        rcases List.mem_cons.1 hq with h | h
        · subst h
          refine ⟨hpn, hp, fun r h2 hd => ?_⟩
          have hle := Int.le_of_dvd (by omega) hd
          rcases Int.lt_or_eq_of_le hle with h | h
          · exact absurd (Int.dvd_trans hd hpn) (hr r h2 h)
          · exact h
        · have hv := val_spec hp (show n ≠ 0 by omega) hN
          have hud : unit p n ∣ n := ⟨p ^ (val p n).toNat, by rw [Int.mul_comm]; exact hv.1⟩
          have := ih (unit p n) (p + 1) (by omega) (hv.2.2.2.2.2.2 hn) (by omega) (fun r h2 h3 hd => by
            rcases Int.lt_or_eq_of_le (show r ≤ p by omega) with h4 | h4
            · exact hr r h2 h4 (Int.dvd_trans hd hud)
            · subst h4; exact hv.2.1 (Int.tmod_eq_zero_of_dvd hd)) q h
          exact ⟨Int.dvd_trans this.1 hud, this.2⟩
      · rw [if_neg c2] at hq
        exact ih n (p + 1) (by omega) hn hN (fun r h2 h3 hd => by
            rcases Int.lt_or_eq_of_le (show r ≤ p by omega) with h4 | h4
            · exact hr r h2 h4 hd
            · subst h4; exact c2 (Int.tmod_eq_zero_of_dvd hd)) q hq
    · rw [if_neg c] at hq
      by_cases c2 : n > 1
      · rw [if_pos c2] at hq
        have h := List.mem_singleton.1 hq
        subst h
        refine ⟨Int.dvd_refl _, by omega, fun r h2 hd => ?_⟩
        have hle := Int.le_of_dvd hn hd
        have hrp : p ≤ r := by
          rcases Int.lt_or_le r p with h | h
          · exact absurd hd (hr r h2 h)
          · exact h
        obtain ⟨s, hs⟩ := hd
        have hs1 : 1 ≤ s := by
          rcases Int.lt_or_le 0 s with h | h
          · omega
          · have := Int.mul_nonneg (show 0 ≤ r by omega) (show 0 ≤ -s by omega); rw [Int.mul_neg] at this; omega
        rcases Int.lt_or_eq_of_le hs1 with h | h
        · have hsp : p ≤ s := by
            rcases Int.lt_or_le s p with h3 | h3
            · exact absurd ⟨r, by rw [Int.mul_comm]; exact hs⟩ (hr s (by omega) h3)
            · exact h3
          have := Int.mul_le_mul hrp hsp (by omega) (by omega)
          omega
        · subst h; omega
      · rw [if_neg c2] at hq; simp at hq
theorem prime_pow {q p : Int} (hq : PrimeL q) : ∀ k : Nat, q ∣ p ^ k → q ∣ p
  | 0, h => by
    rw [Int.pow_zero] at h
    have := Int.le_of_dvd (by omega) h; have := hq.1; omega
  | k + 1, h => by
    rw [Int.pow_succ] at h
    rcases prime_mul hq h with h | h
    · exact prime_pow hq k h
    · exact h
theorem least_prime {n p : Int} (hp : 2 ≤ p) (hr : ∀ r : Int, 2 ≤ r → r < p → ¬ r ∣ n) (hpn : p ∣ n) : PrimeL p := by
  refine ⟨hp, fun r h2 hd => ?_⟩
  have hle := Int.le_of_dvd (by omega) hd
  rcases Int.lt_or_eq_of_le hle with h | h
  · exact absurd (Int.dvd_trans hd hpn) (hr r h2 h)
  · exact h
theorem no_small {n p : Int} (hn : 1 < n) (hp : 2 ≤ p) (hpp : ¬ p * p ≤ n) (hr : ∀ r : Int, 2 ≤ r → r < p → ¬ r ∣ n) : PrimeL n := by
  rw [prime_iff (by omega)]
  intro r r1 r2
  exact hr r r1 (lt_of_sq (by omega) (by omega))
theorem pl_all : ∀ (d : Nat) (n p : Int), 2 ≤ p → 0 < n → n.natAbs < 2 ^ 63 → n + 2 - p ≤ d → 1 ≤ d → (∀ r : Int, 2 ≤ r → r < p → ¬ r ∣ n) →
    (∀ q, PrimeL q → q ∣ n → q ∈ pl d n p) ∧ (pl d n p).Pairwise (· < ·) ∧ ∀ q ∈ pl d n p, p ≤ q := by
  intro d
  induction d with
  | zero => intro n p _ _ _ _ h1; omega
  | succ d ih =>
    intro n p hp hn hN hd h1 hr
    simp only [pl]
    by_cases c : p * p ≤ n
    · have hpn : 2 * p ≤ n := by have := Int.mul_le_mul_of_nonneg_right hp (show 0 ≤ p by omega); omega
      rw [if_pos c]
      by_cases c2 : n.tmod p = 0
      · have hpd := Int.dvd_of_tmod_eq_zero c2
        have hpP := least_prime hp hr hpd
        obtain ⟨v1, v2, v3, v4, v5, v6, v7⟩ := val_spec hp (show n ≠ 0 by omega) hN
        have hud : unit p n ∣ n := ⟨p ^ (val p n).toNat, by rw [Int.mul_comm]; exact v1⟩
        have hr2 : ∀ r : Int, 2 ≤ r → r < p + 1 → ¬ r ∣ unit p n := by
          intro r h2 h3 hd
          rcases Int.lt_or_eq_of_le (show r ≤ p by omega) with h4 | h4
          · exact hr r h2 h4 (Int.dvd_trans hd hud)
          · subst h4; exact v2 (Int.tmod_eq_zero_of_dvd hd)
        obtain ⟨i1, i2, i3⟩ := ih (unit p n) (p + 1) (by omega) (v7 hn) (by omega) (by omega) (by omega) hr2
        rw [if_pos c2]
        refine ⟨fun q hq hqd => ?_, ?_, ?_⟩
        · rw [v1] at hqd
          rcases prime_mul hq hqd with h | h
          · have := hpP.2 q hq.1 (prime_pow hq _ h)
            rw [this]; exact List.mem_cons_self
          · exact List.mem_cons_of_mem _ (i1 q hq h)
        · rw [List.pairwise_cons]
          exact ⟨fun q hq => by have := i3 q hq; omega, i2⟩
        · intro q hq
          rcases List.mem_cons.1 hq with h | h
          · omega
          · have := i3 q h; omega
      · rw [if_neg c2]
        obtain ⟨i1, i2, i3⟩ := ih n (p + 1) (by omega) hn hN (by omega) (by omega) (fun r h2 h3 he => by
          rcases Int.lt_or_eq_of_le (show r ≤ p by omega) with h4 | h4
          · exact hr r h2 h4 he
          · exact c2 (Int.tmod_eq_zero_of_dvd (h4 ▸ he)))
        exact ⟨i1, i2, fun q hq => by have := i3 q hq; omega⟩
    · rw [if_neg c]
      by_cases c2 : n > 1
      · rw [if_pos c2]
        have hnP := no_small c2 hp c hr
        refine ⟨fun q hq hqd => ?_, by simp, ?_⟩
        · rw [hnP.2 q hq.1 hqd]; simp
        · intro q hq
          obtain rfl := List.mem_singleton.1 hq
          rcases Int.lt_or_le q p with h | h
          · exact absurd (Int.dvd_refl q) (hr q (by omega) h)
          · exact h
      · rw [if_neg c2]
        refine ⟨fun q hq hqd => ?_, by simp, by simp⟩
        have := Int.le_of_dvd hn hqd; have := hq.1; omega
theorem absI_dvd {q n : Int} : q ∣ absI n ↔ q ∣ n := by unfold absI; exact Int.dvd_natAbs
theorem primes_iff {n q : Int} (hn : n ≠ 0) (h : n.natAbs < 2 ^ 63) : q ∈ primes n ↔ PrimeL q ∧ q ∣ n := by
  have ha : 0 < absI n ∧ (absI n).natAbs < 2 ^ 63 ∧ absI n + 2 - 2 ≤ ((n.natAbs + 2 : Nat) : Int) := by unfold absI; omega
  constructor
  · intro hq
    have := pl_prime (n.natAbs + 2) (absI n) 2 (by omega) ha.1 ha.2.1 (fun r h2 h3 => by omega) q hq
    exact ⟨this.2, absI_dvd.1 this.1⟩
  · rintro ⟨h1, h2⟩
    exact (pl_all (n.natAbs + 2) (absI n) 2 (by omega) ha.1 ha.2.1 ha.2.2 (by omega) (fun r h2 h3 => by omega)).1 q h1 (absI_dvd.2 h2)
end Locg

namespace Locg
open Go.RowKit Go.Proofs.YtacfcoilmdhgnaaGreatDoorW.PrintWords Go.Proofs.YtacfcoilmdhgnaaGreatDoorW.PrintMore

theorem prime_div : ∀ (k : Nat) (n : Int), n.toNat ≤ k → 1 < n → ∃ q, PrimeL q ∧ q ∣ n := by
  intro k
  induction k with
  | zero => intro n h h1; omega
  | succ k ih =>
    intro n h h1
    by_cases c : PrimeL n
    · exact ⟨n, c, Int.dvd_refl n⟩
    · have : ∃ r : Int, 2 ≤ r ∧ r ∣ n ∧ r ≠ n := by
        apply Classical.byContradiction
        intro hno
        apply c
        refine ⟨by omega, fun r h2 hd => ?_⟩
        apply Classical.byContradiction
        intro hne
        exact hno ⟨r, h2, hd, hne⟩
      obtain ⟨r, r1, r2, r3⟩ := this
      have hle := Int.le_of_dvd (by omega) r2
      obtain ⟨q, q1, q2⟩ := ih r (by omega) (by omega)
      exact ⟨q, q1, Int.dvd_trans q2 r2⟩
theorem mul_natAbs_le {a b : Int} (hb : b ≠ 0) : a.natAbs ≤ (a * b).natAbs := by rw [Int.natAbs_mul]; exact Nat.le_mul_of_pos_right _ (by omega)
/-- No square but 1 divides. -/
def SqFree (c : Int) : Prop := c ≠ 0 ∧ ∀ d : Int, 2 ≤ d → ¬ d * d ∣ c
theorem core_half {c c' s s' : Int} (hc : SqFree c) (hs' : 1 ≤ s') (hg : Int.gcd s s' = 1) (e : c * (s * s) = c' * (s' * s')) : s' = 1 := by
  have hd : s' * s' ∣ c * (s * s) := by rw [e]; exact Int.dvd_mul_left _ _
  have h1 : (s'.natAbs * s'.natAbs) ∣ c.natAbs * (s.natAbs * s.natAbs) := by
    rw [← Int.natAbs_mul, ← Int.natAbs_mul, ← Int.natAbs_mul]; exact Int.natAbs_dvd_natAbs.2 hd
  have hcop : Nat.Coprime s'.natAbs s.natAbs := by
    unfold Nat.Coprime; rw [Nat.gcd_comm]; exact hg
  have h2 : Nat.Coprime (s'.natAbs * s'.natAbs) (s.natAbs * s.natAbs) := by
    exact Nat.Coprime.mul_left (Nat.Coprime.mul_right hcop hcop) (Nat.Coprime.mul_right hcop hcop)
  have h3 := Nat.Coprime.dvd_of_dvd_mul_right h2 h1
  have h4 : s' * s' ∣ c := by
    rw [← Int.natAbs_dvd_natAbs, Int.natAbs_mul]; exact h3
  rcases Int.lt_or_le 1 s' with h | h
  · exact absurd h4 (hc.2 s' (by omega))
  · omega
/-- Core and root are told by their product. -/
theorem core_unique {c c' r r' : Int} (hc : SqFree c) (hc' : SqFree c') (hr : 1 ≤ r) (hr' : 1 ≤ r') (e : c * (r * r) = c' * (r' * r')) : c = c' ∧ r = r' := by
  have hg0 : 0 < Int.gcd r r' := Int.gcd_pos_of_ne_zero_left _ (by omega)
  obtain ⟨s, hs⟩ := Int.gcd_dvd_left r r'
  obtain ⟨s', hs'⟩ := Int.gcd_dvd_right r r'
  generalize hgg : Int.gcd r r' = g at hg0 hs hs'
  have hg1 : (0 : Int) < (g : Int) := by omega
  have hs1 : 1 ≤ s := by
    rcases Int.lt_or_le 0 s with h | h
    · omega
    · have := Int.mul_nonneg (show 0 ≤ (g : Int) by omega) (show 0 ≤ -s by omega); rw [Int.mul_neg] at this; omega
  have hs1' : 1 ≤ s' := by
    rcases Int.lt_or_le 0 s' with h | h
    · omega
    · have := Int.mul_nonneg (show 0 ≤ (g : Int) by omega) (show 0 ≤ -s' by omega); rw [Int.mul_neg] at this; omega
  have hcop : Int.gcd s s' = 1 := by
    have h1 : Int.gcd ((g : Int) * s) ((g : Int) * s') = g * Int.gcd s s' := by rw [Int.gcd_mul_left]; simp
    rw [← hs, ← hs', hgg] at h1
    exact Nat.eq_of_mul_eq_mul_left hg0 (by omega)
  have e2 : c * (s * s) = c' * (s' * s') := by
    have hgg0 : ((g : Int) * (g : Int)) ≠ 0 := Int.mul_ne_zero (by omega) (by omega)
    apply Int.eq_of_mul_eq_mul_left hgg0
    rw [hs, hs'] at e
    grind
  have q1 := core_half hc hs1' hcop e2
  have q2 := core_half hc' hs1 (by rw [Int.gcd_comm]; exact hcop) e2.symm
  subst q1; subst q2
  refine ⟨by simpa using e2, by rw [hs, hs']⟩
end Locg

namespace Locg
open Go.RowKit Go.Proofs.YtacfcoilmdhgnaaGreatDoorW.PrintWords Go.Proofs.YtacfcoilmdhgnaaGreatDoorW.PrintMore

/-- A number is its core times the square of its root part. -/
def IsCore (n c r : Int) : Prop := n = c * (r * r) ∧ 1 ≤ r ∧ SqFree c
theorem core_uni {n c r c' r' : Int} (h : IsCore n c r) (h' : IsCore n c' r') : c = c' ∧ r = r' := core_unique h.2.2 h'.2.2 h.2.1 h'.2.1 (by rw [← h.1, ← h'.1])
def coreW (q : Int) : Nat → Int → Int → Int × Int
  | 0, n, r => (n, r)
  | d + 1, n, r => if n.tmod (q * q) = 0 then coreW q d (n.tdiv (q * q)) (r * q) else (n, r)
def coreLs : List Int → Int → Int → Int × Int
  | [], n, r => (n, r)
  | q :: qs, n, r => coreLs qs (coreW q 64 n r).1 (coreW q 64 n r).2
/-- The core and the root part. -/
def coreF (n : Int) : Int × Int := coreLs (primes n) n 1
def core (n : Int) : Int := (coreF n).1
theorem sq_div {q n : Int} (hq : 2 ≤ q) (hn : n ≠ 0) (h : n.tmod (q * q) = 0) : n.tdiv (q * q) ≠ 0 ∧ n = n.tdiv (q * q) * (q * q) ∧ 4 * (n.tdiv (q * q)).natAbs ≤ n.natAbs := by
  have hqq : 4 ≤ q * q := by have := sq_le (show (0 : Int) ≤ 2 by omega) hq; omega
  have t := tdiv_abs (show 2 ≤ q * q by omega) hn h
  refine ⟨t.1, by rw [Int.mul_comm]; exact t.2.1, ?_⟩
  have e := t.2.1
  have : n.natAbs = (q * q).natAbs * (n.tdiv (q * q)).natAbs := by rw [← Int.natAbs_mul, ← e]
  rw [this]
  exact Nat.mul_le_mul_right _ (by omega)
theorem coreW_spec {q : Int} (hq : 2 ≤ q) : ∀ (d : Nat) (n r : Int), n ≠ 0 → n.natAbs < 2 ^ d → 1 ≤ r →
    (coreW q d n r).1 ≠ 0 ∧ 1 ≤ (coreW q d n r).2 ∧ n * (r * r) = (coreW q d n r).1 * ((coreW q d n r).2 * (coreW q d n r).2) ∧ (coreW q d n r).1 ∣ n ∧ ¬ q * q ∣ (coreW q d n r).1 := by
  intro d
  induction d with
  | zero => intro n r hn h; simp at h; omega
  | succ d ih =>
    intro n r hn h hr
    simp only [coreW]
    by_cases c : n.tmod (q * q) = 0
    · rw [if_pos c]
      obtain ⟨h1, h2, h3⟩ := sq_div hq hn c
      have hrq : 1 ≤ r * q := by have := Int.mul_le_mul hr (show (1 : Int) ≤ q by omega) (by omega) (by omega); omega
      obtain ⟨g1, g2, g3, g4, g5⟩ := ih (n.tdiv (q * q)) (r * q) h1 (by rw [Nat.pow_succ] at h; omega) hrq
      refine ⟨g1, g2, ?_, Int.dvd_trans g4 ⟨q * q, h2⟩, g5⟩
      rw [← g3]
      conv => lhs; rw [h2]
      grind
    · rw [if_neg c]
      exact ⟨hn, hr, rfl, Int.dvd_refl n, fun hd => c (Int.tmod_eq_zero_of_dvd hd)⟩
theorem coreLs_spec : ∀ (qs : List Int) (n r : Int), (∀ q ∈ qs, 2 ≤ q) → n ≠ 0 → n.natAbs < 2 ^ 63 → 1 ≤ r →
    (coreLs qs n r).1 ≠ 0 ∧ 1 ≤ (coreLs qs n r).2 ∧ n * (r * r) = (coreLs qs n r).1 * ((coreLs qs n r).2 * (coreLs qs n r).2) ∧ (coreLs qs n r).1 ∣ n ∧ ∀ q ∈ qs, ¬ q * q ∣ (coreLs qs n r).1
  | [], n, r, _, hn, _, hr => ⟨hn, hr, rfl, Int.dvd_refl n, by simp⟩
  | q :: qs, n, r, hq, hn, hN, hr => by
    obtain ⟨g1, g2, g3, g4, g5⟩ := coreW_spec (hq q (by simp)) 64 n r hn (by omega) hr
    have hle : (coreW q 64 n r).1.natAbs ≤ n.natAbs := Nat.le_of_dvd (by omega) (Int.natAbs_dvd_natAbs.2 g4)
    obtain ⟨f1, f2, f3, f4, f5⟩ := coreLs_spec qs (coreW q 64 n r).1 (coreW q 64 n r).2 (fun x hx => hq x (by simp [hx])) g1 (by omega) g2
    simp only [coreLs]
    refine ⟨f1, f2, by rw [g3, f3], Int.dvd_trans f4 g4, fun x hx => ?_⟩
    rcases List.mem_cons.1 hx with e | e
    · subst e; exact fun hd => g5 (Int.dvd_trans hd f4)
    · exact f5 x e
theorem coreF_is {n : Int} (hn : n ≠ 0) (hN : n.natAbs < 2 ^ 63) : IsCore n (coreF n).1 (coreF n).2 := by
  obtain ⟨h1, h2, h3, h4, h5⟩ := coreLs_spec (primes n) n 1 (fun q hq => primes_ge hq) hn hN (by omega)
  refine ⟨by have := h3; simp only [Int.mul_one] at this; exact this, h2, h1, fun d hd hdd => ?_⟩
  obtain ⟨q, q1, q2⟩ := prime_div d.toNat d (Nat.le_refl _) (by omega)
  have hqn : q ∣ n := Int.dvd_trans (Int.dvd_trans q2 (Int.dvd_mul_right d d)) (Int.dvd_trans hdd h4)
  exact h5 q ((primes_iff hn hN).2 ⟨q1, hqn⟩) (Int.dvd_trans (Int.mul_dvd_mul q2 q2) hdd)
theorem core_is {n c r : Int} (hn : n ≠ 0) (hN : n.natAbs < 2 ^ 63) (h : IsCore n c r) : coreF n = (c, r) := by
  have := core_uni (coreF_is hn hN) h
  exact Prod.ext this.1 this.2
end Locg

namespace Locg
open Go.RowKit Go.Proofs.YtacfcoilmdhgnaaGreatDoorW.PrintWords Go.Proofs.YtacfcoilmdhgnaaGreatDoorW.PrintMore

end Locg
