/- The plain texts of this claim, one behind the other. -/
import Derived.Test.YtnnpafjgghpecaaTWMore
set_option linter.unusedVariables false
set_option linter.unusedSimpArgs false
namespace Locg
open Go.RowKit Go.Proofs.YtnnpafjgghpecaaW.PrintWords

theorem w64 {x : Int} (h : -9223372036854775808 ≤ x) (h' : x ≤ 9223372036854775807) : wrap64 x = x := by unfold wrap64; omega
theorem w64' {x : Int} (h : 0 ≤ x) (h' : x ≤ 9223372036854775807) : wrap64 x = x := w64 (by omega) h'

theorem sq_le {a b : Int} (h0 : 0 ≤ a) (h : a ≤ b) : a * a ≤ b * b := Int.mul_le_mul h h h0 (by omega)
theorem sq_lt {a b : Int} (h0 : 0 ≤ a) (h : a < b) : a * a < b * b := by
  have h1 : a * a ≤ a * b := Int.mul_le_mul_of_nonneg_left (by omega) h0
  have h2 : a * b < b * b := Int.mul_lt_mul_of_pos_right h (by omega)
  omega
theorem lt_of_sq {a b : Int} (h0 : 0 ≤ b) (h : a * a < b * b) : a < b := by
  rcases Int.lt_or_le a b with h1 | h1
  · exact h1
  · have := sq_le h0 h1; omega
theorem le_of_sq {a b : Int} (h0 : 0 ≤ b) (h : a * a ≤ b * b) : a ≤ b := by
  rcases Int.lt_or_le b a with h1 | h1
  · have := sq_lt h0 h1; omega
  · exact h1
theorem sq_nonneg (a : Int) : 0 ≤ a * a := by
  rcases Int.le_total 0 a with h | h
  · exact Int.mul_nonneg h h
  · have := Int.mul_nonneg (a := -a) (b := -a) (by omega) (by omega); rw [Int.neg_mul_neg] at this; exact this
theorem mul_le2 {a b A B : Int} (ha : 0 ≤ a) (hA : a ≤ A) (hb : 0 ≤ b) (hB : b ≤ B) : a * b ≤ A * B := Int.mul_le_mul hA hB hb (by omega)

/-- The greatest number whose square is at most n. -/
def isqrt : Nat → Nat
  | 0 => 0
  | n + 1 => if (isqrt n + 1) * (isqrt n + 1) ≤ n + 1 then isqrt n + 1 else isqrt n
theorem isqrt_spec (n : Nat) : isqrt n * isqrt n ≤ n ∧ n < (isqrt n + 1) * (isqrt n + 1) := by
  induction n with
  | zero => simp [isqrt]
  | succ n ih =>
    unfold isqrt
    split
    · rename_i h
      refine ⟨h, ?_⟩
      have e : (isqrt n + 1 + 1) * (isqrt n + 1 + 1) = (isqrt n + 1) * (isqrt n + 1) + 2 * isqrt n + 3 := by grind
      omega
    · rename_i h
      exact ⟨by omega, by omega⟩
/-- The greatest number whose square is at most n, of an integer. -/
def isq (n : Int) : Int := (isqrt n.toNat : Nat)
theorem isq_nonneg (n : Int) : 0 ≤ isq n := Int.natCast_nonneg _
theorem isq_le {n : Int} (h : 0 ≤ n) : isq n * isq n ≤ n := by
  have := (isqrt_spec n.toNat).1
  have e : isq n * isq n = ((isqrt n.toNat * isqrt n.toNat : Nat) : Int) := by simp [isq]
  omega
theorem isq_lt {n : Int} (h : 0 ≤ n) : n < (isq n + 1) * (isq n + 1) := by
  have := (isqrt_spec n.toNat).2
  have e : (isq n + 1) * (isq n + 1) = (((isqrt n.toNat + 1) * (isqrt n.toNat + 1) : Nat) : Int) := by simp [isq]
  omega
theorem isq_unique {n r : Int} (h0 : 0 ≤ r) (h : r * r ≤ n) (h' : n < (r + 1) * (r + 1)) : isq n = r := by
  have hn : 0 ≤ n := by have := sq_nonneg r; omega
  apply Int.le_antisymm
  · have := isq_le hn; have := lt_of_sq (a := isq n) (b := r + 1) (by omega) (by omega); omega
  · have := isq_lt hn; have := lt_of_sq (a := r) (b := isq n + 1) (by have := isq_nonneg n; omega) (by omega); omega
theorem succ_sq (r : Int) : (r + 1) * (r + 1) = r * r + 2 * r + 1 := by grind
theorem isq_sq {r : Int} (h0 : 0 ≤ r) : isq (r * r) = r := isq_unique h0 (Int.le_refl _) (by have := succ_sq r; omega)
theorem tdiv2 {n : Int} (h : 0 ≤ n) : Int.tdiv n 2 = n / 2 := Int.tdiv_eq_ediv_of_nonneg h
theorem wmul {a b : Int} (ha : 0 ≤ a) (hA : a ≤ 1048577) (hb : 0 ≤ b) (hB : b ≤ 1048577) : wrap64 (a * b) = a * b :=
  w64' (Int.mul_nonneg ha hb) (by have := mul_le2 ha hA hb hB; omega)

/-- What one x gives to the ways of two squares. -/
def wayW (n x : Int) : Int := if isq (n - x * x) * isq (n - x * x) = n - x * x then (if x > 0 then (if isq (n - x * x) > 0 then 4 else 2) else (if isq (n - x * x) > 0 then 2 else 1)) else 0
def r2from (n : Int) : Nat → Int → Int
  | 0, _ => 0
  | d + 1, x => wayW n x + r2from n d (x + 1)
def r2 (n : Int) : Int := r2from n (isq n + 1).toNat 0
/-- Ways of four squares, as sums over two and two. -/
def conv (n : Int) : Nat → Int → Int
  | 0, _ => 0
  | d + 1, k => r2 k * r2 (n - k) + conv n d (k + 1)
def r4 (n : Int) : Int := conv n (n + 1).toNat 0

theorem rd_drop {xs : List Int} {j : Nat} (h : j < xs.length) : xs.drop j = rd xs (j : Int) :: xs.drop (j + 1) := by
  rw [List.drop_eq_getElem_cons h]
  simp [rd, List.getElem?_eq_getElem h]
theorem rd_mem {xs : List Int} {j : Nat} (h : j < xs.length) : rd xs (j : Int) ∈ xs := by
  simp [rd, List.getElem?_eq_getElem h]

end Locg

namespace Locg
open Go.RowKit Go.Proofs.YtnnpafjgghpecaaW.PrintWords Go.Proofs.YtnnpafjgghpecaaW.PrintMore

/-- How often p divides n, and what is left; d: how often at most. -/
def spl (p : Int) : Nat → Int → Int × Int
  | 0, n => (0, n)
  | d + 1, n => if n.tmod p = 0 then ((spl p d (n.tdiv p)).1 + 1, (spl p d (n.tdiv p)).2) else (0, n)
def val (p n : Int) : Int := (spl p 64 n).1
def unit (p n : Int) : Int := (spl p 64 n).2

theorem tdiv_abs {n p : Int} (hp : 2 ≤ p) (hn : n ≠ 0) (h : n.tmod p = 0) : n.tdiv p ≠ 0 ∧ n = p * n.tdiv p ∧ 2 * (n.tdiv p).natAbs ≤ n.natAbs ∧ (0 < n → 0 < n.tdiv p) ∧ (n < 0 → n.tdiv p < 0) := by
  have e : n = p * n.tdiv p := by have := Int.mul_tdiv_add_tmod n p; omega
  generalize n.tdiv p = m at e
  have hm : m ≠ 0 := by intro h0; subst h0; simp at e; exact hn e
  have hk : n.natAbs = p.natAbs * m.natAbs := by rw [e, Int.natAbs_mul]
  have h2 : 2 * m.natAbs ≤ p.natAbs * m.natAbs := Nat.mul_le_mul_right _ (by omega)
  refine ⟨hm, e, by omega, fun h0 => ?_, fun h0 => ?_⟩
  · rcases Int.lt_or_le 0 m with h1 | h1
    · exact h1
    · have := Int.mul_nonneg (a := p) (b := -m) (by omega) (by omega); rw [Int.mul_neg] at this; omega
  · rcases Int.lt_or_le m 0 with h1 | h1
    · exact h1
    · have := Int.mul_nonneg (a := p) (b := m) (by omega) h1; omega

theorem spl_spec {p : Int} (hp : 2 ≤ p) : ∀ (d : Nat) (n : Int), n ≠ 0 → n.natAbs < 2 ^ d →
    n = p ^ (spl p d n).1.toNat * (spl p d n).2 ∧ (spl p d n).2.tmod p ≠ 0 ∧ 0 ≤ (spl p d n).1 ∧ (spl p d n).1 < d ∧ (spl p d n).2 ≠ 0 ∧ (spl p d n).2.natAbs ≤ n.natAbs ∧ (0 < n → 0 < (spl p d n).2) := by
  intro d
  induction d with
  | zero => intro n hn h; simp at h; omega
  | succ d ih =>
    intro n hn h
    by_cases c : n.tmod p = 0
    · obtain ⟨h0, h1, h2, h3, _⟩ := tdiv_abs hp hn c
      obtain ⟨g1, g2, g3, g4, g5, g6, g7⟩ := ih (n.tdiv p) h0 (by rw [Nat.pow_succ] at h; omega)
      simp only [spl, if_pos c]
      refine ⟨?_, g2, by omega, by omega, g5, by omega, fun h => g7 (h3 h)⟩
      rw [show ((spl p d (n.tdiv p)).1 + 1).toNat = (spl p d (n.tdiv p)).1.toNat + 1 from by omega, Int.pow_succ, Int.mul_comm (p ^ _) p, Int.mul_assoc, ← g1]
      exact h1
    · simp only [spl, if_neg c]
      refine ⟨by simp, c, by omega, by omega, hn, by omega, fun h => h⟩
/-- More rounds tell the same. -/
theorem spl_more {p : Int} (hp : 2 ≤ p) : ∀ (d : Nat) (n : Int), n ≠ 0 → n.natAbs < 2 ^ d → spl p (d + 1) n = spl p d n := by
  intro d
  induction d with
  | zero => intro n hn h; simp at h; omega
  | succ d ih =>
    intro n hn h
    by_cases c : n.tmod p = 0
    · obtain ⟨h0, h1, h2, h3, _⟩ := tdiv_abs hp hn c
      have := ih (n.tdiv p) h0 (by rw [Nat.pow_succ] at h; omega)
      simp only [spl, if_pos c] at this ⊢
      rw [this]
    · simp only [spl, if_neg c]
theorem spl_dvd {p n : Int} (d : Nat) (c : n.tmod p = 0) : spl p (d + 1) n = ((spl p d (n.tdiv p)).1 + 1, (spl p d (n.tdiv p)).2) := by simp only [spl, if_pos c]
theorem spl_not {p n : Int} (d : Nat) (c : n.tmod p ≠ 0) : spl p (d + 1) n = (0, n) := by simp only [spl, if_neg c]
theorem val_of_dvd {p n : Int} (hp : 2 ≤ p) (hn : n ≠ 0) (h : n.natAbs < 2 ^ 63) (c : n.tmod p = 0) : val p n = val p (n.tdiv p) + 1 ∧ unit p n = unit p (n.tdiv p) := by
  obtain ⟨h0, h1, h2, h3, _⟩ := tdiv_abs hp hn c
  have e := spl_more hp 63 (n.tdiv p) h0 (by omega)
  have e2 : spl p 64 n = _ := spl_dvd 63 c
  have e3 : spl p 64 (n.tdiv p) = _ := e
  unfold val unit
  rw [e2, e3]
  exact ⟨rfl, rfl⟩
theorem val_of_not {p n : Int} (c : n.tmod p ≠ 0) : val p n = 0 ∧ unit p n = n := by
  have e2 : spl p 64 n = _ := spl_not 63 c
  unfold val unit
  rw [e2]
  exact ⟨rfl, rfl⟩
theorem val_spec {p n : Int} (hp : 2 ≤ p) (hn : n ≠ 0) (h : n.natAbs < 2 ^ 63) :
    n = p ^ (val p n).toNat * unit p n ∧ (unit p n).tmod p ≠ 0 ∧ 0 ≤ val p n ∧ val p n < 64 ∧ unit p n ≠ 0 ∧ (unit p n).natAbs ≤ n.natAbs ∧ (0 < n → 0 < unit p n) :=
  spl_spec hp 64 n hn (by omega)

/-- The primes of n from p on, by trial. -/
def pl : Nat → Int → Int → List Int
  | 0, _, _ => []
  | d + 1, n, p => if p * p ≤ n then (if n.tmod p = 0 then p :: pl d (unit p n) (p + 1) else pl d n (p + 1)) else (if n > 1 then [n] else [])
def absI (n : Int) : Int := (n.natAbs : Nat)
def primes (n : Int) : List Int := pl (n.natAbs + 2) (absI n) 2
theorem pl_len : ∀ (d : Nat) (n p : Int), (pl d n p).length ≤ d
  | 0, _, _ => by simp [pl]
  | d + 1, n, p => by
    simp only [pl]
    have h1 := pl_len d (unit p n) (p + 1)
    have h2 := pl_len d n (p + 1)
    repeat' split
    all_goals simp
    all_goals omega
theorem absI_bd (n : Int) : 0 ≤ absI n := by unfold absI; omega
theorem size_ev {n : Int} (h : -9223372036854775808 < n) (h' : n ≤ 9223372036854775807) : mx n (wrap64 (-n)) = absI n := by
  rw [w64 (by omega) (by omega)]; unfold mx absI; omega
theorem pl_ge : ∀ (d : Nat) (n p : Int), 2 ≤ p → ∀ q ∈ pl d n p, 2 ≤ q
  | 0, _, _, _, q, hq => by simp [pl] at hq
  | d + 1, n, p, hp, q, hq => by
    simp only [pl] at hq
    have h1 := pl_ge d (unit p n) (p + 1) (by omega) q
    have h2 := pl_ge d n (p + 1) (by omega) q
    split at hq
    · split at hq
      · rcases List.mem_cons.1 hq with h | h
        · omega
        · exact h1 h
      · exact h2 hq
    · split at hq
      · simp at hq; omega
      · simp at hq
theorem primes_ge {n q : Int} (h : q ∈ primes n) : 2 ≤ q := pl_ge _ _ _ (by omega) q h
theorem primes_len (n : Int) : (primes n).length ≤ n.natAbs + 2 := pl_len _ _ _

end Locg

namespace Locg
def PrimeL (q : Int) : Prop := 2 ≤ q ∧ ∀ r : Int, 2 ≤ r → r ∣ q → r = q

theorem prime_mul {q a b : Int} (hq : PrimeL q) (h : q ∣ a * b) : q ∣ a ∨ q ∣ b := by
  have hg1 : ((Int.gcd q a : Nat) : Int) ∣ q := Int.gcd_dvd_left ..
  have hg2 : ((Int.gcd q a : Nat) : Int) ∣ a := Int.gcd_dvd_right ..
  rcases Nat.lt_or_ge (Int.gcd q a) 2 with h1 | h1
  · right
    have h0 : Int.gcd q a ≠ 0 := by
      intro h0; have := (Int.gcd_eq_zero_iff.1 h0).1; have := hq.1; omega
    have hc : Nat.Coprime q.natAbs a.natAbs := by
      have : Int.gcd q a = Nat.gcd q.natAbs a.natAbs := rfl
      unfold Nat.Coprime; omega
    have hd : q.natAbs ∣ a.natAbs * b.natAbs := by rw [← Int.natAbs_mul]; exact Int.natAbs_dvd_natAbs.2 h
    exact Int.natAbs_dvd_natAbs.1 (Nat.Coprime.dvd_of_dvd_mul_left hc hd)
  · left
    have := hq.2 _ (show (2 : Int) ≤ ((Int.gcd q a : Nat) : Int) by omega) hg1
    rw [this] at hg2; exact hg2

/-- Euclid: what the prime does not divide has an inverse. -/
theorem inv_ex {p : Int} (hp : PrimeL p) : ∀ (n : Nat) (k : Int), k.toNat ≤ n → 1 ≤ k → k < p → ∃ j : Int, (k * j) % p = 1 := by
  intro n
  induction n with
  | zero => intro k h h1; omega
  | succ n ih =>
    intro k hn h1 hk
    rcases Int.lt_or_le 1 k with c | c
    · have hr0 : p % k ≠ 0 := by
        intro h0
        have := hp.2 k (by omega) (Int.dvd_of_emod_eq_zero h0)
        omega
      have hr1 := Int.emod_nonneg p (show k ≠ 0 by omega)
      have hr2 := Int.emod_lt_of_pos p (show 0 < k by omega)
      obtain ⟨j, hj⟩ := ih (p % k) (by omega) (by omega) (by omega)
      refine ⟨-((p / k) * j), ?_⟩
      have e : k * -((p / k) * j) = (p % k) * j + p * (-j) := by
        have := Int.mul_ediv_add_emod p k
        have h2 : p * j = (k * (p / k) + p % k) * j := by rw [this]
        grind
      rw [e, Int.add_mul_emod_self_left]; exact hj
    · obtain rfl : k = 1 := by omega
      refine ⟨1, ?_⟩
      have := hp.1
      exact Int.emod_eq_of_lt (by omega) (by omega)

def prodL : List Int → Int
  | [] => 1
  | x :: xs => x * prodL xs
theorem prodL_perm {a b : List Int} (h : a.Perm b) : prodL a = prodL b := by
  induction h with
  | nil => rfl
  | cons x _ ih => simp [prodL, ih]
  | swap x y l => simp only [prodL]; grind
  | trans _ _ h1 h2 => rw [h1, h2]

/-- Numbers that fall into pairs with one product. -/
theorem pairing (a p : Int) (σ : Int → Int) : ∀ (n : Nat) (L : List Int), L.length ≤ n → L.Nodup →
    (∀ k ∈ L, σ k ∈ L ∧ σ k ≠ k ∧ σ (σ k) = k ∧ (k * σ k) % p = a % p) → ∃ m, L.length = 2 * m ∧ prodL L % p = a ^ m % p := by
  intro n
  induction n with
  | zero => intro L hl _ _; match L, hl with | [], _ => exact ⟨0, rfl, by simp [prodL]⟩
  | succ n ih =>
    intro L hl hd hs
    match L, hl, hd, hs with
    | [], _, _, _ => exact ⟨0, rfl, by simp [prodL]⟩
    | k :: L, hl, hd, hs =>
      have hk := hs k (by simp)
      have hd' := List.nodup_cons.1 hd
      have hmem : σ k ∈ L := by
        rcases List.mem_cons.1 hk.1 with h | h
        · exact absurd h hk.2.1
        · exact h
      have hN := hd'.2
      have hlen : (L.erase (σ k)).length + 1 = L.length := by
        have := List.length_erase_of_mem hmem
        have : 0 < L.length := List.length_pos_of_mem hmem
        omega
      obtain ⟨m, hm1, hm2⟩ := ih (L.erase (σ k)) (by simp at hl; omega) (hN.erase _) (by
        intro x hx
        have hx2 := (hN.mem_erase_iff).1 hx
        have hxk : x ≠ k := fun h => hd'.1 (h ▸ hx2.2)
        have h1 := hs x (by simp [hx2.2])
        refine ⟨?_, h1.2⟩
        rw [hN.mem_erase_iff]
        refine ⟨fun h => ?_, ?_⟩
        · have := h1.2.2.1; rw [h, hk.2.2.1] at this; exact hxk this.symm
        · rcases List.mem_cons.1 h1.1 with h | h
          · exfalso; have := h1.2.2.1; rw [h] at this; exact hx2.1 this.symm
          · exact h)
      refine ⟨m + 1, by simp; omega, ?_⟩
      have hp := prodL_perm (List.perm_cons_erase hmem)
      simp only [prodL] at hp ⊢
      rw [hp, ← Int.mul_assoc, Int.mul_emod, hk.2.2.2, hm2, ← Int.mul_emod, Int.pow_succ, Int.mul_comm]

/-- 1, 2, .., n. -/
def upto : Nat → List Int
  | 0 => []
  | n + 1 => ((n : Int) + 1) :: upto n
theorem mem_upto {n : Nat} {x : Int} : x ∈ upto n ↔ 1 ≤ x ∧ x ≤ n := by
  induction n with
  | zero => simp [upto]; omega
  | succ n ih => simp [upto, ih]; omega
theorem upto_len (n : Nat) : (upto n).length = n := by
  induction n with
  | zero => rfl
  | succ n ih => simp [upto, ih]
theorem upto_nodup (n : Nat) : (upto n).Nodup := by
  induction n with
  | zero => simp [upto]
  | succ n ih =>
    simp only [upto, List.nodup_cons]
    refine ⟨fun h => ?_, ih⟩
    have := (mem_upto.1 h).2; omega
/-- The number that gives a product, up to a prime. -/
def mate (p a k : Int) : Int := ((upto (p - 1).toNat).find? (fun j => (k * j) % p == a % p)).getD 0
theorem emod_zero_iff {p a : Int} : a % p = 0 ↔ p ∣ a := ⟨Int.dvd_of_emod_eq_zero, Int.emod_eq_zero_of_dvd⟩
theorem sub_dvd {p a b : Int} : a % p = b % p ↔ p ∣ a - b := by
  rw [← emod_zero_iff]; exact Int.emod_eq_emod_iff_emod_sub_eq_zero ..
theorem cancel {p k a b : Int} (hp : PrimeL p) (hk : k % p ≠ 0) (h : (k * a) % p = (k * b) % p) : a % p = b % p := by
  rw [sub_dvd] at h ⊢
  rw [← Int.mul_sub] at h
  rcases prime_mul hp h with h | h
  · exact absurd (emod_zero_iff.2 h) hk
  · exact h
theorem range_eq {p a b : Int} (ha : 1 ≤ a) (ha' : a < p) (hb : 1 ≤ b) (hb' : b < p) (h : a % p = b % p) : a = b := by
  rwa [Int.emod_eq_of_lt (by omega) ha', Int.emod_eq_of_lt (by omega) hb'] at h
theorem mod_self_ne {p k : Int} (h1 : 1 ≤ k) (h2 : k < p) : k % p ≠ 0 := by
  rw [Int.emod_eq_of_lt (by omega) h2]; omega
theorem mate_spec {p a k : Int} (hp : PrimeL p) (ha : a % p ≠ 0) (h1 : 1 ≤ k) (h2 : k < p) : 1 ≤ mate p a k ∧ mate p a k < p ∧ (k * mate p a k) % p = a % p := by
  have hp2 := hp.1
  have hex : ∃ j, j ∈ upto (p - 1).toNat ∧ (k * j) % p = a % p := by
    obtain ⟨j, hj⟩ := inv_ex hp k.toNat k (by omega) h1 h2
    have e : (k * (j * a % p)) % p = a % p := by
      rw [Int.mul_emod, Int.emod_emod_of_dvd _ (Int.dvd_refl p), ← Int.mul_emod, ← Int.mul_assoc, Int.mul_emod, hj, Int.one_mul, Int.emod_emod_of_dvd _ (Int.dvd_refl p)]
    refine ⟨j * a % p, ?_, e⟩
    have h3 := Int.emod_nonneg (j * a) (show p ≠ 0 by omega)
    have h4 := Int.emod_lt_of_pos (j * a) (show 0 < p by omega)
    rw [mem_upto]
    refine ⟨?_, by omega⟩
    rcases Int.lt_or_le 0 (j * a % p) with h | h
    · omega
    · exfalso
      have h0 : j * a % p = 0 := by omega
      rw [h0] at e; simp at e; exact ha e.symm
  obtain ⟨j, hj, he⟩ := hex
  unfold mate
  cases hf : (upto (p - 1).toNat).find? (fun j => (k * j) % p == a % p) with
  | none =>
    have := List.find?_eq_none.1 hf j hj
    simp at this; exact absurd he this
  | some x =>
    have hm := mem_upto.1 (List.mem_of_find?_eq_some hf)
    have hx := List.find?_some hf
    simp only [Option.getD_some]
    refine ⟨hm.1, by omega, by simpa using hx⟩
theorem mate_mate {p a k : Int} (hp : PrimeL p) (ha : a % p ≠ 0) (h1 : 1 ≤ k) (h2 : k < p) : mate p a (mate p a k) = k := by
  obtain ⟨a1, a2, a3⟩ := mate_spec hp ha h1 h2
  obtain ⟨b1, b2, b3⟩ := mate_spec hp ha a1 a2
  refine range_eq b1 b2 h1 h2 (cancel hp (mod_self_ne a1 a2) ?_)
  rw [b3, Int.mul_comm, a3]
theorem sq_roots {p x k : Int} (hp : PrimeL p) (hx1 : 1 ≤ x) (hx2 : x < p) (h1 : 1 ≤ k) (h2 : k < p) (h : (k * k) % p = (x * x) % p) : k = x ∨ k = p - x := by
  rw [sub_dvd] at h
  have e : k * k - x * x = (k - x) * (k + x) := by grind
  rw [e] at h
  rcases prime_mul hp h with h | h
  · left; exact range_eq h1 h2 hx1 hx2 (sub_dvd.2 h)
  · right
    refine range_eq h1 h2 (by omega) (by omega) (sub_dvd.2 ?_)
    obtain ⟨c, hc⟩ := h
    exact ⟨c - 1, by rw [Int.mul_sub, ← hc]; omega⟩
theorem no_root {p a : Int} (hp : PrimeL p) (ha : a % p ≠ 0) (h : ∀ x : Int, 1 ≤ x → x < p → (x * x) % p ≠ a % p) : ∃ m, (p - 1).toNat = 2 * m ∧ prodL (upto (p - 1).toNat) % p = a ^ m % p := by
  have := pairing a p (mate p a) _ (upto (p - 1).toNat) (Nat.le_refl _) (upto_nodup _) (by
    intro k hk
    have hk := mem_upto.1 hk
    have h2 : k < p := by omega
    obtain ⟨a1, a2, a3⟩ := mate_spec hp ha hk.1 h2
    refine ⟨mem_upto.2 ⟨a1, by omega⟩, fun e => ?_, mate_mate hp ha hk.1 h2, a3⟩
    rw [e] at a3; exact h k hk.1 h2 a3)
  rw [upto_len] at this
  exact this
theorem with_root {p a x : Int} (hp : PrimeL p) (h3 : 3 ≤ p) (ho : p % 2 = 1) (ha : a % p ≠ 0) (h1 : 1 ≤ x) (h2 : x < p) (h : (x * x) % p = a % p) :
    ∃ m, (p - 1).toNat = 2 * (m + 1) ∧ prodL (upto (p - 1).toNat) % p = -(a ^ (m + 1)) % p := by
  have hN := upto_nodup (p - 1).toNat
  have hx : x ∈ upto (p - 1).toNat := mem_upto.2 ⟨h1, by omega⟩
  have hne : p - x ≠ x := by omega
  have hN1 := hN.erase x
  have hy : p - x ∈ (upto (p - 1).toNat).erase x := by
    rw [hN.mem_erase_iff]; exact ⟨hne, mem_upto.2 ⟨by omega, by omega⟩⟩
  have hmem : ∀ k, k ∈ ((upto (p - 1).toNat).erase x).erase (p - x) ↔ k ≠ p - x ∧ k ≠ x ∧ 1 ≤ k ∧ k < p := by
    intro k
    rw [hN1.mem_erase_iff, hN.mem_erase_iff, mem_upto]
    refine ⟨fun ⟨q1, q2, q3, q4⟩ => ⟨q1, q2, q3, by omega⟩, fun ⟨q1, q2, q3, q4⟩ => ⟨q1, q2, q3, by omega⟩⟩
  obtain ⟨m, m1, m2⟩ := pairing a p (mate p a) _ (((upto (p - 1).toNat).erase x).erase (p - x)) (Nat.le_refl _) (hN1.erase _) (by
    intro k hk
    obtain ⟨k1, k2, k3, k4⟩ := (hmem k).1 hk
    obtain ⟨a1, a2, a3⟩ := mate_spec hp ha k3 k4
    refine ⟨(hmem _).2 ⟨fun e => ?_, fun e => ?_, a1, a2⟩, fun e => ?_, mate_mate hp ha k3 k4, a3⟩
    · have hm := mate_mate hp ha k3 k4
      rw [e] at hm a3
      apply k2
      refine range_eq k3 k4 h1 h2 (cancel (k := p - x) hp (mod_self_ne (by omega) (by omega)) ?_)
      rw [Int.mul_comm, a3, ← h]
      exfalso
      -- k (p - x) = x x, so k = -x
      have h5 : (k * (p - x)) % p = (x * x) % p := by rw [a3, h]
      have h6 : ((p - x) * k) % p = ((p - x) * (p - x)) % p := by
        rw [Int.mul_comm, h5, sub_dvd]
        exact ⟨2 * x - p, by grind⟩
      exact k1 (range_eq k3 k4 (by omega) (by omega) (cancel hp (mod_self_ne (by omega) (by omega)) h6))
    · rw [e] at a3
      have h5 : (x * k) % p = (x * x) % p := by rw [Int.mul_comm, a3, h]
      exact k2 (range_eq k3 k4 h1 h2 (cancel hp (mod_self_ne h1 h2) h5))
    · rw [e] at a3
      rcases sq_roots hp h1 h2 k3 k4 (by rw [a3, h]) with h | h
      · exact k2 h
      · exact k1 h)
  have l1 := List.length_erase_of_mem hx
  have l2 := List.length_erase_of_mem hy
  rw [upto_len] at l1
  refine ⟨m, by omega, ?_⟩
  have p1 := prodL_perm (List.perm_cons_erase hx)
  have p2 := prodL_perm (List.perm_cons_erase hy)
  simp only [prodL] at p1 p2
  rw [p1, p2, ← Int.mul_assoc, Int.mul_emod, m2]
  have e : (x * (p - x)) % p = (-a) % p := by
    have : (x * (p - x)) % p = (-(x * x)) % p := by rw [sub_dvd]; exact ⟨x, by grind⟩
    rw [this]
    rw [sub_dvd] at h ⊢
    obtain ⟨c, hc⟩ := h
    exact ⟨-c, by rw [Int.mul_neg, ← hc]; omega⟩
  rw [e, ← Int.mul_emod, Int.pow_succ]
  congr 1
  grind
theorem neg_mod {p a b : Int} (h : a % p = b % p) : (-a) % p = (-b) % p := by
  rw [sub_dvd] at h ⊢
  obtain ⟨c, hc⟩ := h
  exact ⟨-c, by rw [Int.mul_neg, ← hc]; omega⟩
theorem wilson {p : Int} (hp : PrimeL p) (h3 : 3 ≤ p) (ho : p % 2 = 1) : prodL (upto (p - 1).toNat) % p = (-1) % p := by
  have h1 : (1 : Int) % p = 1 := Int.emod_eq_of_lt (by omega) (by omega)
  obtain ⟨m, _, h⟩ := with_root (a := 1) (x := 1) hp h3 ho (by omega) (by omega) (by omega) rfl
  rw [h, Int.one_pow]
/-- Euler's criterion. -/
theorem euler_yes {p a x : Int} (hp : PrimeL p) (h3 : 3 ≤ p) (ho : p % 2 = 1) (ha : a % p ≠ 0) (h1 : 1 ≤ x) (h2 : x < p) (h : (x * x) % p = a % p) : a ^ ((p - 1) / 2).toNat % p = 1 := by
  obtain ⟨m, m1, m2⟩ := with_root hp h3 ho ha h1 h2 h
  rw [wilson hp h3 ho] at m2
  have := neg_mod m2
  rw [Int.neg_neg, Int.neg_neg] at this
  rw [show ((p - 1) / 2).toNat = m + 1 by omega, ← this]
  exact Int.emod_eq_of_lt (by omega) (by omega)
theorem euler_no {p a : Int} (hp : PrimeL p) (h3 : 3 ≤ p) (ho : p % 2 = 1) (ha : a % p ≠ 0) (h : ∀ x : Int, 1 ≤ x → x < p → (x * x) % p ≠ a % p) : a ^ ((p - 1) / 2).toNat % p = p - 1 := by
  obtain ⟨m, m1, m2⟩ := no_root hp ha h
  rw [show ((p - 1) / 2).toNat = m by omega, ← m2, wilson hp h3 ho]
  have : (-1 : Int) % p = (p - 1) % p := by rw [sub_dvd]; exact ⟨-1, by omega⟩
  rw [this]; exact Int.emod_eq_of_lt (by omega) (by omega)
theorem prime_odd {p : Int} (hp : PrimeL p) (h3 : 3 ≤ p) : p % 2 = 1 := by
  rcases Int.emod_two_eq p with h | h
  · have := hp.2 2 (by omega) (Int.dvd_of_emod_eq_zero h); omega
  · exact h
def OddP (p : Int) : Prop := PrimeL p ∧ 3 ≤ p ∧ p ≤ 5000
def resS (p r : Int) : Nat → Int → Int
  | 0, _ => -1
  | d + 1, x => if x ≤ p.tdiv 2 then (if (x * x).tmod p = r then 1 else resS p r d (x + 1)) else -1
def powS (m : Int) : Nat → Int → Int → Int → Int
  | 0, _, _, acc => acc
  | d + 1, b, e, acc => if e > 0 then (if e.tmod 2 = 1 then powS m d ((b * b).tmod m) (e.tdiv 2) ((acc * b).tmod m) else powS m d ((b * b).tmod m) (e.tdiv 2) acc) else acc
def resR (p r : Int) : Int := if r = 0 then 0 else resS p r p.toNat 1
def powR (p r : Int) : Int := powS p 13 r ((p - 1).tdiv 2) (1 % p)
def resPR (p r : Int) : Int := if powR p r = p - 1 then -1 else powR p r
/-- The residue's sign. -/
def res (p u : Int) : Int := resR p (u % p)
theorem sq_nn (a : Int) : 0 ≤ a * a := by
  rcases Int.le_total 0 a with h | h
  · exact Int.mul_nonneg h h
  · have := Int.mul_nonneg (a := -a) (b := -a) (by omega) (by omega); rw [Int.neg_mul_neg] at this; exact this
theorem emod_pow (a p : Int) : ∀ k : Nat, (a % p) ^ k % p = a ^ k % p
  | 0 => by simp
  | k + 1 => by rw [Int.pow_succ, Int.pow_succ, Int.mul_emod, emod_pow a p k, Int.emod_emod_of_dvd _ (Int.dvd_refl p), ← Int.mul_emod]
theorem resS_cases {p r : Int} (hp : 3 ≤ p) : ∀ (d : Nat) (x : Int), 1 ≤ x → p / 2 < x + d →
    (resS p r d x = 1 ∧ ∃ y, x ≤ y ∧ y ≤ p / 2 ∧ (y * y) % p = r) ∨ (resS p r d x = -1 ∧ ∀ y, x ≤ y → y ≤ p / 2 → (y * y) % p ≠ r) := by
  have e2 : p.tdiv 2 = p / 2 := Int.tdiv_eq_ediv_of_nonneg (by omega)
  intro d
  induction d with
  | zero => intro x h1 h2; right; exact ⟨rfl, fun y h3 h4 => by omega⟩
  | succ d ih =>
    intro x h1 h2
    simp only [resS, e2]
    have em : (x * x).tmod p = (x * x) % p := Int.tmod_eq_emod_of_nonneg (sq_nn x)
    by_cases c : x ≤ p / 2
    · rw [if_pos c, em]
      by_cases c2 : (x * x) % p = r
      · rw [if_pos c2]; exact Or.inl ⟨rfl, x, Int.le_refl _, c, c2⟩
      · rw [if_neg c2]
        rcases ih (x + 1) (by omega) (by omega) with ⟨h, y, y1, y2, y3⟩ | ⟨h, hy⟩
        · exact Or.inl ⟨h, y, by omega, y2, y3⟩
        · refine Or.inr ⟨h, fun y h3 h4 => ?_⟩
          rcases Int.lt_or_eq_of_le h3 with h5 | h5
          · exact hy y (by omega) h4
          · subst h5; exact c2
    · rw [if_neg c]; exact Or.inr ⟨rfl, fun y h3 h4 => by omega⟩
theorem half_root {p y : Int} (h1 : 1 ≤ y) (h2 : y < p) : ∃ z, 1 ≤ z ∧ z ≤ p / 2 ∧ (z * z) % p = (y * y) % p := by
  by_cases c : y ≤ p / 2
  · exact ⟨y, h1, c, rfl⟩
  · refine ⟨p - y, by omega, by omega, ?_⟩
    rw [sub_dvd]; exact ⟨p - 2 * y, by grind⟩
theorem powS_eq {m : Int} (hm : 1 ≤ m) : ∀ (d : Nat) (b e acc : Int), 0 ≤ b → 0 ≤ e → e < 2 ^ d → 0 ≤ acc → acc < m → powS m d b e acc = (acc * b ^ e.toNat) % m := by
  intro d
  induction d with
  | zero =>
    intro b e acc hb h0 h1 h2 h3
    obtain rfl : e = 0 := by simp at h1; omega
    simp only [powS, Int.toNat_zero, Int.pow_zero, Int.mul_one]
    exact (Int.emod_eq_of_lt h2 h3).symm
  | succ d ih =>
    intro b e acc hb h0 h1 h2 h3
    simp only [powS]
    have ht : e.tdiv 2 = e / 2 := Int.tdiv_eq_ediv_of_nonneg h0
    have hm2 : e.tmod 2 = e % 2 := Int.tmod_eq_emod_of_nonneg h0
    have hbb : (b * b).tmod m = (b * b) % m := Int.tmod_eq_emod_of_nonneg (sq_nn b)
    have hab : (acc * b).tmod m = (acc * b) % m := Int.tmod_eq_emod_of_nonneg (Int.mul_nonneg h2 hb)
    have he2 : e / 2 < 2 ^ d := by rw [Int.pow_succ] at h1; omega
    have g1 := Int.emod_nonneg (b * b) (show m ≠ 0 by omega)
    have g2 := Int.emod_nonneg (acc * b) (show m ≠ 0 by omega)
    have g3 := Int.emod_lt_of_pos (acc * b) (show 0 < m by omega)
    have sq : ∀ (c : Int) (k : Nat), (c * ((b * b) % m) ^ k) % m = (c * (b ^ (2 * k))) % m := by
      intro c k
      have : (((b * b) % m) ^ k) % m = (b ^ (2 * k)) % m := by
        rw [Int.pow_mul, show b ^ 2 = b * b from by rw [Int.pow_succ, Int.pow_succ, Int.pow_zero, Int.one_mul]]
        exact emod_pow (b * b) m k
      rw [Int.mul_emod, this, ← Int.mul_emod]
    by_cases c : e > 0
    · rw [if_pos c, ht, hm2, hbb, hab]
      by_cases c2 : e % 2 = 1
      · rw [if_pos c2, ih _ _ _ g1 (by omega) he2 g2 g3, sq, Int.mul_emod, Int.emod_emod_of_dvd _ (Int.dvd_refl m), ← Int.mul_emod, Int.mul_assoc, show e.toNat = 2 * (e / 2).toNat + 1 by omega, Int.pow_succ, Int.mul_comm b]
      · rw [if_neg c2, ih _ _ _ g1 (by omega) he2 h2 h3, sq, show e.toNat = 2 * (e / 2).toNat by omega]
    · obtain rfl : e = 0 := by omega
      rw [if_neg c]
      simp only [Int.toNat_zero, Int.pow_zero, Int.mul_one]
      exact (Int.emod_eq_of_lt h2 h3).symm
theorem powR_eq {p r : Int} (h : OddP p) (hr : 0 ≤ r) : powR p r = r ^ ((p - 1) / 2).toNat % p := by
  obtain ⟨hp, h3, h5⟩ := h
  have e2 : (p - 1).tdiv 2 = (p - 1) / 2 := Int.tdiv_eq_ediv_of_nonneg (by omega)
  have h1 : (1 : Int) % p = 1 := Int.emod_eq_of_lt (by omega) (by omega)
  unfold powR
  rw [e2, h1, powS_eq (by omega) 13 r ((p - 1) / 2) 1 hr (by omega) (by omega) (by omega) (by omega), Int.one_mul]
/-- The three values of a residue's sign, and its power. -/
theorem res_cases {p u : Int} (h : OddP p) : (u % p = 0 ∧ res p u = 0 ∧ powR p (u % p) = 0) ∨ (u % p ≠ 0 ∧ res p u = 1 ∧ powR p (u % p) = 1) ∨ (u % p ≠ 0 ∧ res p u = -1 ∧ powR p (u % p) = p - 1) := by
  have hr0 := Int.emod_nonneg u (show p ≠ 0 by have := h.2.1; omega)
  have hrp := Int.emod_lt_of_pos u (show 0 < p by have := h.2.1; omega)
  rw [powR_eq h hr0]
  obtain ⟨hp, h3, h5⟩ := h
  have ho := prime_odd hp h3
  have hee : u % p % p = u % p := Int.emod_emod_of_dvd _ (Int.dvd_refl p)
  unfold res resR
  by_cases c : u % p = 0
  · left
    refine ⟨c, if_pos c, ?_⟩
    rw [c, Int.zero_pow (by omega)]; simp
  · right
    rw [if_neg c]
    rcases resS_cases (r := u % p) h3 p.toNat 1 (by omega) (by omega) with ⟨e, y, y1, y2, y3⟩ | ⟨e, hy⟩
    · left
      exact ⟨c, e, euler_yes hp h3 ho (by omega) y1 (by omega) (by omega)⟩
    · right
      refine ⟨c, e, euler_no hp h3 ho (by omega) ?_⟩
      intro x x1 x2 hx
      obtain ⟨z, z1, z2, z3⟩ := half_root x1 x2
      exact hy z z1 z2 (by omega)
theorem res_pow {p u : Int} (h : OddP p) : res p u = resPR p (u % p) := by
  have h3 := h.2.1
  unfold resPR
  rcases res_cases (u := u) h with ⟨_, e, f⟩ | ⟨_, e, f⟩ | ⟨_, e, f⟩ <;> rw [e, f]
  · rw [if_neg (by omega)]
  · rw [if_neg (by omega)]
  · rw [if_pos rfl]
theorem res_pm {p u : Int} (h : OddP p) (hu : u % p ≠ 0) : res p u = 1 ∨ res p u = -1 := by
  rcases res_cases (u := u) h with ⟨c, e, f⟩ | ⟨_, e, f⟩ | ⟨_, e, f⟩
  · exact absurd c hu
  · exact Or.inl e
  · exact Or.inr e
theorem res_mod {p u : Int} (h : OddP p) : (res p u) % p = (u ^ ((p - 1) / 2).toNat) % p := by
  have h3 := h.2.1
  have hr0 := Int.emod_nonneg u (show p ≠ 0 by omega)
  have e1 : (u ^ ((p - 1) / 2).toNat) % p = powR p (u % p) := by rw [powR_eq h hr0]; exact (emod_pow u p _).symm
  rw [e1]
  rcases res_cases (u := u) h with ⟨c, e, f⟩ | ⟨_, e, f⟩ | ⟨_, e, f⟩ <;> rw [e, f]
  · simp
  · exact Int.emod_eq_of_lt (by omega) (by omega)
  · have : (-1 : Int) % p = (p - 1) % p := by rw [sub_dvd]; exact ⟨-1, by omega⟩
    rw [this]; exact Int.emod_eq_of_lt (by omega) (by omega)
theorem res_three {p u : Int} (h : OddP p) : res p u = 0 ∨ res p u = 1 ∨ res p u = -1 := by
  rcases res_cases (u := u) h with ⟨c, e, f⟩ | ⟨_, e, f⟩ | ⟨_, e, f⟩
  · exact Or.inl e
  · exact Or.inr (Or.inl e)
  · exact Or.inr (Or.inr e)
theorem three_eq {p a b : Int} (h3 : 3 ≤ p) (ha : a = 0 ∨ a = 1 ∨ a = -1) (hb : b = 0 ∨ b = 1 ∨ b = -1) (h : a % p = b % p) : a = b := by
  rw [sub_dvd] at h
  obtain ⟨c, hc⟩ := h
  have hb2 : -2 ≤ a - b ∧ a - b ≤ 2 := by omega
  have hc0 : c = 0 := by
    rcases Int.lt_trichotomy c 0 with k | k | k
    · have := Int.mul_le_mul_of_nonneg_left (show c ≤ -1 by omega) (show 0 ≤ p by omega); omega
    · exact k
    · have := Int.mul_le_mul_of_nonneg_left (show 1 ≤ c by omega) (show 0 ≤ p by omega); omega
  subst hc0; omega
theorem res_mul {p u v : Int} (h : OddP p) : res p (u * v) = res p u * res p v := by
  have h3 := h.2.1
  apply three_eq h3 (res_three h)
  · rcases res_three (u := u) h with e | e | e <;> rcases res_three (u := v) h with f | f | f <;> rw [e, f] <;> simp
  · rw [res_mod h, Int.mul_emod, res_mod h, res_mod h, ← Int.mul_emod, Int.mul_pow]
end Locg

namespace Locg
open Go.RowKit Go.Proofs.YtnnpafjgghpecaaW.PrintWords Go.Proofs.YtnnpafjgghpecaaW.PrintMore

/-- A place: 0, 2, or an odd prime up to 5000. -/
def Plc (p : Int) : Prop := p = 0 ∨ p = 2 ∨ OddP p
theorem prime2 : PrimeL 2 := ⟨by omega, fun r h hd => by have := Int.le_of_dvd (by omega) hd; omega⟩
theorem two_prime {p : Int} (h : p = 2 ∨ OddP p) : PrimeL p := by rcases h with rfl | h; exact prime2; exact h.1
theorem rest_eq (a : Int) {m : Int} (h : 0 < m) : Int.tmod (Int.tmod a m + m) m = a % m := by
  have h1 := Int.tmod_lt_of_pos a h
  have h2 : -m < Int.tmod a m := by
    rcases Int.le_total 0 a with c | c
    · have := Int.tmod_nonneg m c; omega
    · have e : a = -(-a) := by omega
      rw [e, Int.neg_tmod]; have := Int.tmod_lt_of_pos (-a) h; omega
  rw [Int.tmod_eq_emod_of_nonneg (by omega)]
  have e : a % m = (Int.tmod a m + m) % m := by
    have := Int.mul_tdiv_add_tmod a m
    rw [Int.add_emod_right]
    conv => lhs; rw [← this]
    rw [Int.mul_add_emod_self_left]
  exact e.symm
theorem tmod_ne {a p : Int} (h : a.tmod p ≠ 0) : a % p ≠ 0 := fun h' => h (Int.tmod_eq_zero_of_dvd (Int.dvd_of_emod_eq_zero h'))
def par (x : Int) : Nat := (x % 2).toNat
/-- The class of a number that is not 0, at a place. -/
def code (p n : Int) : Nat := if p = 0 then (if n < 0 then 1 else 0) else if p = 2 then 4 * par (val 2 n) + (unit 2 n % 8).toNat / 2 else 2 * par (val p n) + (if res p (unit p n) = 1 then 0 else 1)
def sqAt (n p : Int) : Bool := code p n == 0
def hf (e : Nat) : Int := if e % 2 = 0 then 1 else -1
def symC (p : Int) (c d : Nat) : Int :=
  if p = 0 then (if c = 1 ∧ d = 1 then -1 else 1)
  else if p = 2 then hf (c % 4 * (d % 4) + c / 4 * ((d % 4) * (d % 4 + 1) / 2) + d / 4 * ((c % 4) * (c % 4 + 1) / 2))
  else (if c / 2 = 1 ∧ d / 2 = 1 ∧ p % 4 = 3 then -1 else 1) * (if d / 2 = 1 then (if c % 2 = 0 then 1 else -1) else 1) * (if c / 2 = 1 then (if d % 2 = 0 then 1 else -1) else 1)
def sym (a b p : Int) : Int := symC p (code p a) (code p b)
theorem par_cases (x : Int) : (par x = 0 ∧ x % 2 = 0) ∨ (par x = 1 ∧ x % 2 = 1) := by unfold par; omega
theorem code_zero {n : Int} (hn : n ≠ 0) : sqAt n 0 = decide (n > 0) := by
  unfold sqAt code
  by_cases h : n < 0
  · simp [h]; omega
  · simp [h]; omega
theorem hf_pm (e : Nat) : hf e = 1 ∨ hf e = -1 := by unfold hf; split <;> simp
theorem symC_pm (p : Int) (c d : Nat) : symC p c d = 1 ∨ symC p c d = -1 := by
  unfold symC
  split
  · split <;> simp
  · split
    · exact hf_pm _
    · repeat' split
      all_goals simp
theorem sym_pm (a b p : Int) : sym a b p = 1 ∨ sym a b p = -1 := symC_pm _ _ _
theorem symC_comm {p : Int} {c d : Nat} : symC p c d = symC p d c := by
  unfold symC
  split
  · simp only [and_comm]
  · split
    · congr 1; rw [Nat.mul_comm (c % 4) (d % 4)]; omega
    · rw [Int.mul_right_comm]; congr 2
      simp only [← and_assoc, and_comm]
theorem sym_comm (a b p : Int) : sym a b p = sym b a p := symC_comm
/-- The class of 2: the unit is odd. -/
theorem unit2 {n : Int} (hn : n ≠ 0) (h : n.natAbs < 2 ^ 63) : unit 2 n % 8 = 1 ∨ unit 2 n % 8 = 3 ∨ unit 2 n % 8 = 5 ∨ unit 2 n % 8 = 7 := by
  have := tmod_ne (val_spec (p := 2) (by omega) hn h).2.1
  omega
/-- A power of p, times what p does not divide. -/
theorem val_pow {p u : Int} (hp : 2 ≤ p) (hu : u.tmod p ≠ 0) : ∀ (k : Nat), (p ^ k * u).natAbs < 2 ^ 63 → val p (p ^ k * u) = k ∧ unit p (p ^ k * u) = u
  | 0, _ => by have := val_of_not hu; simpa using this
  | k + 1, h => by
    have hu0 : u ≠ 0 := by intro h0; subst h0; simp at hu
    have e : p ^ (k + 1) * u = p * (p ^ k * u) := by rw [Int.pow_succ, Int.mul_comm (p ^ k) p, Int.mul_assoc]
    have hk0 : p ^ k * u ≠ 0 := Int.mul_ne_zero (by have := Int.pow_pos (n := p) (m := k) (by omega); omega) hu0
    have hle : (p ^ k * u).natAbs ≤ (p ^ (k + 1) * u).natAbs := by
      have h1 : (p * (p ^ k * u)).natAbs = p.natAbs * (p ^ k * u).natAbs := Int.natAbs_mul _ _
      rw [e, h1]; exact Nat.le_mul_of_pos_left _ (by omega)
    have ih := val_pow hp hu k (Nat.lt_of_le_of_lt hle h)
    have hd : (p * (p ^ k * u)).tdiv p = p ^ k * u := Int.mul_tdiv_cancel_left _ (by omega)
    have hm : (p * (p ^ k * u)).tmod p = 0 := Int.mul_tmod_right _ _
    have := val_of_dvd hp (n := p * (p ^ k * u)) (Int.mul_ne_zero (show p ≠ 0 by omega) hk0) (by rw [← e]; exact h) hm
    rw [hd, ih.1, ih.2] at this
    rw [e]; exact ⟨by rw [this.1]; simp, this.2⟩
theorem P7_bd {p : Int} (h : p = 2 ∨ OddP p) : 2 ≤ p := by
  rcases h with h | h
  · omega
  · have := h.2.1; omega
theorem val_mul {p a b : Int} (h : p = 2 ∨ OddP p) (ha : a ≠ 0) (hb : b ≠ 0) (hab : (a * b).natAbs < 2 ^ 63) :
    val p (a * b) = val p a + val p b ∧ unit p (a * b) = unit p a * unit p b := by
  have hp := P7_bd h
  have la : a.natAbs ≤ (a * b).natAbs := by rw [Int.natAbs_mul]; exact Nat.le_mul_of_pos_right _ (by omega)
  have lb : b.natAbs ≤ (a * b).natAbs := by rw [Int.natAbs_mul]; exact Nat.le_mul_of_pos_left _ (by omega)
  obtain ⟨a1, a2, a3, _⟩ := val_spec hp ha (by omega)
  obtain ⟨b1, b2, b3, _⟩ := val_spec hp hb (by omega)
  have e : a * b = p ^ ((val p a).toNat + (val p b).toNat) * (unit p a * unit p b) := by
    rw [Int.pow_add]
    conv => lhs; rw [a1, b1]
    rw [Int.mul_assoc, Int.mul_assoc, Int.mul_left_comm (unit p a)]
  have hnz : (unit p a * unit p b).tmod p ≠ 0 := by
    intro h0
    rcases prime_mul (two_prime h) (Int.dvd_of_tmod_eq_zero h0) with h1 | h1
    · exact a2 (Int.tmod_eq_zero_of_dvd h1)
    · exact b2 (Int.tmod_eq_zero_of_dvd h1)
  have := val_pow hp hnz ((val p a).toNat + (val p b).toNat) (by rw [← e]; exact hab)
  rw [← e] at this
  exact ⟨by rw [this.1]; omega, this.2⟩
theorem code_lt (p n : Int) (hn : n ≠ 0) (h : n.natAbs < 2 ^ 63) : code p n < 8 := by
  unfold code
  have := par_cases (val 2 n); have := par_cases (val p n)
  split
  · split <;> omega
  · split
    · have := unit2 hn h; omega
    · split <;> omega
theorem code_lt2 (n : Int) : code 0 n < 2 := by unfold code; simp only [if_true]; split <;> omega
theorem code_lt4 (p n : Int) (h0 : p ≠ 0) (h2 : p ≠ 2) : code p n < 4 := by
  unfold code
  rw [if_neg h0, if_neg h2]
  have := par_cases (val p n)
  split <;> omega
theorem xor_tab : ∀ i ∈ List.range 2, ∀ j ∈ List.range 2, ∀ x ∈ [1, 3, 5, 7], ∀ y ∈ [1, 3, 5, 7], 4 * ((i + j) % 2) + (x * y % 8) / 2 = (4 * i + x / 2) ^^^ (4 * j + y / 2) := by decide
theorem xor_tab4 : ∀ i ∈ List.range 2, ∀ j ∈ List.range 2, ∀ x ∈ List.range 2, ∀ y ∈ List.range 2, 2 * ((i + j) % 2) + ((x + y) % 2) = (2 * i + x) ^^^ (2 * j + y) := by decide
theorem code_mul {p a b : Int} (h : Plc p) (ha : a ≠ 0) (hb : b ≠ 0) (hab : (a * b).natAbs < 2 ^ 63) : code p (a * b) = code p a ^^^ code p b := by
  have la : a.natAbs ≤ (a * b).natAbs := by rw [Int.natAbs_mul]; exact Nat.le_mul_of_pos_right _ (by omega)
  have lb : b.natAbs ≤ (a * b).natAbs := by rw [Int.natAbs_mul]; exact Nat.le_mul_of_pos_left _ (by omega)
  rcases h with rfl | h
  · unfold code
    simp only [if_true]
    rcases Int.lt_or_lt_of_ne ha with h1 | h1
    · rcases Int.lt_or_lt_of_ne hb with h2 | h2
      · have := Int.mul_pos_of_neg_of_neg h1 h2
        rw [if_neg (by omega), if_pos h1, if_pos h2]; rfl
      · have := Int.mul_neg_of_neg_of_pos h1 h2
        rw [if_pos this, if_pos h1, if_neg (by omega)]; rfl
    · rcases Int.lt_or_lt_of_ne hb with h2 | h2
      · have := Int.mul_neg_of_pos_of_neg h1 h2
        rw [if_pos this, if_neg (by omega), if_pos h2]; rfl
      · have := Int.mul_pos h1 h2
        rw [if_neg (by omega), if_neg (by omega), if_neg (by omega)]; rfl
  · have hv := val_mul h ha hb hab
    have hp := P7_bd h
    unfold code
    simp only [if_neg (show ¬ p = 0 by omega)]
    rcases h with rfl | h6
    · simp only [if_true]
      rw [hv.1, hv.2]
      have ua := unit2 ha (by omega)
      have ub := unit2 hb (by omega)
      have t := xor_tab (par (val 2 a)) (by have := par_cases (val 2 a); rw [List.mem_range]; omega) (par (val 2 b)) (by have := par_cases (val 2 b); rw [List.mem_range]; omega)
        (unit 2 a % 8).toNat (by simp only [List.mem_cons, List.not_mem_nil, or_false]; omega) (unit 2 b % 8).toNat (by simp only [List.mem_cons, List.not_mem_nil, or_false]; omega)
      rw [← t]
      have e1 : par (val 2 a + val 2 b) = (par (val 2 a) + par (val 2 b)) % 2 := by unfold par; omega
      have e2 : (unit 2 a * unit 2 b % 8).toNat = (unit 2 a % 8).toNat * (unit 2 b % 8).toNat % 8 := by
        rw [Int.mul_emod]
        rcases ua with h1 | h1 | h1 | h1 <;> rcases ub with h2 | h2 | h2 | h2 <;> rw [h1, h2] <;> rfl
      rw [e1, e2]
    · have h2 := h6.2
      simp only [if_neg (show ¬ p = 2 by omega)]
      rw [hv.1, hv.2, res_mul h6]
      have ra := res_pm h6 (tmod_ne (val_spec hp ha (by omega)).2.1)
      have rb := res_pm h6 (tmod_ne (val_spec hp hb (by omega)).2.1)
      have e1 : par (val p a + val p b) = (par (val p a) + par (val p b)) % 2 := by unfold par; omega
      rw [e1]
      have pa := par_cases (val p a)
      have pb := par_cases (val p b)
      have t := xor_tab4 (par (val p a)) (by rw [List.mem_range]; omega) (par (val p b)) (by rw [List.mem_range]; omega)
      rcases ra with h1 | h1 <;> rcases rb with h2 | h2 <;> rw [h1, h2]
      · exact t 0 (by decide) 0 (by decide)
      · exact t 0 (by decide) 1 (by decide)
      · exact t 1 (by decide) 0 (by decide)
      · exact t 1 (by decide) 1 (by decide)

end Locg

namespace Locg
open Go.RowKit Go.Proofs.YtnnpafjgghpecaaW.PrintWords Go.Proofs.YtnnpafjgghpecaaW.PrintMore

def Sm (x : Int) : Prop := x ≠ 0 ∧ x.natAbs ≤ 30
def prodF : List Int → Int → Int
  | [], acc => acc
  | x :: xs, acc => prodF xs (acc * x)
def prod (xs : List Int) : Int := prodF xs 1
def lessF : List Int → Int → Int
  | [], acc => acc
  | x :: xs, acc => lessF xs (if x < 0 then acc + 1 else acc)
def less (xs : List Int) : Int := lessF xs 0
def inn (p x : Int) : List Int → Int → Int
  | [], acc => acc
  | y :: ys, acc => inn p x ys (acc * sym x y p)
def outr (p : Int) : List Int → List Int → Int → Int
  | _, [], acc => acc
  | pre, x :: xs, acc => outr p (pre ++ [x]) xs (inn p x pre acc)
def inv (xs : List Int) (p : Int) : Int := outr p [] xs 1
def van (xs : List Int) (p : Int) : Bool :=
  if p = 0 then decide (less xs > 0) && decide (less xs < (xs.length : Int))
  else if (xs.length : Int) = 2 then sqAt (-(prod xs)) p
  else if (xs.length : Int) = 3 then inv xs p == sym (-1) (-(prod xs)) p
  else if (xs.length : Int) = 4 then !(sqAt (prod xs) p) || (inv xs p == sym (-1) (-1) p)
  else false
def planes (xs : List Int) (p : Int) : Int :=
  if p = 0 then mn (less xs) ((xs.length : Int) - less xs)
  else if van xs p = true then (if (xs.length : Int) = 4 ∧ sqAt (prod xs) p = true then 2 else 1) else 0
def formOk (xs : List Int) : Bool := xs.all (fun x => decide (x ≠ 0) && decide (x.natAbs ≤ 30)) && (decide (1 ≤ xs.length) && decide (xs.length ≤ 4))
theorem formOk_iff {xs : List Int} : formOk xs = true ↔ (∀ x ∈ xs, Sm x) ∧ 1 ≤ xs.length ∧ xs.length ≤ 4 := by
  simp [formOk, Sm, and_assoc]
theorem pm_mul {a b : Int} (ha : a = 1 ∨ a = -1) (hb : b = 1 ∨ b = -1) : (a * b = 1 ∨ a * b = -1) ∧ wrap64 (a * b) = a * b := by
  rcases ha with rfl | rfl <;> rcases hb with rfl | rfl <;> decide +kernel
theorem inn_pm (p x : Int) : ∀ (ys : List Int) (acc : Int), (acc = 1 ∨ acc = -1) → inn p x ys acc = 1 ∨ inn p x ys acc = -1
  | [], acc, h => h
  | y :: ys, acc, h => inn_pm p x ys _ (pm_mul h (sym_pm x y p)).1
theorem prodF_bd : ∀ (xs : List Int) (acc : Int) (j : Nat), (∀ x ∈ xs, Sm x) → acc ≠ 0 → acc.natAbs ≤ 30 ^ j → prodF xs acc ≠ 0 ∧ (prodF xs acc).natAbs ≤ 30 ^ (j + xs.length)
  | [], acc, j, _, h0, h => ⟨h0, h⟩
  | x :: xs, acc, j, hx, h0, h => by
    have h1 := hx x (by simp)
    have h2 : (acc * x).natAbs ≤ 30 ^ (j + 1) := by rw [Int.natAbs_mul, Nat.pow_succ]; exact Nat.mul_le_mul h h1.2
    have := prodF_bd xs (acc * x) (j + 1) (fun y hy => hx y (by simp [hy])) (Int.mul_ne_zero h0 h1.1) h2
    simp only [prodF, List.length_cons]
    rw [show j + (xs.length + 1) = j + 1 + xs.length from by omega]
    exact this
theorem prod_bd4 {xs : List Int} (hx : ∀ x ∈ xs, Sm x) (hl : xs.length ≤ 5) : prod xs ≠ 0 ∧ (prod xs).natAbs ≤ 24300000 := by
  have := prodF_bd xs 1 0 hx (by omega) (by simp)
  have h2 : 30 ^ (0 + xs.length) ≤ 30 ^ 5 := Nat.pow_le_pow_right (by omega) (by omega)
  exact ⟨this.1, by unfold prod; omega⟩
theorem lessF_bd : ∀ (xs : List Int) (acc : Int), acc ≤ lessF xs acc ∧ lessF xs acc ≤ acc + xs.length
  | [], acc => by simp [lessF]
  | x :: xs, acc => by
    have h1 := lessF_bd xs (acc + 1)
    have h2 := lessF_bd xs acc
    simp only [lessF, List.length_cons]
    split <;> omega
theorem less_bd (xs : List Int) : 0 ≤ less xs ∧ less xs ≤ xs.length := by have := lessF_bd xs 0; unfold less; omega

end Locg

namespace Locg
open Go.RowKit Go.Proofs.YtnnpafjgghpecaaW.PrintWords Go.Proofs.YtnnpafjgghpecaaW.PrintMore

def nC (p : Int) : Nat := if p = 2 then 8 else 4
def mC (p : Int) : Nat := if p = 0 then 1 else if p = 2 then 3 else if p % 4 = 3 then 1 else 0
theorem code_in {p n : Int} (hn : n ≠ 0) (h : n.natAbs < 2 ^ 63) : code p n ∈ List.range (nC p) := by
  unfold nC
  rw [List.mem_range]
  split
  · exact code_lt p n hn h
  · rename_i h2
    by_cases c : p = 0
    · subst c; have := code_lt2 n; omega
    · exact code_lt4 p n c h2
/-- A place of the same kind, out of four. -/
def kd (p : Int) : Int := if p = 0 then 0 else if p = 2 then 2 else if p % 4 = 3 then 3 else 5
def K4 : List Int := [0, 2, 3, 5]
theorem kd_mem (p : Int) : kd p ∈ K4 := by unfold kd K4; simp only [List.mem_cons, List.not_mem_nil, or_false]; repeat' split; all_goals omega
theorem kd_cases {p : Int} (h : Plc p) : (p = 0 ∧ kd p = 0) ∨ (p = 2 ∧ kd p = 2) ∨ (OddP p ∧ p ≠ 0 ∧ p ≠ 2 ∧ p % 4 = 3 ∧ kd p = 3) ∨ (OddP p ∧ p ≠ 0 ∧ p ≠ 2 ∧ p % 4 = 1 ∧ kd p = 5) := by
  rcases h with rfl | rfl | h
  · exact Or.inl ⟨rfl, rfl⟩
  · exact Or.inr (Or.inl ⟨rfl, rfl⟩)
  · have h3 := h.2.1
    have ho := prime_odd h.1 h3
    unfold kd
    rw [if_neg (by omega), if_neg (by omega)]
    by_cases c : p % 4 = 3
    · rw [if_pos c]; exact Or.inr (Or.inr (Or.inl ⟨h, by omega, by omega, c, rfl⟩))
    · rw [if_neg c]; exact Or.inr (Or.inr (Or.inr ⟨h, by omega, by omega, by omega, rfl⟩))
theorem kd_zero {p : Int} (h : Plc p) : kd p = 0 ↔ p = 0 := by rcases kd_cases h with ⟨a, b⟩ | ⟨a, b⟩ | ⟨_, a, _, _, b⟩ | ⟨_, a, _, _, b⟩ <;> omega
theorem kd_two {p : Int} (h : Plc p) : kd p = 2 ↔ p = 2 := by rcases kd_cases h with ⟨a, b⟩ | ⟨a, b⟩ | ⟨_, _, a, _, b⟩ | ⟨_, _, a, _, b⟩ <;> omega
theorem nC_kd {p : Int} (h : Plc p) : nC p = nC (kd p) := by unfold nC; have := kd_two h; split <;> split <;> omega
theorem mC_kd {p : Int} (h : Plc p) : mC p = mC (kd p) := by
  rcases kd_cases h with ⟨a, b⟩ | ⟨a, b⟩ | ⟨_, a0, a, c, b⟩ | ⟨_, a0, a, c, b⟩
  · rw [b, a]
  · rw [b, a]
  · rw [b]; unfold mC; rw [if_neg a0, if_neg a, if_pos c]; rfl
  · rw [b]; unfold mC; rw [if_neg a0, if_neg a, if_neg (by omega)]; rfl
theorem symC_kd {p : Int} (h : Plc p) (c d : Nat) : symC p c d = symC (kd p) c d := by
  rcases kd_cases h with ⟨a, b⟩ | ⟨a, b⟩ | ⟨_, a0, a, q, b⟩ | ⟨_, a0, a, q, b⟩
  · rw [b, a]
  · rw [b, a]
  · rw [b]; unfold symC; rw [if_neg a0, if_neg a, if_neg (show ¬ (3 : Int) = 0 by decide), if_neg (show ¬ (3 : Int) = 2 by decide), q]; rfl
  · rw [b]; unfold symC; rw [if_neg a0, if_neg a, if_neg (show ¬ (5 : Int) = 0 by decide), if_neg (show ¬ (5 : Int) = 2 by decide), q]; rfl
theorem val_unit_one {p : Int} (h : 2 ≤ p) : val p 1 = 0 ∧ unit p 1 = 1 := val_of_not (by rw [Int.tmod_eq_of_lt (by omega) (by omega)]; omega)
theorem val_unit_neg {p : Int} (h : 2 ≤ p) : val p (-1) = 0 ∧ unit p (-1) = -1 := val_of_not (by rw [Int.neg_tmod, Int.tmod_eq_of_lt (by omega) (by omega)]; omega)
theorem res_one {p : Int} (h : OddP p) : res p 1 = 1 := by
  have h3 := h.2.1
  exact three_eq h3 (res_three h) (by omega) (by rw [res_mod h, Int.one_pow])
theorem neg_pow_two (k : Nat) : ((-1 : Int)) ^ (2 * k) = 1 := by rw [Int.pow_mul, show ((-1 : Int)) ^ 2 = 1 from rfl, Int.one_pow]
theorem res_neg {p : Int} (h : OddP p) : res p (-1) = if p % 4 = 3 then -1 else 1 := by
  have h3 := h.2.1
  have ho := prime_odd h.1 h3
  refine three_eq h3 (res_three h) (by split <;> omega) ?_
  rw [res_mod h]
  by_cases c : p % 4 = 3
  · rw [if_pos c, show ((p - 1) / 2).toNat = 2 * ((p - 3) / 4).toNat + 1 by omega, Int.pow_succ, neg_pow_two]; rfl
  · rw [if_neg c, show ((p - 1) / 2).toNat = 2 * ((p - 1) / 4).toNat by omega, neg_pow_two]
theorem code_one {p : Int} (h : Plc p) : code p 1 = 0 := by
  rcases h with rfl | rfl | h
  · rfl
  · decide +kernel
  · have h3 := h.2.1
    have := val_unit_one (p := p) (by omega)
    unfold code; rw [if_neg (by omega), if_neg (by omega), this.1, this.2, res_one h]; rfl
theorem code_neg {p : Int} (h : Plc p) : code p (-1) = mC p := by
  rcases h with rfl | rfl | h
  · rfl
  · decide +kernel
  · have h3 := h.2.1
    have := val_unit_neg (p := p) (by omega)
    have c0 : ¬ p = 0 := by omega
    have c2 : ¬ p = 2 := by omega
    unfold code mC; simp only [if_neg c0, if_neg c2, this.1, this.2, res_neg h]
    by_cases c : p % 4 = 3
    · simp only [if_pos c]; rfl
    · simp only [if_neg c]; rfl
theorem code_opp {p n : Int} (h : Plc p) (hn : n ≠ 0) (hN : n.natAbs < 2 ^ 63) : code p (-n) = mC p ^^^ code p n := by
  have e : -n = (-1) * n := by omega
  rw [e, code_mul h (by omega) hn (by rw [← e]; omega), code_neg h]
theorem symC_one {p : Int} (h : Plc p) {d : Nat} (hd : d ∈ List.range (nC p)) : symC p 0 d = 1 ∧ symC p d 0 = 1 := by
  have : ∀ p ∈ K4, ∀ d ∈ List.range (nC p), symC p 0 d = 1 ∧ symC p d 0 = 1 := by decide +kernel
  rw [symC_kd h, symC_kd h]; rw [nC_kd h] at hd; exact this _ (kd_mem p) d hd
theorem sq_code {p n : Int} : sqAt n p = (code p n == 0) := rfl
theorem prod2 (a b : Int) : prod [a, b] = a * b := by simp [prod, prodF]
theorem prod3 (a b c : Int) : prod [a, b, c] = a * b * c := by simp [prod, prodF]
theorem prod4 (a b c d : Int) : prod [a, b, c, d] = a * b * c * d := by simp [prod, prodF]
theorem inv3 (a b c p : Int) : inv [a, b, c] p = sym b a p * sym c a p * sym c b p := by simp [inv, outr, inn]
theorem inv4 (a b c d p : Int) : inv [a, b, c, d] p = sym b a p * sym c a p * sym c b p * sym d a p * sym d b p * sym d c p := by simp [inv, outr, inn]
theorem mul_sm {a b : Int} {A B : Nat} (ha : a ≠ 0 ∧ a.natAbs ≤ A) (hb : b ≠ 0 ∧ b.natAbs ≤ B) : a * b ≠ 0 ∧ (a * b).natAbs ≤ A * B :=
  ⟨Int.mul_ne_zero ha.1 hb.1, by rw [Int.natAbs_mul]; exact Nat.mul_le_mul ha.2 hb.2⟩
theorem code2 {p a b : Int} (h : Plc p) (ha : Sm a) (hb : Sm b) : code p (a * b) = code p a ^^^ code p b :=
  code_mul h ha.1 hb.1 (by have := (mul_sm ha hb).2; omega)
theorem code3 {p a b c : Int} (h : Plc p) (ha : Sm a) (hb : Sm b) (hc : Sm c) : code p (a * b * c) = code p a ^^^ code p b ^^^ code p c := by
  have h1 := mul_sm ha hb
  rw [code_mul h h1.1 hc.1 (by have := (mul_sm h1 hc).2; omega), code2 h ha hb]
theorem code4 {p a b c d : Int} (h : Plc p) (ha : Sm a) (hb : Sm b) (hc : Sm c) (hd : Sm d) : code p (a * b * c * d) = code p a ^^^ code p b ^^^ code p c ^^^ code p d := by
  have h1 := mul_sm ha hb
  have h2 := mul_sm h1 hc
  rw [code_mul h h2.1 hd.1 (by have := (mul_sm h2 hd).2; omega), code3 h ha hb hc]
theorem sm_i {a : Int} (h : Sm a) : a.natAbs < 2 ^ 63 := by have := h.2; omega
/-- A form vanishes at a place, told by classes. -/
def vanC (p : Int) : List Nat → Bool
  | [c, d] => (mC p ^^^ (c ^^^ d)) == 0
  | [c, d, e] => symC p d c * symC p e c * symC p e d == symC p (mC p) (mC p ^^^ (c ^^^ d ^^^ e))
  | [c, d, e, f] => !((c ^^^ d ^^^ e ^^^ f) == 0) || (symC p d c * symC p e c * symC p e d * symC p f c * symC p f d * symC p f e == symC p (mC p) (mC p))
  | _ => false
theorem vanC_kd {p : Int} (h : Plc p) (l : List Nat) : vanC p l = vanC (kd p) l := by
  unfold vanC
  split <;> simp only [symC_kd h, mC_kd h]
theorem van_code {p : Int} (h : Plc p) (h0 : p ≠ 0) {xs : List Int} (hx : ∀ x ∈ xs, Sm x) (hl : xs.length ≤ 5) : van xs p = vanC p (xs.map (code p)) := by
  unfold van
  rw [if_neg h0]
  match xs, hx, hl with
  | [], _, _ => rfl
  | [a], _, _ => rfl
  | [a, b], hx, _ =>
    have ha := hx a (by simp); have hb := hx b (by simp)
    have h1 := mul_sm ha hb
    simp only [List.length_cons, List.length_nil, List.map, vanC, sq_code, prod2]
    rw [if_pos (by omega), code_opp h h1.1 (by omega), code2 h ha hb]
  | [a, b, c], hx, _ =>
    have ha := hx a (by simp); have hb := hx b (by simp); have hc := hx c (by simp)
    have h1 := mul_sm (mul_sm ha hb) hc
    simp only [List.length_cons, List.length_nil, List.map, vanC, sq_code, prod3, inv3]
    rw [if_neg (by omega), if_pos (by omega)]
    unfold sym
    rw [code_opp h h1.1 (by omega), code3 h ha hb hc, code_neg h]
  | [a, b, c, d], hx, _ =>
    have ha := hx a (by simp); have hb := hx b (by simp); have hc := hx c (by simp); have hd := hx d (by simp)
    simp only [List.length_cons, List.length_nil, List.map, vanC, sq_code, prod4, inv4]
    rw [if_neg (by omega), if_neg (by omega), if_pos (by omega)]
    unfold sym
    rw [code4 h ha hb hc hd, code_neg h]
  | [a, b, c, d, e], _, _ => rfl
theorem planes_pos {xs : List Int} {p : Int} : decide (planes xs p > 0) = van xs p := by
  unfold planes
  have hs := less_bd xs
  by_cases c0 : p = 0
  · rw [if_pos c0]
    unfold van mn
    rw [if_pos c0, ← Bool.decide_and]
    apply decide_eq_decide.2
    split <;> omega
  · rw [if_neg c0]
    by_cases cv : van xs p = true
    · rw [if_pos cv, cv]; split <;> simp
    · rw [if_neg cv, Bool.eq_false_iff.2 cv]; simp
theorem van_len {xs : List Int} {p : Int} (h0 : p ≠ 0) (h : van xs p = true) : 2 ≤ xs.length := by
  unfold van at h
  rw [if_neg h0] at h
  by_cases c2 : (xs.length : Int) = 2
  · omega
  · by_cases c3 : (xs.length : Int) = 3
    · omega
    · by_cases c4 : (xs.length : Int) = 4
      · omega
      · rw [if_neg c2, if_neg c3, if_neg c4] at h; simp at h
theorem planes_half (xs : List Int) (p : Int) : 0 ≤ planes xs p ∧ 2 * planes xs p ≤ (xs.length : Int) := by
  unfold planes
  have hs := less_bd xs
  by_cases c0 : p = 0
  · rw [if_pos c0]; unfold mn; split <;> omega
  · rw [if_neg c0]
    by_cases cv : van xs p = true
    · have := van_len c0 cv
      rw [if_pos cv]; split <;> omega
    · rw [if_neg cv]; omega
end Locg

namespace Locg
open Go.RowKit Go.Proofs.YtnnpafjgghpecaaW.PrintWords Go.Proofs.YtnnpafjgghpecaaW.PrintMore

theorem sm_opp {t : Int} (h : Sm t) : Sm (-t) := by unfold Sm at h ⊢; omega
theorem van0 (xs : List Int) : van xs 0 = (decide (less xs > 0) && decide (less xs < (xs.length : Int))) := by unfold van; rw [if_pos rfl]
theorem code0 (n : Int) : code 0 n = if n < 0 then 1 else 0 := by unfold code; rw [if_pos rfl]
end Locg

namespace Locg
open Go.RowKit Go.Proofs.YtnnpafjgghpecaaW.PrintWords Go.Proofs.YtnnpafjgghpecaaW.PrintMore

theorem pow_split {p : Int} {a b : Nat} (h : a ≤ b) : p ^ b = p ^ a * p ^ (b - a) := by rw [← Int.pow_add]; congr 1; omega
theorem code_bit {p : Int} (h : OddP p) (n : Int) : ∃ b ∈ List.range 2, code p n = 2 * par (val p n) + b := by
  have h3 := h.2.1
  have c2 : ¬ p = 2 := by omega
  have c0 : ¬ p = 0 := by omega
  unfold code
  simp only [if_neg c0, if_neg c2]
  by_cases c : res p (unit p n) = 1
  · exact ⟨0, by simp, by rw [if_pos c]⟩
  · exact ⟨1, by simp, by rw [if_neg c]⟩
end Locg

namespace Locg
open Go.RowKit Go.Proofs.YtnnpafjgghpecaaW.PrintWords Go.Proofs.YtnnpafjgghpecaaW.PrintMore

def alk (xs ys : List Int) (p : Int) : Bool := if p = 0 then less xs == less ys else sqAt (prod xs * prod ys) p && (inv xs p == inv ys p)
theorem pp_sm {xs ys : List Int} (hx : ∀ x ∈ xs, Sm x) (hy : ∀ x ∈ ys, Sm x) (h1 : xs.length ≤ 5) (h2 : ys.length ≤ 5) : prod xs * prod ys ≠ 0 ∧ (prod xs * prod ys).natAbs < 2 ^ 63 := by
  have a := prod_bd4 hx h1
  have b := prod_bd4 hy h2
  have := mul_sm a b
  exact ⟨this.1, by have := this.2; omega⟩
end Locg

namespace Locg
open Go.RowKit Go.Proofs.YtnnpafjgghpecaaW.PrintWords Go.Proofs.YtnnpafjgghpecaaW.PrintMore

/-- The value of a form at a vector. -/
def qv : List Int → List Int → Int
  | x :: xs, v :: vs => x * v * v + qv xs vs
  | _, _ => 0
/-- A square times a number. -/
theorem code_sqm {p a x : Int} (h : Plc p) (ha : a ≠ 0) (hx : x ≠ 0) (hb : (a * x * x).natAbs < 2 ^ 63) : code p (a * x * x) = code p a := by
  have h1 : a * x ≠ 0 := Int.mul_ne_zero ha hx
  have h2 : (a * x).natAbs ≤ (a * x * x).natAbs := by rw [Int.natAbs_mul (a * x)]; exact Nat.le_mul_of_pos_right _ (by omega)
  rw [code_mul h h1 hx hb, code_mul h ha hx (by omega), Nat.xor_assoc, Nat.xor_self, Nat.xor_zero]
theorem ne_kd {p : Int} (h : Plc p) (h0 : p ≠ 0) : kd p ≠ 0 := fun e => h0 ((kd_zero h).1 e)
end Locg

namespace Locg
open Go.RowKit Go.Proofs.YtnnpafjgghpecaaW.PrintWords Go.Proofs.YtnnpafjgghpecaaW.PrintMore

def trial (n : Int) : Nat → Int → Bool
  | 0, _ => true
  | d + 1, x => if x * x ≤ n then (if n.tmod x = 0 then false else trial n d (x + 1)) else true
def placeOk (p : Int) : Bool := decide (p = 0) || (decide (p ≤ 5000) && (decide (p ≥ 2) && trial p 70 2))
theorem trial_iff {n : Int} (hn : 2 ≤ n) (hN : n ≤ 5000) : ∀ (d : Nat) (x : Int), 2 ≤ x → 72 ≤ x + d → (∀ r : Int, 2 ≤ r → r < x → ¬ r ∣ n) → (trial n d x = true ↔ ∀ r : Int, 2 ≤ r → r * r ≤ n → ¬ r ∣ n) := by
  intro d
  induction d with
  | zero =>
    intro x h1 h2 hr
    simp only [trial, true_iff]
    intro r r1 r2
    refine hr r r1 ?_
    exact lt_of_sq (by omega) (by have := sq_le (show (0 : Int) ≤ 72 by omega) (show 72 ≤ x by omega); omega)
  | succ d ih =>
    intro x h1 h2 hr
    simp only [trial]
    by_cases c : x * x ≤ n
    · rw [if_pos c]
      by_cases c2 : n.tmod x = 0
      · rw [if_pos c2]
        simp only [Bool.false_eq_true, false_iff]
        intro h; exact h x h1 c (Int.dvd_of_tmod_eq_zero c2)
      · rw [if_neg c2]
        refine ih (x + 1) (by omega) (by omega) (fun r r1 r2 hd => ?_)
        rcases Int.lt_or_eq_of_le (show r ≤ x by omega) with h4 | h4
        · exact hr r r1 h4 hd
        · subst h4; exact c2 (Int.tmod_eq_zero_of_dvd hd)
    · rw [if_neg c]
      simp only [true_iff]
      intro r r1 r2
      refine hr r r1 (lt_of_sq (by omega) (by omega))
theorem prime_iff {n : Int} (hn : 2 ≤ n) : PrimeL n ↔ ∀ r : Int, 2 ≤ r → r * r ≤ n → ¬ r ∣ n := by
  constructor
  · intro h r r1 r2 hd
    have := h.2 r r1 hd
    subst this
    have := Int.mul_le_mul_of_nonneg_right r1 (show 0 ≤ r by omega)
    omega
  · intro h
    refine ⟨hn, fun r r1 hd => ?_⟩
    obtain ⟨s, hs⟩ := hd
    have hs0 : 0 < s := by
      rcases Int.lt_or_le 0 s with h | h
      · exact h
      · have := Int.mul_nonneg (show 0 ≤ r by omega) (show 0 ≤ -s by omega); rw [Int.mul_neg] at this; omega
    rcases Int.lt_or_le 1 s with h1 | h1
    · exfalso
      rcases Int.le_total r s with h2 | h2
      · have := Int.mul_le_mul_of_nonneg_left h2 (show 0 ≤ r by omega)
        exact h r r1 (by omega) ⟨s, hs⟩
      · have := Int.mul_le_mul_of_nonneg_right h2 (show 0 ≤ s by omega)
        exact h s (by omega) (by omega) ⟨r, by rw [Int.mul_comm]; exact hs⟩
    · have : s = 1 := by omega
      subst this; omega
theorem placeOk_iff {p : Int} : placeOk p = true ↔ Plc p := by
  unfold placeOk Plc OddP
  by_cases c : p = 0
  · simp [c]
  · by_cases c5 : p ≤ 5000
    · by_cases c2 : p ≥ 2
      · rw [decide_eq_false c, decide_eq_true c5, decide_eq_true c2, Bool.false_or, Bool.true_and, Bool.true_and, trial_iff c2 c5 70 2 (by omega) (by omega) (fun r r1 r2 => by omega), ← prime_iff c2]
        constructor
        · intro h
          rcases Int.lt_or_eq_of_le c2 with h2 | h2
          · exact Or.inr (Or.inr ⟨h, by omega, c5⟩)
          · exact Or.inr (Or.inl h2.symm)
        · rintro (h | h | h)
          · exact absurd h c
          · subst h; exact prime2
          · exact h.1
      · rw [decide_eq_false c, decide_eq_false c2]
        simp only [Bool.false_and, Bool.and_false, Bool.or_false, Bool.false_eq_true, false_iff]
        rintro (h | h | h) <;> omega
    · rw [decide_eq_false c, decide_eq_false c5]
      simp only [Bool.false_and, Bool.or_false, Bool.false_eq_true, false_iff]
      rintro (h | h | h) <;> omega

end Locg

namespace Locg
open Go.RowKit Go.Proofs.YtnnpafjgghpecaaW.PrintWords Go.Proofs.YtnnpafjgghpecaaW.PrintMore

def TT : List Int := [1, 2, 3, 5, 6, 7, 10, 12, 15, 4, 21, 30, 8, -1, -2, -3, -5, -6, -7, -10, -12, -15, -4, -21, -30, -8]
theorem TT_sm {x : Int} (h : x ∈ TT) : Sm x := by
  have : ∀ x ∈ TT, x ≠ 0 ∧ x.natAbs ≤ 30 := by decide +kernel
  exact this x h
theorem pl_prime : ∀ (d : Nat) (n p : Int), 2 ≤ p → 0 < n → n.natAbs < 2 ^ 63 → (∀ r : Int, 2 ≤ r → r < p → ¬ r ∣ n) → ∀ q ∈ pl d n p, q ∣ n ∧ PrimeL q := by
  intro d
  induction d with
  | zero => intro n p _ _ _ _ q hq; simp [pl] at hq
  | succ d ih =>
    intro n p hp hn hN hr q hq
    simp only [pl] at hq
    by_cases c : p * p ≤ n
    · rw [if_pos c] at hq
      by_cases c2 : n.tmod p = 0
      · rw [if_pos c2] at hq
        have hpn : p ∣ n := Int.dvd_of_tmod_eq_zero c2
        rcases List.mem_cons.1 hq with h | h
        · subst h
          refine ⟨hpn, hp, fun r h2 hd => ?_⟩
          have hle := Int.le_of_dvd (by omega) hd
          rcases Int.lt_or_eq_of_le hle with h | h
          · exact absurd (Int.dvd_trans hd hpn) (hr r h2 h)
          · exact h
        · have hv := val_spec hp (show n ≠ 0 by omega) hN
          have hud : unit p n ∣ n := ⟨p ^ (val p n).toNat, by rw [Int.mul_comm]; exact hv.1⟩
          have := ih (unit p n) (p + 1) (by omega) (hv.2.2.2.2.2.2 hn) (by omega) (fun r h2 h3 hd => by
            rcases Int.lt_or_eq_of_le (show r ≤ p by omega) with h4 | h4
            · exact hr r h2 h4 (Int.dvd_trans hd hud)
            · subst h4; exact hv.2.1 (Int.tmod_eq_zero_of_dvd hd)) q h
          exact ⟨Int.dvd_trans this.1 hud, this.2⟩
      · rw [if_neg c2] at hq
        exact ih n (p + 1) (by omega) hn hN (fun r h2 h3 hd => by
            rcases Int.lt_or_eq_of_le (show r ≤ p by omega) with h4 | h4
            · exact hr r h2 h4 hd
            · subst h4; exact c2 (Int.tmod_eq_zero_of_dvd hd)) q hq
    · rw [if_neg c] at hq
      by_cases c2 : n > 1
      · rw [if_pos c2] at hq
        have h := List.mem_singleton.1 hq
        subst h
        refine ⟨Int.dvd_refl _, by omega, fun r h2 hd => ?_⟩
        have hle := Int.le_of_dvd hn hd
        have hrp : p ≤ r := by
          rcases Int.lt_or_le r p with h | h
          · exact absurd hd (hr r h2 h)
          · exact h
        obtain ⟨s, hs⟩ := hd
        have hs1 : 1 ≤ s := by
          rcases Int.lt_or_le 0 s with h | h
          · omega
          · have := Int.mul_nonneg (show 0 ≤ r by omega) (show 0 ≤ -s by omega); rw [Int.mul_neg] at this; omega
        rcases Int.lt_or_eq_of_le hs1 with h | h
        · have hsp : p ≤ s := by
            rcases Int.lt_or_le s p with h3 | h3
            · exact absurd ⟨r, by rw [Int.mul_comm]; exact hs⟩ (hr s (by omega) h3)
            · exact h3
          have := Int.mul_le_mul hrp hsp (by omega) (by omega)
          omega
        · subst h; omega
      · rw [if_neg c2] at hq; simp at hq
theorem prime_pow {q p : Int} (hq : PrimeL q) : ∀ k : Nat, q ∣ p ^ k → q ∣ p
  | 0, h => by
    rw [Int.pow_zero] at h
    have := Int.le_of_dvd (by omega) h; have := hq.1; omega
  | k + 1, h => by
    rw [Int.pow_succ] at h
    rcases prime_mul hq h with h | h
    · exact prime_pow hq k h
    · exact h
theorem least_prime {n p : Int} (hp : 2 ≤ p) (hr : ∀ r : Int, 2 ≤ r → r < p → ¬ r ∣ n) (hpn : p ∣ n) : PrimeL p := by
  refine ⟨hp, fun r h2 hd => ?_⟩
  have hle := Int.le_of_dvd (by omega) hd
  rcases Int.lt_or_eq_of_le hle with h | h
  · exact absurd (Int.dvd_trans hd hpn) (hr r h2 h)
  · exact h
theorem no_small {n p : Int} (hn : 1 < n) (hp : 2 ≤ p) (hpp : ¬ p * p ≤ n) (hr : ∀ r : Int, 2 ≤ r → r < p → ¬ r ∣ n) : PrimeL n := by
  rw [prime_iff (by omega)]
  intro r r1 r2
  exact hr r r1 (lt_of_sq (by omega) (by omega))
theorem pl_all : ∀ (d : Nat) (n p : Int), 2 ≤ p → 0 < n → n.natAbs < 2 ^ 63 → n + 2 - p ≤ d → 1 ≤ d → (∀ r : Int, 2 ≤ r → r < p → ¬ r ∣ n) →
    (∀ q, PrimeL q → q ∣ n → q ∈ pl d n p) ∧ (pl d n p).Pairwise (· < ·) ∧ ∀ q ∈ pl d n p, p ≤ q := by
  intro d
  induction d with
  | zero => intro n p _ _ _ _ h1; omega
  | succ d ih =>
    intro n p hp hn hN hd h1 hr
    simp only [pl]
    by_cases c : p * p ≤ n
    · have hpn : 2 * p ≤ n := by have := Int.mul_le_mul_of_nonneg_right hp (show 0 ≤ p by omega); omega
      rw [if_pos c]
      by_cases c2 : n.tmod p = 0
      · have hpd := Int.dvd_of_tmod_eq_zero c2
        have hpP := least_prime hp hr hpd
        obtain ⟨v1, v2, v3, v4, v5, v6, v7⟩ := val_spec hp (show n ≠ 0 by omega) hN
        have hud : unit p n ∣ n := ⟨p ^ (val p n).toNat, by rw [Int.mul_comm]; exact v1⟩
        have hr2 : ∀ r : Int, 2 ≤ r → r < p + 1 → ¬ r ∣ unit p n := by
          intro r h2 h3 hd
          rcases Int.lt_or_eq_of_le (show r ≤ p by omega) with h4 | h4
          · exact hr r h2 h4 (Int.dvd_trans hd hud)
          · subst h4; exact v2 (Int.tmod_eq_zero_of_dvd hd)
        obtain ⟨i1, i2, i3⟩ := ih (unit p n) (p + 1) (by omega) (v7 hn) (by omega) (by omega) (by omega) hr2
        rw [if_pos c2]
        refine ⟨fun q hq hqd => ?_, ?_, ?_⟩
        · rw [v1] at hqd
          rcases prime_mul hq hqd with h | h
          · have := hpP.2 q hq.1 (prime_pow hq _ h)
            rw [this]; exact List.mem_cons_self
          · exact List.mem_cons_of_mem _ (i1 q hq h)
        · rw [List.pairwise_cons]
          exact ⟨fun q hq => by have := i3 q hq; omega, i2⟩
        · intro q hq
          rcases List.mem_cons.1 hq with h | h
          · omega
          · have := i3 q h; omega
      · rw [if_neg c2]
        obtain ⟨i1, i2, i3⟩ := ih n (p + 1) (by omega) hn hN (by omega) (by omega) (fun r h2 h3 he => by
          rcases Int.lt_or_eq_of_le (show r ≤ p by omega) with h4 | h4
          · exact hr r h2 h4 he
          · exact c2 (Int.tmod_eq_zero_of_dvd (h4 ▸ he)))
        exact ⟨i1, i2, fun q hq => by have := i3 q hq; omega⟩
    · rw [if_neg c]
      by_cases c2 : n > 1
      · rw [if_pos c2]
        have hnP := no_small c2 hp c hr
        refine ⟨fun q hq hqd => ?_, by simp, ?_⟩
        · rw [hnP.2 q hq.1 hqd]; simp
        · intro q hq
          obtain rfl := List.mem_singleton.1 hq
          rcases Int.lt_or_le q p with h | h
          · exact absurd (Int.dvd_refl q) (hr q (by omega) h)
          · exact h
      · rw [if_neg c2]
        refine ⟨fun q hq hqd => ?_, by simp, by simp⟩
        have := Int.le_of_dvd hn hqd; have := hq.1; omega
theorem absI_dvd {q n : Int} : q ∣ absI n ↔ q ∣ n := by unfold absI; exact Int.dvd_natAbs
theorem primes_iff {n q : Int} (hn : n ≠ 0) (h : n.natAbs < 2 ^ 63) : q ∈ primes n ↔ PrimeL q ∧ q ∣ n := by
  have ha : 0 < absI n ∧ (absI n).natAbs < 2 ^ 63 ∧ absI n + 2 - 2 ≤ ((n.natAbs + 2 : Nat) : Int) := by unfold absI; omega
  constructor
  · intro hq
    have := pl_prime (n.natAbs + 2) (absI n) 2 (by omega) ha.1 ha.2.1 (fun r h2 h3 => by omega) q hq
    exact ⟨this.2, absI_dvd.1 this.1⟩
  · rintro ⟨h1, h2⟩
    exact (pl_all (n.natAbs + 2) (absI n) 2 (by omega) ha.1 ha.2.1 ha.2.2 (by omega) (fun r h2 h3 => by omega)).1 q h1 (absI_dvd.2 h2)
theorem primes_sorted {n : Int} (hn : n ≠ 0) (h : n.natAbs < 2 ^ 63) : (primes n).Pairwise (· < ·) := by
  have ha : 0 < absI n ∧ (absI n).natAbs < 2 ^ 63 ∧ absI n + 2 - 2 ≤ ((n.natAbs + 2 : Nat) : Int) := by unfold absI; omega
  exact (pl_all (n.natAbs + 2) (absI n) 2 (by omega) ha.1 ha.2.1 ha.2.2 (by omega) (fun r h2 h3 => by omega)).2.1
/-- Two ascending lists with the same numbers are one. -/
theorem sorted_ext : ∀ {a b : List Int}, a.Pairwise (· < ·) → b.Pairwise (· < ·) → (∀ x, x ∈ a ↔ x ∈ b) → a = b
  | [], [], _, _, _ => rfl
  | [], y :: b, _, _, h => by have := (h y).2 (by simp); simp at this
  | x :: a, [], _, _, h => by have := (h x).1 (by simp); simp at this
  | x :: a, y :: b, ha, hb, h => by
    rw [List.pairwise_cons] at ha hb
    have hxy : x = y := by
      have h1 := (h x).1 (by simp)
      have h2 := (h y).2 (by simp)
      rcases List.mem_cons.1 h1 with e | e
      · exact e
      · rcases List.mem_cons.1 h2 with e2 | e2
        · exact e2.symm
        · have := hb.1 x e; have := ha.1 y e2; omega
    subst hxy
    rw [sorted_ext ha.2 hb.2 (fun z => ?_)]
    constructor
    · intro hz
      rcases List.mem_cons.1 ((h z).1 (List.mem_cons_of_mem _ hz)) with e | e
      · have := ha.1 z hz; omega
      · exact e
    · intro hz
      rcases List.mem_cons.1 ((h z).2 (List.mem_cons_of_mem _ hz)) with e | e
      · have := hb.1 z hz; omega
      · exact e
def PP : List Int := [0, 2, 3, 5, 7, 11, 13, 17, 19, 23, 29]
def plOf (xs : List Int) (p : Int) : Bool := p == 0 || (p == 2 || xs.any (fun x => x % p == 0))
/-- The places of a list of small numbers. -/
def plc (xs : List Int) : List Int := PP.filter (plOf xs)
theorem PP_sorted : PP.Pairwise (· < ·) := by unfold PP; decide
theorem PP_plc {p : Int} (h : p ∈ PP) : Plc p := by
  have : ∀ p ∈ PP, placeOk p = true := by decide +kernel
  exact placeOk_iff.1 (this p h)
theorem PP_prime {p : Int} (h : PrimeL p) (h30 : p ≤ 30) : p ∈ PP := by
  have t : ∀ p ∈ List.range 31, 2 ≤ p → placeOk (p : Int) = true → (p : Int) ∈ PP := by decide +kernel
  have h2 := h.1
  have hp : Plc p := by
    rcases Int.lt_or_eq_of_le h2 with h3 | h3
    · exact Or.inr (Or.inr ⟨h, by omega, by omega⟩)
    · exact Or.inr (Or.inl h3.symm)
  have := t p.toNat (by rw [List.mem_range]; omega) (by omega) (by rw [Int.toNat_of_nonneg (by omega)]; exact placeOk_iff.2 hp)
  rwa [Int.toNat_of_nonneg (by omega)] at this
theorem plc_mem {xs : List Int} {p : Int} : p ∈ plc xs ↔ p ∈ PP ∧ (p = 0 ∨ p = 2 ∨ ∃ x ∈ xs, p ∣ x) := by
  unfold plc plOf
  rw [List.mem_filter]
  simp only [Bool.or_eq_true, beq_iff_eq, List.any_eq_true]
  simp only [Int.dvd_iff_emod_eq_zero]
theorem plc_plc {xs : List Int} {p : Int} (h : p ∈ plc xs) : Plc p := PP_plc (plc_mem.1 h).1
theorem plc_sorted (xs : List Int) : (plc xs).Pairwise (· < ·) := PP_sorted.filter _
theorem prime_sm {q x : Int} (hq : PrimeL q) (hx : Sm x) (h : q ∣ x) : q ∈ PP ∧ 2 ≤ q := by
  have : q.natAbs ≤ x.natAbs := Nat.le_of_dvd (by have := hx.1; omega) (Int.natAbs_dvd_natAbs.2 h)
  have := hx.2; have := hq.1
  exact ⟨PP_prime hq (by omega), hq.1⟩
theorem prodF_dvd {q : Int} (hq : PrimeL q) : ∀ (xs : List Int) (acc : Int), q ∣ prodF xs acc ↔ q ∣ acc ∨ ∃ x ∈ xs, q ∣ x
  | [], acc => by simp [prodF]
  | x :: xs, acc => by
    simp only [prodF, prodF_dvd hq xs (acc * x), List.mem_cons, exists_eq_or_imp]
    constructor
    · rintro (h | h)
      · rcases prime_mul hq h with h | h
        · exact Or.inl h
        · exact Or.inr (Or.inl h)
      · exact Or.inr (Or.inr h)
    · rintro (h | h | h)
      · exact Or.inl (Int.dvd_trans h (Int.dvd_mul_right _ _))
      · exact Or.inl (Int.dvd_trans h (Int.dvd_mul_left _ _))
      · exact Or.inr h
theorem prod_dvd {q : Int} (hq : PrimeL q) (xs : List Int) : q ∣ prod xs ↔ ∃ x ∈ xs, q ∣ x := by
  unfold prod
  rw [prodF_dvd hq]
  constructor
  · rintro (h | h)
    · have := Int.le_of_dvd (by omega) h; have := hq.1; omega
    · exact h
  · exact Or.inr
/-- The reference's places: of a product. -/
def placesL (n : Int) : List Int := [0, 2] ++ (primes n).filter (fun x => decide (x > 2))
theorem placesL_plc {xs : List Int} {n : Int} (hx : ∀ x ∈ xs, Sm x) (hn : n ≠ 0) (h : n.natAbs < 2 ^ 63) (hd : ∀ q, PrimeL q → (q ∣ n ↔ ∃ x ∈ xs, q ∣ x)) : placesL n = plc xs := by
  refine sorted_ext ?_ (plc_sorted xs) (fun q => ?_)
  · unfold placesL
    rw [List.cons_append, List.cons_append, List.nil_append, List.pairwise_cons, List.pairwise_cons]
    have hs := (primes_sorted hn h).filter (fun x : Int => decide (x > 2))
    have hg : ∀ y ∈ (primes n).filter (fun x : Int => decide (x > 2)), 2 < y := fun y hy => by simpa using (List.mem_filter.1 hy).2
    refine ⟨fun y hy => ?_, hg, hs⟩
    rcases List.mem_cons.1 hy with e | e
    · omega
    · have := hg y e; omega
  · rw [plc_mem]
    unfold placesL
    rw [List.mem_append, List.mem_filter, primes_iff hn h]
    simp only [List.mem_cons, List.not_mem_nil, or_false, decide_eq_true_eq]
    constructor
    · rintro ((e | e) | ⟨⟨h1, h2⟩, h3⟩)
      · exact ⟨by rw [e]; decide, Or.inl e⟩
      · exact ⟨by rw [e]; decide, Or.inr (Or.inl e)⟩
      · obtain ⟨x, hm, hd2⟩ := (hd q h1).1 h2
        exact ⟨(prime_sm h1 (hx x hm) hd2).1, Or.inr (Or.inr ⟨x, hm, hd2⟩)⟩
    · rintro ⟨h1, e | e | ⟨x, hm, hd2⟩⟩
      · exact Or.inl (Or.inl e)
      · exact Or.inl (Or.inr e)
      · have hp := PP_plc h1
        rcases hp with e | e | e
        · exact Or.inl (Or.inl e)
        · exact Or.inl (Or.inr e)
        · exact Or.inr ⟨⟨e.1, (hd q e.1).2 ⟨x, hm, hd2⟩⟩, by have := e.2.1; omega⟩
theorem places_prod {xs : List Int} (hx : ∀ x ∈ xs, Sm x) (hl : xs.length ≤ 5) : placesL (prod xs) = plc xs := by
  have hb := prod_bd4 hx hl
  exact placesL_plc hx hb.1 (by omega) (fun q hq => prod_dvd hq xs)
/-- The program's places: primes one behind the other, sorted. -/
def addP : List Int → List Int → List Int
  | out, [] => out
  | out, q :: qs => addP (if out.contains q then out else out ++ [q]) qs
def addAll : List Int → List Int → List Int
  | out, [] => out
  | out, x :: xs => addAll (addP out (primes x)) xs
theorem addP_spec : ∀ (qs out : List Int), out.Nodup → (addP out qs).Nodup ∧ (∀ y, y ∈ addP out qs ↔ y ∈ out ∨ y ∈ qs) ∧ (addP out qs).length ≤ out.length + qs.length
  | [], out, h => ⟨h, by simp [addP], by simp [addP]⟩
  | q :: qs, out, h => by
    simp only [addP]
    by_cases c : out.contains q = true
    · rw [if_pos c]
      obtain ⟨h1, h2, h3⟩ := addP_spec qs out h
      refine ⟨h1, fun y => ?_, by simp only [List.length_cons]; omega⟩
      rw [h2, List.mem_cons]
      have hq : q ∈ out := by simpa using c
      constructor
      · rintro (e | e)
        · exact Or.inl e
        · exact Or.inr (Or.inr e)
      · rintro (e | e | e)
        · exact Or.inl e
        · exact Or.inl (e ▸ hq)
        · exact Or.inr e
    · rw [if_neg c]
      have hq : q ∉ out := by simpa using c
      obtain ⟨h1, h2, h3⟩ := addP_spec qs (out ++ [q]) (by rw [List.nodup_append]; exact ⟨h, by simp, fun a ha b hb => by rw [List.mem_singleton.1 hb]; intro e; subst e; exact hq ha⟩)
      refine ⟨h1, fun y => ?_, by rw [List.length_append] at h3; simp only [List.length_cons, List.length_nil] at h3 ⊢; omega⟩
      rw [h2, List.mem_append, List.mem_singleton, List.mem_cons, or_assoc]
theorem addAll_spec : ∀ (xs out : List Int), out.Nodup → (addAll out xs).Nodup ∧ (∀ y, y ∈ addAll out xs ↔ y ∈ out ∨ ∃ x ∈ xs, y ∈ primes x)
  | [], out, h => ⟨h, by simp [addAll]⟩
  | x :: xs, out, h => by
    simp only [addAll]
    obtain ⟨h1, h2, _⟩ := addP_spec (primes x) out h
    obtain ⟨h3, h4⟩ := addAll_spec xs (addP out (primes x)) h1
    refine ⟨h3, fun y => ?_⟩
    rw [h4, h2]
    simp only [List.mem_cons, exists_eq_or_imp, or_assoc]
def sortI (l : List Int) : List Int := l.mergeSort fun x y => decide (x ≤ y)
theorem sortI_plc {xs : List Int} (hx : ∀ x ∈ xs, Sm x) : sortI (addAll [0, 2] xs) = plc xs := by
  obtain ⟨h1, h2⟩ := addAll_spec xs [0, 2] (by decide)
  have hperm := List.mergeSort_perm (addAll [0, 2] xs) (fun x y => decide (x ≤ y))
  have hs := List.pairwise_mergeSort (le := fun x y : Int => decide (x ≤ y)) (by intro a b c; simp only [decide_eq_true_eq]; omega) (by intro a b; simp only [Bool.or_eq_true, decide_eq_true_eq]; omega) (addAll [0, 2] xs)
  have hn : (sortI (addAll [0, 2] xs)).Nodup := hperm.nodup_iff.2 h1
  refine sorted_ext ?_ (plc_sorted xs) (fun q => ?_)
  · have := hs.and hn
    refine this.imp ?_
    intro a b h
    have h5 : a ≤ b := by simpa using h.1
    have := h.2; omega
  · show q ∈ List.mergeSort _ _ ↔ _
    rw [hperm.mem_iff, h2, plc_mem]
    constructor
    · rintro (e | ⟨x, hm, e⟩)
      · simp only [List.mem_cons, List.not_mem_nil, or_false] at e
        rcases e with e | e
        · exact ⟨by rw [e]; decide, Or.inl e⟩
        · exact ⟨by rw [e]; decide, Or.inr (Or.inl e)⟩
      · have hsx := hx x hm
        rw [primes_iff hsx.1 (sm_i hsx)] at e
        exact ⟨(prime_sm e.1 hsx e.2).1, Or.inr (Or.inr ⟨x, hm, e.2⟩)⟩
    · rintro ⟨h1, e | e | ⟨x, hm, hd2⟩⟩
      · exact Or.inl (by rw [e]; simp)
      · exact Or.inl (by rw [e]; simp)
      · have hsx := hx x hm
        rcases PP_plc h1 with e | e | e
        · exact Or.inl (by rw [e]; simp)
        · exact Or.inl (by rw [e]; simp)
        · exact Or.inr ⟨x, hm, (primes_iff hsx.1 (sm_i hsx)).2 ⟨e.1, hd2⟩⟩

end Locg

namespace Locg
open Go.RowKit Go.Proofs.YtnnpafjgghpecaaW.PrintWords Go.Proofs.YtnnpafjgghpecaaW.PrintMore

theorem prime_div : ∀ (k : Nat) (n : Int), n.toNat ≤ k → 1 < n → ∃ q, PrimeL q ∧ q ∣ n := by
  intro k
  induction k with
  | zero => intro n h h1; omega
  | succ k ih =>
    intro n h h1
    by_cases c : PrimeL n
    · exact ⟨n, c, Int.dvd_refl n⟩
    · have : ∃ r : Int, 2 ≤ r ∧ r ∣ n ∧ r ≠ n := by
        apply Classical.byContradiction
        intro hno
        apply c
        refine ⟨by omega, fun r h2 hd => ?_⟩
        apply Classical.byContradiction
        intro hne
        exact hno ⟨r, h2, hd, hne⟩
      obtain ⟨r, r1, r2, r3⟩ := this
      have hle := Int.le_of_dvd (by omega) r2
      obtain ⟨q, q1, q2⟩ := ih r (by omega) (by omega)
      exact ⟨q, q1, Int.dvd_trans q2 r2⟩
theorem mul_natAbs_le {a b : Int} (hb : b ≠ 0) : a.natAbs ≤ (a * b).natAbs := by rw [Int.natAbs_mul]; exact Nat.le_mul_of_pos_right _ (by omega)
/-- A positive number all of whose valuations are even is a square. -/
theorem sq_of_even : ∀ (k : Nat) (n : Int), n.toNat ≤ k → 0 < n → n.natAbs < 2 ^ 63 → (∀ q, PrimeL q → q ∣ n → q ≤ 5000 ∧ par (val q n) = 0) → ∃ m, m ≠ 0 ∧ n = m * m := by
  intro k
  induction k with
  | zero => intro n h h1; omega
  | succ k ih =>
    intro n h h1 hN hq
    by_cases c : n = 1
    · exact ⟨1, by omega, by omega⟩
    · obtain ⟨q, q1, q2⟩ := prime_div n.toNat n (Nat.le_refl _) (by omega)
      obtain ⟨q5, qv⟩ := hq q q1 q2
      have hq2 := q1.1
      obtain ⟨v1, v2, v3, v4, v5, v6, v7⟩ := val_spec hq2 (show n ≠ 0 by omega) hN
      have hv : 2 ≤ (val q n).toNat := by
        have hp := par_cases (val q n)
        rcases Nat.lt_or_ge (val q n).toNat 1 with h0 | h0
        · exfalso
          rw [show (val q n).toNat = 0 by omega, Int.pow_zero, Int.one_mul] at v1
          rw [← v1] at v2
          exact v2 (Int.tmod_eq_zero_of_dvd q2)
        · omega
      have e : n = (q ^ ((val q n).toNat - 2) * unit q n) * q * q := by
        conv => lhs; rw [v1, pow_split hv]
        rw [show q ^ 2 = q * q from by rw [Int.pow_succ, Int.pow_succ, Int.pow_zero, Int.one_mul]]
        grind
      generalize hm : q ^ ((val q n).toNat - 2) * unit q n = m at e
      have hm0 : 0 < m := by
        rw [← hm]; exact Int.mul_pos (Int.pow_pos (by omega)) (v7 h1)
      have hmm : m * q * q = n := e.symm
      have hmq : 2 * m ≤ m * q := by have := Int.mul_le_mul_of_nonneg_left hq2 (show 0 ≤ m by omega); omega
      have hmq2 : m * q ≤ m * q * q := by have := Int.mul_le_mul_of_nonneg_left (show 1 ≤ q by omega) (show 0 ≤ m * q by omega); omega
      have place : ∀ r, PrimeL r → r ≤ 5000 → r = 2 ∨ OddP r := fun r h1 h5 => by
        have := h1.1
        by_cases c : r = 2
        · exact Or.inl c
        · exact Or.inr ⟨h1, by omega, h5⟩
      obtain ⟨x, x0, hx⟩ := ih m (by omega) hm0 (by omega) (fun r r1 r2 => by
        obtain ⟨r5, rv⟩ := hq r r1 (by rw [e, Int.mul_assoc]; exact Int.dvd_trans r2 (Int.dvd_mul_right _ _))
        refine ⟨r5, ?_⟩
        have hr := place r r1 r5
        have e1 := (val_mul hr (show m * q ≠ 0 by omega) (show q ≠ 0 by omega) (by rw [hmm]; exact hN)).1
        have e2 := (val_mul hr (show m ≠ 0 by omega) (show q ≠ 0 by omega) (by omega)).1
        rw [hmm, e2] at e1
        generalize val r m = a at e1 ⊢
        generalize val r q = b at e1
        rw [e1] at rv
        unfold par at rv ⊢; omega)
      exact ⟨x * q, Int.mul_ne_zero x0 (by omega), by rw [← hmm, hx]; grind⟩
theorem par_of_code {p n : Int} (h : p = 2 ∨ OddP p) (hc : code p n = 0) : par (val p n) = 0 := by
  have h2 := P7_bd h
  unfold code at hc
  rw [if_neg (by omega)] at hc
  by_cases c : p = 2
  · rw [if_pos c] at hc; subst c; omega
  · rw [if_neg c] at hc; omega
/-- A number of the class of 1 at all its places is a square. -/
theorem sq_places {n : Int} (hn : n ≠ 0) (hN : n.natAbs < 2 ^ 63) (h0 : code 0 n = 0) (hq : ∀ q, PrimeL q → q ∣ n → q ≤ 5000 ∧ code q n = 0) : ∃ m, m ≠ 0 ∧ n = m * m := by
  have hpos : 0 < n := by
    rw [code0] at h0
    by_cases c : n < 0
    · rw [if_pos c] at h0; omega
    · omega
  refine sq_of_even n.toNat n (Nat.le_refl _) hpos hN (fun q q1 q2 => ?_)
  obtain ⟨q5, qc⟩ := hq q q1 q2
  have := q1.1
  refine ⟨q5, par_of_code ?_ qc⟩
  by_cases c : q = 2
  · exact Or.inl c
  · exact Or.inr ⟨q1, by omega, q5⟩
theorem code_square {p m : Int} (h : Plc p) (hm : m ≠ 0) (hN : (m * m).natAbs < 2 ^ 63) : code p (m * m) = 0 := by
  rw [code_mul h hm hm hN, Nat.xor_self]
/-- No square but 1 divides. -/
def SqFree (c : Int) : Prop := c ≠ 0 ∧ ∀ d : Int, 2 ≤ d → ¬ d * d ∣ c
theorem core_half {c c' s s' : Int} (hc : SqFree c) (hs' : 1 ≤ s') (hg : Int.gcd s s' = 1) (e : c * (s * s) = c' * (s' * s')) : s' = 1 := by
  have hd : s' * s' ∣ c * (s * s) := by rw [e]; exact Int.dvd_mul_left _ _
  have h1 : (s'.natAbs * s'.natAbs) ∣ c.natAbs * (s.natAbs * s.natAbs) := by
    rw [← Int.natAbs_mul, ← Int.natAbs_mul, ← Int.natAbs_mul]; exact Int.natAbs_dvd_natAbs.2 hd
  have hcop : Nat.Coprime s'.natAbs s.natAbs := by
    unfold Nat.Coprime; rw [Nat.gcd_comm]; exact hg
  have h2 : Nat.Coprime (s'.natAbs * s'.natAbs) (s.natAbs * s.natAbs) := by
    exact Nat.Coprime.mul_left (Nat.Coprime.mul_right hcop hcop) (Nat.Coprime.mul_right hcop hcop)
  have h3 := Nat.Coprime.dvd_of_dvd_mul_right h2 h1
  have h4 : s' * s' ∣ c := by
    rw [← Int.natAbs_dvd_natAbs, Int.natAbs_mul]; exact h3
  rcases Int.lt_or_le 1 s' with h | h
  · exact absurd h4 (hc.2 s' (by omega))
  · omega
/-- Core and root are told by their product. -/
theorem core_unique {c c' r r' : Int} (hc : SqFree c) (hc' : SqFree c') (hr : 1 ≤ r) (hr' : 1 ≤ r') (e : c * (r * r) = c' * (r' * r')) : c = c' ∧ r = r' := by
  have hg0 : 0 < Int.gcd r r' := Int.gcd_pos_of_ne_zero_left _ (by omega)
  obtain ⟨s, hs⟩ := Int.gcd_dvd_left r r'
  obtain ⟨s', hs'⟩ := Int.gcd_dvd_right r r'
  generalize hgg : Int.gcd r r' = g at hg0 hs hs'
  have hg1 : (0 : Int) < (g : Int) := by omega
  have hs1 : 1 ≤ s := by
    rcases Int.lt_or_le 0 s with h | h
    · omega
    · have := Int.mul_nonneg (show 0 ≤ (g : Int) by omega) (show 0 ≤ -s by omega); rw [Int.mul_neg] at this; omega
  have hs1' : 1 ≤ s' := by
    rcases Int.lt_or_le 0 s' with h | h
    · omega
    · have := Int.mul_nonneg (show 0 ≤ (g : Int) by omega) (show 0 ≤ -s' by omega); rw [Int.mul_neg] at this; omega
  have hcop : Int.gcd s s' = 1 := by
    have h1 : Int.gcd ((g : Int) * s) ((g : Int) * s') = g * Int.gcd s s' := by rw [Int.gcd_mul_left]; simp
    rw [← hs, ← hs', hgg] at h1
    exact Nat.eq_of_mul_eq_mul_left hg0 (by omega)
  have e2 : c * (s * s) = c' * (s' * s') := by
    have hgg0 : ((g : Int) * (g : Int)) ≠ 0 := Int.mul_ne_zero (by omega) (by omega)
    apply Int.eq_of_mul_eq_mul_left hgg0
    rw [hs, hs'] at e
    grind
  have q1 := core_half hc hs1' hcop e2
  have q2 := core_half hc' hs1 (by rw [Int.gcd_comm]; exact hcop) e2.symm
  subst q1; subst q2
  refine ⟨by simpa using e2, by rw [hs, hs']⟩
end Locg

namespace Locg
open Go.RowKit Go.Proofs.YtnnpafjgghpecaaW.PrintWords Go.Proofs.YtnnpafjgghpecaaW.PrintMore

/-- A number is its core times the square of its root part. -/
def IsCore (n c r : Int) : Prop := n = c * (r * r) ∧ 1 ≤ r ∧ SqFree c
theorem core_uni {n c r c' r' : Int} (h : IsCore n c r) (h' : IsCore n c' r') : c = c' ∧ r = r' := core_unique h.2.2 h'.2.2 h.2.1 h'.2.1 (by rw [← h.1, ← h'.1])
def coreW (q : Int) : Nat → Int → Int → Int × Int
  | 0, n, r => (n, r)
  | d + 1, n, r => if n.tmod (q * q) = 0 then coreW q d (n.tdiv (q * q)) (r * q) else (n, r)
def coreLs : List Int → Int → Int → Int × Int
  | [], n, r => (n, r)
  | q :: qs, n, r => coreLs qs (coreW q 64 n r).1 (coreW q 64 n r).2
/-- The core and the root part. -/
def coreF (n : Int) : Int × Int := coreLs (primes n) n 1
def core (n : Int) : Int := (coreF n).1
theorem sq_div {q n : Int} (hq : 2 ≤ q) (hn : n ≠ 0) (h : n.tmod (q * q) = 0) : n.tdiv (q * q) ≠ 0 ∧ n = n.tdiv (q * q) * (q * q) ∧ 4 * (n.tdiv (q * q)).natAbs ≤ n.natAbs := by
  have hqq : 4 ≤ q * q := by have := sq_le (show (0 : Int) ≤ 2 by omega) hq; omega
  have t := tdiv_abs (show 2 ≤ q * q by omega) hn h
  refine ⟨t.1, by rw [Int.mul_comm]; exact t.2.1, ?_⟩
  have e := t.2.1
  have : n.natAbs = (q * q).natAbs * (n.tdiv (q * q)).natAbs := by rw [← Int.natAbs_mul, ← e]
  rw [this]
  exact Nat.mul_le_mul_right _ (by omega)
theorem coreW_spec {q : Int} (hq : 2 ≤ q) : ∀ (d : Nat) (n r : Int), n ≠ 0 → n.natAbs < 2 ^ d → 1 ≤ r →
    (coreW q d n r).1 ≠ 0 ∧ 1 ≤ (coreW q d n r).2 ∧ n * (r * r) = (coreW q d n r).1 * ((coreW q d n r).2 * (coreW q d n r).2) ∧ (coreW q d n r).1 ∣ n ∧ ¬ q * q ∣ (coreW q d n r).1 := by
  intro d
  induction d with
  | zero => intro n r hn h; simp at h; omega
  | succ d ih =>
    intro n r hn h hr
    simp only [coreW]
    by_cases c : n.tmod (q * q) = 0
    · rw [if_pos c]
      obtain ⟨h1, h2, h3⟩ := sq_div hq hn c
      have hrq : 1 ≤ r * q := by have := Int.mul_le_mul hr (show (1 : Int) ≤ q by omega) (by omega) (by omega); omega
      obtain ⟨g1, g2, g3, g4, g5⟩ := ih (n.tdiv (q * q)) (r * q) h1 (by rw [Nat.pow_succ] at h; omega) hrq
      refine ⟨g1, g2, ?_, Int.dvd_trans g4 ⟨q * q, h2⟩, g5⟩
      rw [← g3]
      conv => lhs; rw [h2]
      grind
    · rw [if_neg c]
      exact ⟨hn, hr, rfl, Int.dvd_refl n, fun hd => c (Int.tmod_eq_zero_of_dvd hd)⟩
theorem coreLs_spec : ∀ (qs : List Int) (n r : Int), (∀ q ∈ qs, 2 ≤ q) → n ≠ 0 → n.natAbs < 2 ^ 63 → 1 ≤ r →
    (coreLs qs n r).1 ≠ 0 ∧ 1 ≤ (coreLs qs n r).2 ∧ n * (r * r) = (coreLs qs n r).1 * ((coreLs qs n r).2 * (coreLs qs n r).2) ∧ (coreLs qs n r).1 ∣ n ∧ ∀ q ∈ qs, ¬ q * q ∣ (coreLs qs n r).1
  | [], n, r, _, hn, _, hr => ⟨hn, hr, rfl, Int.dvd_refl n, by simp⟩
  | q :: qs, n, r, hq, hn, hN, hr => by
    obtain ⟨g1, g2, g3, g4, g5⟩ := coreW_spec (hq q (by simp)) 64 n r hn (by omega) hr
    have hle : (coreW q 64 n r).1.natAbs ≤ n.natAbs := Nat.le_of_dvd (by omega) (Int.natAbs_dvd_natAbs.2 g4)
    obtain ⟨f1, f2, f3, f4, f5⟩ := coreLs_spec qs (coreW q 64 n r).1 (coreW q 64 n r).2 (fun x hx => hq x (by simp [hx])) g1 (by omega) g2
    simp only [coreLs]
    refine ⟨f1, f2, by rw [g3, f3], Int.dvd_trans f4 g4, fun x hx => ?_⟩
    rcases List.mem_cons.1 hx with e | e
    · subst e; exact fun hd => g5 (Int.dvd_trans hd f4)
    · exact f5 x e
theorem coreF_is {n : Int} (hn : n ≠ 0) (hN : n.natAbs < 2 ^ 63) : IsCore n (coreF n).1 (coreF n).2 := by
  obtain ⟨h1, h2, h3, h4, h5⟩ := coreLs_spec (primes n) n 1 (fun q hq => primes_ge hq) hn hN (by omega)
  refine ⟨by have := h3; simp only [Int.mul_one] at this; exact this, h2, h1, fun d hd hdd => ?_⟩
  obtain ⟨q, q1, q2⟩ := prime_div d.toNat d (Nat.le_refl _) (by omega)
  have hqn : q ∣ n := Int.dvd_trans (Int.dvd_trans q2 (Int.dvd_mul_right d d)) (Int.dvd_trans hdd h4)
  exact h5 q ((primes_iff hn hN).2 ⟨q1, hqn⟩) (Int.dvd_trans (Int.mul_dvd_mul q2 q2) hdd)
theorem core_is {n c r : Int} (hn : n ≠ 0) (hN : n.natAbs < 2 ^ 63) (h : IsCore n c r) : coreF n = (c, r) := by
  have := core_uni (coreF_is hn hN) h
  exact Prod.ext this.1 this.2
theorem core_le {n c r : Int} (h : IsCore n c r) : c.natAbs ≤ n.natAbs ∧ r.natAbs * r.natAbs ≤ n.natAbs := by
  have h1 := h.2.1
  have h0 : 0 < r.natAbs := by omega
  have hc := h.2.2.1
  rw [h.1, Int.natAbs_mul, Int.natAbs_mul]
  refine ⟨Nat.le_mul_of_pos_right _ (Nat.mul_pos h0 h0), Nat.le_mul_of_pos_left _ (by omega)⟩
/-- The core of a core. -/
theorem core_core {n : Int} (hn : n ≠ 0) (hN : n.natAbs < 2 ^ 63) : coreF (coreF n).1 = ((coreF n).1, 1) := by
  have h := coreF_is hn hN
  have := core_le h
  exact core_is h.2.2.1 (by omega) ⟨by omega, by omega, h.2.2⟩
end Locg

namespace Locg
open Go.RowKit Go.Proofs.YtnnpafjgghpecaaW.PrintWords Go.Proofs.YtnnpafjgghpecaaW.PrintMore

def bad (xs : List Int) : List Int := (plc xs).filter (fun p => !van xs p)
def minL (f : Int → Int) : List Int → Int → Int
  | [], acc => acc
  | p :: ps, acc => minL f ps (mn acc (f p))
def pall (xs : List Int) : Int := minL (planes xs) (plc xs) xs.length
theorem mn_le {a b : Int} : mn a b ≤ a ∧ mn a b ≤ b ∧ (mn a b = a ∨ mn a b = b) := by unfold mn; split <;> omega
theorem minL_le (f : Int → Int) : ∀ (ps : List Int) (acc : Int), minL f ps acc ≤ acc ∧ (∀ p ∈ ps, minL f ps acc ≤ f p) ∧ (minL f ps acc = acc ∨ ∃ p ∈ ps, minL f ps acc = f p)
  | [], acc => ⟨Int.le_refl _, by simp, Or.inl rfl⟩
  | p :: ps, acc => by
    simp only [minL]
    obtain ⟨h1, h2, h3⟩ := minL_le f ps (mn acc (f p))
    have hm := mn_le (a := acc) (b := f p)
    refine ⟨by omega, ?_, ?_⟩
    · intro q hq
      rcases List.mem_cons.1 hq with e | e
      · rw [e]; omega
      · exact h2 q e
    · rcases h3 with e | ⟨q, hq, e⟩
      · rcases hm.2.2 with f1 | f1
        · exact Or.inl (by rw [e, f1])
        · exact Or.inr ⟨p, by simp, by rw [e, f1]⟩
      · exact Or.inr ⟨q, by simp [hq], e⟩
theorem zero_plc (xs : List Int) : (0 : Int) ∈ plc xs := plc_mem.2 ⟨by decide, Or.inl rfl⟩
theorem two_plc (xs : List Int) : (2 : Int) ∈ plc xs := plc_mem.2 ⟨by decide, Or.inr (Or.inl rfl)⟩
/-- The planes everywhere: the least at the places. -/
theorem pall_iff {xs : List Int} {m : Int} : pall xs = m ↔ (∀ p ∈ plc xs, m ≤ planes xs p) ∧ ∃ p ∈ plc xs, planes xs p = m := by
  obtain ⟨h1, h2, h3⟩ := minL_le (planes xs) (plc xs) xs.length
  have key : ∃ p ∈ plc xs, pall xs = planes xs p := by
    rcases h3 with e | h
    · have h0 := h2 0 (zero_plc xs)
      have hh := planes_half xs 0
      refine ⟨0, zero_plc xs, ?_⟩
      show minL _ _ _ = _
      omega
    · exact h
  obtain ⟨q, hq, e⟩ := key
  constructor
  · intro h
    exact ⟨fun p hp => by have := h2 p hp; rw [← h]; exact this, q, hq, by rw [← e, h]⟩
  · rintro ⟨g1, p, hp, g2⟩
    have a1 := g1 q hq
    have a2 := h2 p hp
    show minL _ _ _ = _
    have : pall xs = minL (planes xs) (plc xs) xs.length := rfl
    omega
theorem pall_le {xs : List Int} {p : Int} (h : p ∈ plc xs) : pall xs ≤ planes xs p := (pall_iff.1 rfl).1 p h
theorem pall_bd (xs : List Int) : 0 ≤ pall xs ∧ 2 * pall xs ≤ xs.length := by
  obtain ⟨h1, p, hp, e⟩ := (pall_iff (xs := xs) (m := pall xs)).1 rfl
  have := planes_half xs p
  omega
theorem planes_van {xs : List Int} {p : Int} : planes xs p > 0 ↔ van xs p = true := by
  have := planes_pos (xs := xs) (p := p)
  rw [← this, decide_eq_true_eq]
theorem bad_nil {xs : List Int} : bad xs = [] ↔ 0 < pall xs := by
  unfold bad
  rw [List.filter_eq_nil_iff]
  constructor
  · intro h
    obtain ⟨_, p, hp, e⟩ := (pall_iff (xs := xs) (m := pall xs)).1 rfl
    have := h p hp
    simp only [Bool.not_eq_true', Bool.not_eq_false] at this
    have := planes_van.2 (by simpa using this)
    omega
  · intro h p hp
    have := pall_le hp
    have := planes_van.1 (show planes xs p > 0 by omega)
    simp [this]
/-- The primes of a product are among the places. -/
theorem prod_place {xs : List Int} (hx : ∀ x ∈ xs, Sm x) {q : Int} (hq : PrimeL q) (hd : q ∣ prod xs) : q ∈ plc xs := by
  obtain ⟨x, hm, h⟩ := (prod_dvd hq xs).1 hd
  exact plc_mem.2 ⟨(prime_sm hq (hx x hm) h).1, Or.inr (Or.inr ⟨x, hm, h⟩)⟩
theorem plc_5000 {xs : List Int} {q : Int} (h : q ∈ plc xs) : q ≤ 5000 := by
  rcases plc_plc h with e | e | e
  · omega
  · omega
  · exact e.2.2
/-- A product of the class of 1 at all places of the form is a square. -/
theorem prod_square {xs : List Int} {n : Int} (hx : ∀ x ∈ xs, Sm x) (hn : n ≠ 0) (hN : n.natAbs < 2 ^ 63) (hd : n.natAbs = (prod xs).natAbs) (h : ∀ p ∈ plc xs, code p n = 0) : ∃ m, m ≠ 0 ∧ n = m * m := by
  refine sq_places hn hN (h 0 (zero_plc xs)) (fun q q1 q2 => ?_)
  have hq := prod_place hx q1 (by rw [← Int.dvd_natAbs, ← hd, Int.dvd_natAbs]; exact q2)
  exact ⟨plc_5000 hq, h q hq⟩
theorem good_t : ∀ p ∈ K4, p ≠ 0 → p ≠ 2 → ∀ c ∈ List.range 2, ∀ d ∈ List.range 2, ∀ e ∈ List.range 2, vanC p [c, d, e] = true ∧ ∀ f ∈ List.range 2, vanC p [c, d, e, f] = true := by decide +kernel
/-- Where the prime does not divide: a class of two. -/
theorem code_good {p x : Int} (h : OddP p) (hx : ¬ p ∣ x) : code p x ∈ List.range 2 := by
  obtain ⟨b, hb, e⟩ := code_bit h x
  have hv := (val_of_not (p := p) (n := x) (fun h0 => hx (Int.dvd_of_tmod_eq_zero h0))).1
  rw [e, hv]
  have : par 0 = 0 := rfl
  rw [this]; simpa using hb
theorem off_plc {xs : List Int} {p : Int} (h : Plc p) (hx : ∀ x ∈ xs, Sm x) (hp : p ∉ plc xs) : OddP p ∧ p ≠ 0 ∧ p ≠ 2 ∧ ∀ x ∈ xs, ¬ p ∣ x := by
  rcases h with e | e | e
  · subst e; exact absurd (zero_plc xs) hp
  · subst e; exact absurd (two_plc xs) hp
  · refine ⟨e, by have := e.2.1; omega, by have := e.2.1; omega, fun x hm hd => hp ?_⟩
    exact plc_mem.2 ⟨(prime_sm e.1 (hx x hm) hd).1, Or.inr (Or.inr ⟨x, hm, hd⟩)⟩
/-- Off its places a form of three terms or four vanishes. -/
theorem good_van {xs : List Int} {p : Int} (h : Plc p) (hx : ∀ x ∈ xs, Sm x) (h3 : 3 ≤ xs.length) (h4 : xs.length ≤ 4) (hp : p ∉ plc xs) : van xs p = true := by
  obtain ⟨ho, h0, h2, hd⟩ := off_plc h hx hp
  have hk := ne_kd h h0
  have hk2 : kd p ≠ 2 := fun e => h2 ((kd_two h).1 e)
  rw [van_code h h0 hx (by omega), vanC_kd h]
  match xs, h3, h4, hd with
  | [a, b, c], _, _, hd =>
    exact (good_t _ (kd_mem p) hk hk2 _ (code_good ho (hd a (by simp))) _ (code_good ho (hd b (by simp))) _ (code_good ho (hd c (by simp)))).1
  | [a, b, c, d], _, _, hd =>
    exact (good_t _ (kd_mem p) hk hk2 _ (code_good ho (hd a (by simp))) _ (code_good ho (hd b (by simp))) _ (code_good ho (hd c (by simp)))).2 _ (code_good ho (hd d (by simp)))
theorem pall_one {xs : List Int} (h : 0 < pall xs) : 2 ≤ xs.length := by
  have := pall_bd xs; omega
/-- A form with planes at all its places vanishes at each place. -/
theorem pall_van {xs : List Int} {p : Int} (h : Plc p) (hx : ∀ x ∈ xs, Sm x) (h4 : xs.length ≤ 4) (hp : 0 < pall xs) : van xs p = true := by
  by_cases hm : p ∈ plc xs
  · have := pall_le hm
    exact planes_van.1 (by omega)
  · have h2 := pall_one hp
    by_cases h3 : 3 ≤ xs.length
    · exact good_van h hx h3 h4 hm
    · match xs, h2, h3 with
      | [a, b], _, _ =>
        have ha := hx a (by simp); have hb := hx b (by simp)
        have hab := mul_sm ha hb
        obtain ⟨ho, h0, _, _⟩ := off_plc h hx hm
        have hc : ∀ q ∈ plc [a, b], code q (-(a * b)) = 0 := by
          intro q hq
          have h1 := pall_le hq
          have hv := planes_van.1 (show planes [a, b] q > 0 by omega)
          by_cases c0 : q = 0
          · subst c0
            rw [van0] at hv
            have hneg : ¬ -(a * b) < 0 := by
              have h1 := ha.1; have h2 := hb.1
              simp only [less, lessF, List.length_cons, List.length_nil] at hv
              rcases Int.lt_or_lt_of_ne h1 with a1 | a1 <;> rcases Int.lt_or_lt_of_ne h2 with b1 | b1
              · simp [a1, b1] at hv
              · have := Int.mul_neg_of_neg_of_pos a1 b1; omega
              · have := Int.mul_neg_of_pos_of_neg a1 b1; omega
              · simp [show ¬ a < 0 by omega, show ¬ b < 0 by omega] at hv
            rw [code0]
            rw [if_neg hneg]
          · unfold van at hv
            rw [if_neg c0, if_pos (by simp), prod2, sq_code, beq_iff_eq] at hv
            exact hv
        obtain ⟨m, m0, e⟩ := prod_square (n := -(a * b)) hx (by omega) (by omega) (by rw [prod2, Int.natAbs_neg]) hc
        unfold van
        rw [if_neg h0, if_pos (by simp), prod2, sq_code, e, code_square h m0 (by rw [← e]; omega)]
        rfl
      | [], h, _ => exact absurd h (by simp)
      | [_], h, _ => exact absurd h (by simp)
      | _ :: _ :: _ :: _, _, h => exact absurd (by simp) h
end Locg

namespace Locg
open Go.RowKit Go.Proofs.YtnnpafjgghpecaaW.PrintWords

def yx (x : Nat) : Nat := x ^^^ (x / 64)
def v2 : Nat → Nat → Nat
  | 0, _ => 0
  | d + 1, s => if s % 2 = 0 then v2 d (s / 2) + 1 else 0
def stepN (n : Nat) : Nat := 116 * n + 212
def chk (n : Nat) : Bool :=
  let s := stepN n
  let v := v2 20 s
  Nat.ble v 20 && (s == 2 ^ v * (s / 2 ^ v) && ((s / 2 ^ v) % 2 == 1 && (List.range (2 ^ v)).all fun L => (List.range 100).any fun j => Nat.ble (L + s * j + 1) 16777216 && !(yx (L + s * j) % 40 == yx L % 40)))
theorem chk_all : ∀ n ∈ List.range 2001, chk n = true := by decide +kernel
/-- An odd number's multiples reach each rest of a power of 2. -/
theorem odd_hits (o a : Nat) (ho : o % 2 = 1) : ∀ n : Nat, ∃ j, j < 2 ^ n ∧ (a + o * j) % 2 ^ n = 0
  | 0 => ⟨0, by simp, by simp [Nat.mod_one]⟩
  | n + 1 => by
    obtain ⟨j, hj, h⟩ := odd_hits o a ho n
    obtain ⟨c, hc⟩ := Nat.dvd_of_mod_eq_zero h
    have hp : 0 < 2 ^ n := Nat.pow_pos (by omega)
    rcases Nat.mod_two_eq_zero_or_one c with hc2 | hc2
    · refine ⟨j, by rw [Nat.pow_succ]; omega, ?_⟩
      rw [hc, Nat.pow_succ]
      apply Nat.mod_eq_zero_of_dvd
      exact Nat.mul_dvd_mul_left _ (Nat.dvd_of_mod_eq_zero hc2)
    · refine ⟨j + 2 ^ n, by rw [Nat.pow_succ]; omega, ?_⟩
      have e : a + o * (j + 2 ^ n) = 2 ^ n * (c + o) := by rw [Nat.mul_add, ← Nat.add_assoc, hc, Nat.mul_add, Nat.mul_comm o]
      rw [e, Nat.pow_succ]
      apply Nat.mod_eq_zero_of_dvd
      exact Nat.mul_dvd_mul_left _ (Nat.dvd_of_mod_eq_zero (by omega))
theorem xor_split (a b c d i : Nat) (hb : b < 2 ^ i) (hd : d < 2 ^ i) : (2 ^ i * a + b) ^^^ (2 ^ i * c + d) = 2 ^ i * (a ^^^ c) + (b ^^^ d) := by
  apply Nat.eq_of_testBit_eq
  intro j
  rw [Nat.testBit_xor, Nat.testBit_two_pow_mul_add a hb, Nat.testBit_two_pow_mul_add c hd, Nat.testBit_two_pow_mul_add _ (Nat.xor_lt_two_pow hb hd)]
  split
  · rw [Nat.testBit_xor]
  · rw [Nat.testBit_xor]
theorem yx_split (H low : Nat) (h : low < 2 ^ 24) : yx (2 ^ 30 * H + low) = 2 ^ 24 * ((64 * H) ^^^ H) + yx low := by
  unfold yx
  have e1 : 2 ^ 30 * H + low = 2 ^ 24 * (64 * H) + low := by omega
  have e2 : (2 ^ 30 * H + low) / 64 = 2 ^ 24 * H + low / 64 := by omega
  rw [e2, e1]
  exact xor_split _ _ _ _ 24 h (by omega)
/-- Somewhere along the steps the rest is not 1. -/
theorem not_stay (n x0 : Nat) (hn : n ≤ 2000) : ∃ j, j < 2 ^ 31 ∧ yx (x0 + stepN n * j) % 40 ≠ 1 := by
  have hc := chk_all n (by rw [List.mem_range]; omega)
  unfold chk at hc
  simp only [Bool.and_eq_true, beq_iff_eq, List.all_eq_true, List.any_eq_true, List.mem_range, Nat.ble_eq, Bool.not_eq_true', beq_eq_false_iff_ne] at hc
  obtain ⟨hv, hs, ho, hL⟩ := hc
  have hsn : stepN n ≤ 232212 := by unfold stepN; omega
  generalize stepN n = s at *
  generalize v2 20 s = v at *
  generalize s / 2 ^ v = o at *
  have hp : 0 < 2 ^ v := Nat.pow_pos (by omega)
  obtain ⟨j1, hj1, h1⟩ := odd_hits o (x0 / 2 ^ v) ho (30 - v)
  obtain ⟨H, hH⟩ := Nat.dvd_of_mod_eq_zero h1
  have hLlt := Nat.mod_lt x0 hp
  obtain ⟨j0, hj0, hb, hne⟩ := hL (x0 % 2 ^ v) hLlt
  have hpow : 2 ^ v * 2 ^ (30 - v) = 2 ^ 30 := by rw [← Nat.pow_add]; congr 1; omega
  have hj1' : j1 < 2 ^ 30 := Nat.lt_of_lt_of_le hj1 (Nat.pow_le_pow_right (by omega) (by omega))
  have ex : x0 + s * j1 = 2 ^ 30 * H + x0 % 2 ^ v := by
    have hx := Nat.div_add_mod x0 (2 ^ v)
    have : x0 + s * j1 = 2 ^ v * (x0 / 2 ^ v + o * j1) + x0 % 2 ^ v := by
      rw [hs, Nat.mul_add, Nat.mul_assoc]; omega
    rw [this, hH, ← Nat.mul_assoc, hpow]
  have hlow : x0 % 2 ^ v < 2 ^ 24 := by omega
  apply Classical.byContradiction
  intro hno
  have key : ∀ j, j < 2 ^ 31 → yx (x0 + s * j) % 40 = 1 := by
    intro j hj
    apply Classical.byContradiction
    intro h
    exact hno ⟨j, hj, h⟩
  have k1 := key j1 (by omega)
  have k2 := key (j1 + j0) (by omega)
  rw [ex, yx_split _ _ hlow] at k1
  rw [Nat.mul_add, ← Nat.add_assoc, ex, Nat.add_assoc, yx_split _ _ (by omega)] at k2
  omega
end Locg

namespace Locg
open Go.RowKit Go.Proofs.YtnnpafjgghpecaaW.PrintWords

/-! ### what divides all -/
def gI (a b : Int) : Int := ((Int.gcd a b : Nat) : Int)
def gcdL : List Int → Int → Int
  | [], g => g
  | x :: xs, g => gcdL xs (gI g x)
def gcdF (xs : List Int) : Int := gcdL xs 0
theorem gI_dvd (a b : Int) : gI a b ∣ a ∧ gI a b ∣ b := ⟨Int.gcd_dvd_left .., Int.gcd_dvd_right ..⟩
theorem gI_nonneg (a b : Int) : 0 ≤ gI a b := Int.natCast_nonneg _
theorem dvd_gI {c a b : Int} (ha : c ∣ a) (hb : c ∣ b) : c ∣ gI a b := Int.dvd_coe_gcd ha hb
theorem gcdL_spec : ∀ (xs : List Int) (g : Int), 0 ≤ g → 0 ≤ gcdL xs g ∧ gcdL xs g ∣ g ∧ (∀ x ∈ xs, gcdL xs g ∣ x) ∧ ∀ c : Int, c ∣ g → (∀ x ∈ xs, c ∣ x) → c ∣ gcdL xs g
  | [], g, hg => ⟨hg, Int.dvd_refl _, by simp, fun c h _ => h⟩
  | x :: xs, g, hg => by
    obtain ⟨h1, h2, h3, h4⟩ := gcdL_spec xs (gI g x) (gI_nonneg _ _)
    simp only [gcdL]
    refine ⟨h1, Int.dvd_trans h2 (gI_dvd _ _).1, ?_, ?_⟩
    · intro y hy
      rcases List.mem_cons.1 hy with rfl | hy
      · exact Int.dvd_trans h2 (gI_dvd _ _).2
      · exact h3 y hy
    · intro c hc hx
      exact h4 c (dvd_gI hc (hx x (by simp))) (fun y hy => hx y (by simp [hy]))
theorem gcdF_spec (xs : List Int) : 0 ≤ gcdF xs ∧ (∀ x ∈ xs, gcdF xs ∣ x) ∧ ∀ c : Int, (∀ x ∈ xs, c ∣ x) → c ∣ gcdF xs := by
  obtain ⟨h1, _, h3, h4⟩ := gcdL_spec xs 0 (by omega)
  exact ⟨h1, h3, fun c h => h4 c (Int.dvd_zero _) h⟩
theorem gcdF_ne {xs : List Int} (h : ∃ x ∈ xs, x ≠ 0) : gcdF xs ≠ 0 := by
  obtain ⟨x, hx, h0⟩ := h
  intro e
  have := (gcdF_spec xs).2.1 x hx
  rw [e] at this
  exact h0 (Int.zero_dvd.1 this)
theorem dvd_anti {a b : Int} (ha : 0 ≤ a) (hb : 0 ≤ b) (h : a ∣ b) (h' : b ∣ a) : a = b := by
  have := Int.natAbs_dvd_natAbs.2 h
  have := Int.natAbs_dvd_natAbs.2 h'
  have := Nat.dvd_antisymm ‹a.natAbs ∣ b.natAbs› ‹_›
  omega
theorem gI_le {a b : Int} (ha : a ≠ 0) : gI a b ≤ a.natAbs := by
  have := Int.natAbs_dvd_natAbs.2 (gI_dvd a b).1
  have := Nat.le_of_dvd (by omega) this
  have := gI_nonneg a b
  omega
theorem gI_comm (a b : Int) : gI a b = gI b a := by unfold gI; rw [Int.gcd_comm]

/-! ### plain vectors -/
def signF : List Int → Int → Int
  | [], d => d
  | x :: xs, d => if x = 0 then signF xs d else if x < 0 then -d else d
def plainF (xs : List Int) : List Int := xs.map fun x => x.tdiv (signF xs (gcdF xs))
theorem signF_or : ∀ (xs : List Int) (d : Int), signF xs d = d ∨ signF xs d = -d
  | [], d => .inl rfl
  | x :: xs, d => by
    simp only [signF]
    split
    · exact signF_or xs d
    · split
      · exact .inr rfl
      · exact .inl rfl
theorem signF_dvd {xs : List Int} : ∀ x ∈ xs, signF xs (gcdF xs) ∣ x := by
  intro x hx
  have h := (gcdF_spec xs).2.1 x hx
  rcases signF_or xs (gcdF xs) with e | e <;> rw [e]
  · exact h
  · exact Int.neg_dvd.2 h
theorem signF_ne {xs : List Int} (h : ∃ x ∈ xs, x ≠ 0) : signF xs (gcdF xs) ≠ 0 := by
  have := gcdF_ne h
  rcases signF_or xs (gcdF xs) with e | e <;> rw [e] <;> omega
theorem plain_mul {xs : List Int} (h : ∃ x ∈ xs, x ≠ 0) : xs = (plainF xs).map (fun x => signF xs (gcdF xs) * x) := by
  unfold plainF
  rw [List.map_map]
  conv => lhs; rw [← List.map_id xs]
  refine List.map_congr_left fun x hx => ?_
  simp only [id, Function.comp]
  exact (Int.mul_tdiv_cancel' (signF_dvd x hx)).symm
theorem tdiv_small {x d : Int} : (x.tdiv d).natAbs ≤ x.natAbs := by
  rw [Int.natAbs_tdiv]; exact Nat.div_le_self _ _
theorem plain_small {xs : List Int} {M : Nat} (h : ∀ x ∈ xs, x.natAbs ≤ M) : ∀ x ∈ plainF xs, x.natAbs ≤ M := by
  intro x hx
  obtain ⟨y, hy, rfl⟩ := List.mem_map.1 hx
  exact Nat.le_trans tdiv_small (h y hy)
theorem qv_scale : ∀ (xs vs : List Int) (d : Int), qv xs (vs.map fun v => d * v) = d * d * qv xs vs
  | [], vs, d => by cases vs <;> simp [qv]
  | x :: xs, [], d => by simp [qv]
  | x :: xs, v :: vs, d => by
    simp only [List.map, qv]
    rw [qv_scale xs vs d]; grind
theorem plain_zero {xs vs : List Int} (h : ∃ x ∈ vs, x ≠ 0) (hz : qv xs vs = 0) : qv xs (plainF vs) = 0 ∧ ∃ x ∈ plainF vs, x ≠ 0 := by
  have h0 := signF_ne h
  have e := plain_mul h
  constructor
  · rw [e, qv_scale] at hz
    rcases Int.mul_eq_zero.1 hz with h1 | h1
    · rcases Int.mul_eq_zero.1 h1 with h2 | h2 <;> exact absurd h2 h0
    · exact h1
  · obtain ⟨x, hx, hn⟩ := h
    rw [e] at hx
    obtain ⟨y, hy, rfl⟩ := List.mem_map.1 hx
    exact ⟨y, hy, fun e => hn (by rw [e, Int.mul_zero])⟩

/-! ### normal terms -/
theorem tdiv_eq {a p a' : Int} (hp : 2 ≤ p) (e : a = p * a') : a.tdiv p = a' := by rw [e]; exact Int.mul_tdiv_cancel_left _ (by omega)
theorem sqfree_div {a p a' : Int} (ha : SqFree a) (hp : 2 ≤ p) (e : a = p * a') : SqFree a' := by
  refine ⟨fun h => ha.1 (by rw [e, h, Int.mul_zero]), fun d hd h => ha.2 d hd ?_⟩
  rw [e]; exact Int.dvd_trans h (Int.dvd_mul_left _ _)
theorem sqfree_mul {c p : Int} (hc : SqFree c) (hp : PrimeL p) (h : ¬ p ∣ c) : SqFree (c * p) := by
  refine ⟨Int.mul_ne_zero hc.1 (by have := hp.1; omega), fun d hd hdd => ?_⟩
  by_cases hpd : p ∣ d
  · obtain ⟨e, rfl⟩ := hpd
    refine h ?_
    have h1 : p * p ∣ c * p := Int.dvd_trans ⟨e * e, by grind⟩ hdd
    exact Int.dvd_of_mul_dvd_mul_right (by have := hp.1; omega) h1
  · have hg : Int.gcd (d * d) p = 1 := by
      have h1 : ((Int.gcd (d * d) p : Nat) : Int) ∣ p := Int.gcd_dvd_right ..
      have h2 : ((Int.gcd (d * d) p : Nat) : Int) ∣ d * d := Int.gcd_dvd_left ..
      have h0 : Int.gcd (d * d) p ≠ 0 := fun e => by rw [e] at h1; have := Int.zero_dvd.1 h1; have := hp.1; omega
      rcases Nat.lt_or_ge (Int.gcd (d * d) p) 2 with h3 | h3
      · omega
      · have h4 := hp.2 _ (by omega) h1
        rw [h4] at h2
        rcases prime_mul hp h2 with h5 | h5 <;> exact absurd h5 hpd
    refine hc.2 d hd ?_
    have h1 : (d * d).natAbs ∣ c.natAbs * p.natAbs := by rw [← Int.natAbs_mul]; exact Int.natAbs_dvd_natAbs.2 hdd
    have h2 : Nat.Coprime (d * d).natAbs p.natAbs := hg
    exact Int.natAbs_dvd_natAbs.1 (h2.dvd_of_dvd_mul_right h1)
def minP (n : Int) : Int := rd (primes n) 0
theorem minP_spec {n : Int} (h : 1 < n) (hN : n.natAbs < 2 ^ 63) : PrimeL (minP n) ∧ minP n ∣ n ∧ 0 < (primes n).length := by
  obtain ⟨q, hq, hd⟩ := prime_div n.toNat n (Nat.le_refl _) h
  have hm := (primes_iff (by omega) hN).2 ⟨hq, hd⟩
  unfold minP
  cases hp : primes n with
  | nil => rw [hp] at hm; simp at hm
  | cons r rs =>
    have h1 : rd (r :: rs) 0 = r := rfl
    rw [h1]
    have := (primes_iff (by omega) hN).1 (show r ∈ primes n by rw [hp]; simp)
    exact ⟨this.1, this.2, by simp⟩
structure NI (A B C : Int) (M : Nat) (l a b c x y z : Int) : Prop where
  sa : SqFree a
  sb : SqFree b
  sc : SqFree c
  hx : 1 ≤ x
  hy : 1 ≤ y
  hz : 1 ≤ z
  hl : 1 ≤ l
  ea : A * (x * x) = l * a
  eb : B * (y * y) = l * b
  ec : C * (z * z) = l * c
  hm : (l * (a * b * c)).natAbs ≤ M
theorem NI.swap {A B C l a b c x y z : Int} {M : Nat} (h : NI A B C M l a b c x y z) : NI A C B M l a c b x z y :=
  ⟨h.sa, h.sc, h.sb, h.hx, h.hz, h.hy, h.hl, h.ea, h.ec, h.eb, by have := h.hm; rw [show a * c * b = a * b * c by grind]; exact this⟩
theorem NI.turn {A B C l a b c x y z : Int} {M : Nat} (h : NI A B C M l a b c x y z) : NI B C A M l b c a y z x :=
  ⟨h.sb, h.sc, h.sa, h.hy, h.hz, h.hx, h.hl, h.eb, h.ec, h.ea, by have := h.hm; rw [show b * c * a = a * b * c by grind]; exact this⟩
theorem NI.back {A B C l a b c x y z : Int} {M : Nat} (h : NI A B C M l a b c x y z) : NI C A B M l c a b z x y := h.turn.turn
theorem NI.div3 {A B C l a b c x y z p : Int} {M : Nat} (h : NI A B C M l a b c x y z) (hp : PrimeL p) (ha : p ∣ a) (hb : p ∣ b) (hc : p ∣ c) :
    NI A B C M (l * p) (a.tdiv p) (b.tdiv p) (c.tdiv p) x y z ∧ 2 * (a.tdiv p * b.tdiv p * c.tdiv p).natAbs ≤ (a * b * c).natAbs := by
  obtain ⟨a', rfl⟩ := ha
  obtain ⟨b', rfl⟩ := hb
  obtain ⟨c', rfl⟩ := hc
  have p2 := hp.1
  rw [tdiv_eq p2 rfl, tdiv_eq p2 rfl, tdiv_eq p2 rfl]
  have hpn : 4 ≤ (p * p).natAbs := by have := sq_le (show (0 : Int) ≤ 2 by omega) p2; omega
  refine ⟨⟨sqfree_div h.sa p2 rfl, sqfree_div h.sb p2 rfl, sqfree_div h.sc p2 rfl, h.hx, h.hy, h.hz, ?_, by have := h.ea; grind, by have := h.eb; grind, by have := h.ec; grind, ?_⟩, ?_⟩
  · have := Int.mul_le_mul h.hl p2 (by omega) (by have := h.hl; omega); omega
  · have h1 : (l * (p * a' * (p * b') * (p * c'))).natAbs = (l * p * (a' * b' * c')).natAbs * (p * p).natAbs := by rw [← Int.natAbs_mul]; congr 1; grind
    have h2 := h.hm
    rw [h1] at h2
    have := Nat.le_mul_of_pos_right (l * p * (a' * b' * c')).natAbs (show 0 < (p * p).natAbs by omega)
    omega
  · have h1 : (p * a' * (p * b') * (p * c')).natAbs = (a' * b' * c').natAbs * ((p * p).natAbs * p.natAbs) := by rw [← Int.natAbs_mul, ← Int.natAbs_mul]; congr 1; grind
    rw [h1]
    have h3 : 2 ≤ (p * p).natAbs * p.natAbs := by have := Nat.mul_le_mul hpn (show 1 ≤ p.natAbs by omega); omega
    have := Nat.mul_le_mul_left (a' * b' * c').natAbs h3
    omega
theorem NI.div2 {A B C l a b c x y z p : Int} {M : Nat} (h : NI A B C M l a b c x y z) (hp : PrimeL p) (ha : p ∣ a) (hb : p ∣ b) (hc : ¬ p ∣ c) :
    NI A B C M (l * p) (a.tdiv p) (b.tdiv p) (c * p) x y (z * p) ∧ 2 * (a.tdiv p * b.tdiv p * (c * p)).natAbs ≤ (a * b * c).natAbs := by
  obtain ⟨a', rfl⟩ := ha
  obtain ⟨b', rfl⟩ := hb
  have p2 := hp.1
  rw [tdiv_eq p2 rfl, tdiv_eq p2 rfl]
  refine ⟨⟨sqfree_div h.sa p2 rfl, sqfree_div h.sb p2 rfl, sqfree_mul h.sc hp hc, h.hx, h.hy, ?_, ?_, by have := h.ea; grind, by have := h.eb; grind, ?_, ?_⟩, ?_⟩
  · have := Int.mul_le_mul h.hz p2 (by omega) (by have := h.hz; omega); omega
  · have := Int.mul_le_mul h.hl p2 (by omega) (by have := h.hl; omega); omega
  · have : C * (z * p * (z * p)) = C * (z * z) * (p * p) := by grind
    rw [this, h.ec]; grind
  · have h1 : l * p * (a' * b' * (c * p)) = l * (p * a' * (p * b') * c) := by grind
    rw [h1]; exact h.hm
  · have h1 : (p * a' * (p * b') * c).natAbs = (a' * b' * (c * p)).natAbs * p.natAbs := by rw [← Int.natAbs_mul]; congr 1; grind
    rw [h1]
    have := Nat.mul_le_mul_left (a' * b' * (c * p)).natAbs (show 2 ≤ p.natAbs by omega)
    omega
theorem NI.bd {A B C l a b c x y z : Int} {M : Nat} (h : NI A B C M l a b c x y z) : a.natAbs ≤ M ∧ x * x ≤ (M : Int) ∧ (a * b * c).natAbs ≤ M ∧ (b * c).natAbs ≤ M ∧ (a * c).natAbs ≤ M := by
  have hm := h.hm
  have l1 := h.hl
  have a0 := h.sa.1
  have b0 := h.sb.1
  have c0 := h.sc.1
  have e1 : (l * (a * b * c)).natAbs = (l * a).natAbs * (b * c).natAbs := by rw [← Int.natAbs_mul]; congr 1; grind
  have bc : 1 ≤ (b * c).natAbs := by have := Int.mul_ne_zero b0 c0; omega
  have la : (l * a).natAbs ≤ M := Nat.le_trans (Nat.le_mul_of_pos_right (l * a).natAbs bc) (by rw [← e1]; exact hm)
  have e2 : (l * a).natAbs = l.natAbs * a.natAbs := Int.natAbs_mul _ _
  have ha : a.natAbs ≤ (l * a).natAbs := by rw [e2]; exact Nat.le_mul_of_pos_left _ (by omega)
  have hA : A ≠ 0 := fun e => by
    have := h.ea
    rw [e, Int.zero_mul] at this
    exact absurd this.symm (Int.mul_ne_zero (by omega) a0)
  have hx : (x * x).natAbs ≤ (l * a).natAbs := by
    rw [← h.ea, Int.natAbs_mul A]; exact Nat.le_mul_of_pos_left _ (by omega)
  have hq := sq_nonneg x
  have e3 : (l * (a * b * c)).natAbs = l.natAbs * (a * b * c).natAbs := Int.natAbs_mul _ _
  have h3 : (a * b * c).natAbs ≤ M := by have := Nat.le_mul_of_pos_left (a * b * c).natAbs (show 0 < l.natAbs by omega); omega
  refine ⟨by omega, by omega, h3, ?_, ?_⟩
  · have : (a * b * c).natAbs = a.natAbs * (b * c).natAbs := by rw [← Int.natAbs_mul]; congr 1; grind
    have := Nat.le_mul_of_pos_left (b * c).natAbs (show 0 < a.natAbs by omega)
    omega
  · have : (a * b * c).natAbs = b.natAbs * (a * c).natAbs := by rw [← Int.natAbs_mul]; congr 1; grind
    have := Nat.le_mul_of_pos_left (a * c).natAbs (show 0 < b.natAbs by omega)
    omega
abbrev T6 := (Int × Int × Int) × (Int × Int × Int)
def nrm : Nat → Int → Int → Int → Int → Int → Int → T6
  | 0, a, b, c, x, y, z => ((a, b, c), (x, y, z))
  | k + 1, a, b, c, x, y, z =>
    if 1 < gI a b then (if c.tmod (minP (gI a b)) = 0 then nrm k (a.tdiv (minP (gI a b))) (b.tdiv (minP (gI a b))) (c.tdiv (minP (gI a b))) x y z else nrm k (a.tdiv (minP (gI a b))) (b.tdiv (minP (gI a b))) (c * minP (gI a b)) x y (z * minP (gI a b)))
    else if 1 < gI a c then (if b.tmod (minP (gI a c)) = 0 then nrm k (a.tdiv (minP (gI a c))) (b.tdiv (minP (gI a c))) (c.tdiv (minP (gI a c))) x y z else nrm k (a.tdiv (minP (gI a c))) (b * minP (gI a c)) (c.tdiv (minP (gI a c))) x (y * minP (gI a c)) z)
    else if 1 < gI b c then (if a.tmod (minP (gI b c)) = 0 then nrm k (a.tdiv (minP (gI b c))) (b.tdiv (minP (gI b c))) (c.tdiv (minP (gI b c))) x y z else nrm k (a * minP (gI b c)) (b.tdiv (minP (gI b c))) (c.tdiv (minP (gI b c))) (x * minP (gI b c)) y z)
    else ((a, b, c), (x, y, z))
def Nrm (A B C : Int) (M : Nat) (s : T6) : Prop := ∃ l, NI A B C M l s.1.1 s.1.2.1 s.1.2.2 s.2.1 s.2.2.1 s.2.2.2 ∧ gI s.1.1 s.1.2.1 ≤ 1 ∧ gI s.1.1 s.1.2.2 ≤ 1 ∧ gI s.1.2.1 s.1.2.2 ≤ 1
theorem gp {A B C l a b c x y z : Int} {M : Nat} (h : NI A B C M l a b c x y z) (hM : M < 2 ^ 60) (hg : 1 < gI a b) : PrimeL (minP (gI a b)) ∧ minP (gI a b) ∣ a ∧ minP (gI a b) ∣ b ∧ 0 < (primes (gI a b)).length ∧ (gI a b).natAbs ≤ M := by
  have h1 := gI_le (b := b) h.sa.1
  have h2 := h.bd.1
  have h3 : (gI a b).natAbs ≤ M := by omega
  obtain ⟨p1, p2, p3⟩ := minP_spec hg (by omega)
  exact ⟨p1, Int.dvd_trans p2 (gI_dvd a b).1, Int.dvd_trans p2 (gI_dvd a b).2, p3, h3⟩
theorem dvd_tmod {a p : Int} : a.tmod p = 0 ↔ p ∣ a := ⟨Int.dvd_of_tmod_eq_zero, Int.tmod_eq_zero_of_dvd⟩
theorem nrm_ni {A B C : Int} {M : Nat} (hM : M < 2 ^ 60) : ∀ (k : Nat) (l a b c x y z : Int), NI A B C M l a b c x y z → (a * b * c).natAbs < 2 ^ k → Nrm A B C M (nrm k a b c x y z) := by
  intro k
  induction k with
  | zero =>
    intro l a b c x y z h hk
    have := Int.mul_ne_zero (Int.mul_ne_zero h.sa.1 h.sb.1) h.sc.1
    omega
  | succ k ih =>
    intro l a b c x y z h hk
    rw [Nat.pow_succ] at hk
    simp only [nrm]
    by_cases g1 : 1 < gI a b
    · rw [if_pos g1]
      obtain ⟨pp, pa, pb, _⟩ := gp h hM g1
      by_cases c1 : c.tmod (minP (gI a b)) = 0
      · rw [if_pos c1]
        obtain ⟨h1, h2⟩ := h.div3 pp pa pb (dvd_tmod.1 c1)
        exact ih _ _ _ _ _ _ _ h1 (by omega)
      · rw [if_neg c1]
        obtain ⟨h1, h2⟩ := h.div2 pp pa pb (fun e => c1 (dvd_tmod.2 e))
        exact ih _ _ _ _ _ _ _ h1 (by omega)
    · rw [if_neg g1]
      by_cases g2 : 1 < gI a c
      · rw [if_pos g2]
        obtain ⟨pp, pa, pb, _⟩ := gp h.swap hM g2
        by_cases c1 : b.tmod (minP (gI a c)) = 0
        · rw [if_pos c1]
          obtain ⟨h1, h2⟩ := h.div3 pp pa (dvd_tmod.1 c1) pb
          exact ih _ _ _ _ _ _ _ h1 (by omega)
        · rw [if_neg c1]
          obtain ⟨h1, h2⟩ := h.swap.div2 pp pa pb (fun e => c1 (dvd_tmod.2 e))
          refine ih _ _ _ _ _ _ _ h1.swap ?_
          rw [show a.tdiv (minP (gI a c)) * (b * minP (gI a c)) * c.tdiv (minP (gI a c)) = a.tdiv (minP (gI a c)) * c.tdiv (minP (gI a c)) * (b * minP (gI a c)) by grind]
          rw [show a * c * b = a * b * c by grind] at h2
          omega
      · rw [if_neg g2]
        by_cases g3 : 1 < gI b c
        · rw [if_pos g3]
          obtain ⟨pp, pa, pb, _⟩ := gp h.turn hM g3
          by_cases c1 : a.tmod (minP (gI b c)) = 0
          · rw [if_pos c1]
            obtain ⟨h1, h2⟩ := h.div3 pp (dvd_tmod.1 c1) pa pb
            exact ih _ _ _ _ _ _ _ h1 (by omega)
          · rw [if_neg c1]
            obtain ⟨h1, h2⟩ := h.turn.div2 pp pa pb (fun e => c1 (dvd_tmod.2 e))
            refine ih _ _ _ _ _ _ _ h1.back ?_
            rw [show a * minP (gI b c) * b.tdiv (minP (gI b c)) * c.tdiv (minP (gI b c)) = b.tdiv (minP (gI b c)) * c.tdiv (minP (gI b c)) * (a * minP (gI b c)) by grind]
            rw [show b * c * a = a * b * c by grind] at h2
            omega
        · rw [if_neg g3]
          exact ⟨l, h, (show gI a b ≤ 1 by omega), (show gI a c ≤ 1 by omega), (show gI b c ≤ 1 by omega)⟩
end Locg

namespace Locg
open Go.RowKit Go.Proofs.YtnnpafjgghpecaaW.PrintWords

/-! ### the search -/
def nmr (a b x y : Int) : Int := -a * x * x - b * y * y
def hit (a b c x y : Int) : Option (List Int) :=
  if (nmr a b x y).tmod c = 0 ∧ 0 ≤ (nmr a b x y).tdiv c ∧ isq ((nmr a b x y).tdiv c) * isq ((nmr a b x y).tdiv c) = (nmr a b x y).tdiv c ∧ ¬ (x = 0 ∧ y = 0) then some [x, y, isq ((nmr a b x y).tdiv c)] else none
def sY (a b c x : Int) : Nat → Int → Option (List Int)
  | 0, _ => none
  | n + 1, y => if y * y ≤ absI (a * c) then (match hit a b c x y with | some v => some v | none => sY a b c x n (y + 1)) else none
def sX (a b c : Int) : Nat → Int → Option (List Int)
  | 0, _ => none
  | n + 1, x => if x * x ≤ absI (b * c) then (match sY a b c x 200 0 with | some v => some v | none => sX a b c n (x + 1)) else none
def zs (a b c : Int) : Option (List Int) := sX a b c 200 0
def Hit (a b c : Int) (v : List Int) : Prop := ∃ x y z, v = [x, y, z] ∧ a * x * x + b * y * y + c * z * z = 0 ∧ (x ≠ 0 ∨ y ≠ 0) ∧ 0 ≤ x ∧ 0 ≤ y ∧ 0 ≤ z ∧ x * x ≤ absI (b * c) ∧ y * y ≤ absI (a * c)
theorem hit_is {a b c x y : Int} {v : List Int} (h : hit a b c x y = some v) (hx : 0 ≤ x) (hy : 0 ≤ y) (h1 : x * x ≤ absI (b * c)) (h2 : y * y ≤ absI (a * c)) : Hit a b c v := by
  unfold hit at h
  by_cases hc : (nmr a b x y).tmod c = 0 ∧ 0 ≤ (nmr a b x y).tdiv c ∧ isq ((nmr a b x y).tdiv c) * isq ((nmr a b x y).tdiv c) = (nmr a b x y).tdiv c ∧ ¬ (x = 0 ∧ y = 0)
  · rw [if_pos hc] at h
    injection h with h
    refine ⟨x, y, _, h.symm, ?_, by omega, hx, hy, isq_nonneg _, h1, h2⟩
    obtain ⟨c1, c2, c3, _⟩ := hc
    have e := Int.mul_tdiv_cancel' (dvd_tmod.1 c1)
    generalize (nmr a b x y).tdiv c = q at *
    rw [Int.mul_assoc c, c3, e]
    unfold nmr; grind
  · rw [if_neg hc] at h; cases h
theorem sY_is {a b c x : Int} (hx : 0 ≤ x) (h1 : x * x ≤ absI (b * c)) {v : List Int} : ∀ (n : Nat) (y : Int), 0 ≤ y → sY a b c x n y = some v → Hit a b c v
  | 0, y, hy, h => by simp [sY] at h
  | n + 1, y, hy, h => by
    simp only [sY] at h
    by_cases c1 : y * y ≤ absI (a * c)
    · rw [if_pos c1] at h
      cases hh : hit a b c x y with
      | some u => rw [hh] at h; exact hit_is (by rw [hh]; exact h) hx hy h1 c1
      | none => rw [hh] at h; exact sY_is hx h1 n (y + 1) (by omega) h
    · rw [if_neg c1] at h; cases h
theorem sX_is {a b c : Int} {v : List Int} : ∀ (n : Nat) (x : Int), 0 ≤ x → sX a b c n x = some v → Hit a b c v
  | 0, x, hx, h => by simp [sX] at h
  | n + 1, x, hx, h => by
    simp only [sX] at h
    by_cases c1 : x * x ≤ absI (b * c)
    · rw [if_pos c1] at h
      cases hh : sY a b c x 200 0 with
      | some u => rw [hh] at h; exact sY_is hx c1 200 0 (by omega) (by rw [hh]; exact h)
      | none => rw [hh] at h; exact sX_is n (x + 1) (by omega) h
    · rw [if_neg c1] at h; cases h
theorem zs_is {a b c : Int} {v : List Int} (h : zs a b c = some v) : Hit a b c v := sX_is 200 0 (by omega) h
theorem sY_some {a b c x y0 : Int} (h0 : 0 ≤ y0) (h1 : y0 * y0 ≤ absI (a * c)) (h2 : (hit a b c x y0).isSome = true) : ∀ (n : Nat) (y : Int), 0 ≤ y → y ≤ y0 → y0 < y + n → (sY a b c x n y).isSome = true
  | 0, y, _, h, h' => by omega
  | n + 1, y, hy, h, h' => by
    simp only [sY]
    rw [if_pos (by have := sq_le hy h; omega)]
    cases hh : hit a b c x y with
    | some u => rfl
    | none =>
      have : y ≠ y0 := fun e => by rw [e] at hh; rw [hh] at h2; simp at h2
      exact sY_some h0 h1 h2 n (y + 1) (by omega) (by omega) (by omega)
theorem sX_some {a b c x0 y0 : Int} (hx0 : 0 ≤ x0) (hx1 : x0 * x0 ≤ absI (b * c)) (h0 : 0 ≤ y0) (hy : y0 < 200) (h1 : y0 * y0 ≤ absI (a * c)) (h2 : (hit a b c x0 y0).isSome = true) : ∀ (n : Nat) (x : Int), 0 ≤ x → x ≤ x0 → x0 < x + n → (sX a b c n x).isSome = true
  | 0, x, _, h, h' => by omega
  | n + 1, x, hx, h, h' => by
    simp only [sX]
    rw [if_pos (by have := sq_le hx h; omega)]
    cases hh : sY a b c x 200 0 with
    | some u => rfl
    | none =>
      have : x ≠ x0 := fun e => by
        have := sY_some h0 h1 (e ▸ h2) 200 0 (by omega) (by omega) (by omega)
        rw [hh] at this; simp at this
      exact sX_some hx0 hx1 h0 hy h1 h2 n (x + 1) (by omega) (by omega) (by omega)
theorem zs_some {a b c x y : Int} (hx : 0 ≤ x) (hx1 : x * x ≤ absI (b * c)) (hxb : x < 200) (hy : 0 ≤ y) (hyb : y < 200) (h1 : y * y ≤ absI (a * c)) (h2 : (hit a b c x y).isSome = true) : (zs a b c).isSome = true := sX_some hx hx1 hy hyb h1 h2 200 0 (by omega) (by omega) (by omega)

/-! ### three terms -/
def nrm3 (a b c : Int) : T6 := nrm 62 (coreF a).1 (coreF b).1 (coreF c).1 ((coreF b).2 * (coreF c).2) ((coreF a).2 * (coreF c).2) ((coreF a).2 * (coreF b).2)
def z3 (a b c : Int) : Option (List Int) :=
  match zs (nrm3 a b c).1.1 (nrm3 a b c).1.2.1 (nrm3 a b c).1.2.2 with
  | some [u, v, w] => some (plainF [u * (nrm3 a b c).2.1, v * (nrm3 a b c).2.2.1, w * (nrm3 a b c).2.2.2])
  | _ => none
def bd3 (a b c : Int) : Nat := (a * b * c).natAbs
theorem core_ni {a b c : Int} (ha : a ≠ 0) (hb : b ≠ 0) (hc : c ≠ 0) (h : bd3 a b c < 2 ^ 60) :
    ∃ l, NI a b c (bd3 a b c) l (coreF a).1 (coreF b).1 (coreF c).1 ((coreF b).2 * (coreF c).2) ((coreF a).2 * (coreF c).2) ((coreF a).2 * (coreF b).2) := by
  have hab := Int.mul_ne_zero ha hb
  have A : a.natAbs ≤ bd3 a b c := by unfold bd3; rw [Int.mul_assoc]; exact mul_natAbs_le (Int.mul_ne_zero hb hc)
  have B : b.natAbs ≤ bd3 a b c := by unfold bd3; rw [show a * b * c = b * (a * c) by grind]; exact mul_natAbs_le (Int.mul_ne_zero ha hc)
  have C : c.natAbs ≤ bd3 a b c := by unfold bd3; rw [show a * b * c = c * (a * b) by grind]; exact mul_natAbs_le hab
  obtain ⟨a1, a2, a3⟩ := coreF_is ha (by omega)
  obtain ⟨b1, b2, b3⟩ := coreF_is hb (by omega)
  obtain ⟨c1, c2, c3⟩ := coreF_is hc (by omega)
  have one : ∀ {p q : Int}, 1 ≤ p → 1 ≤ q → 1 ≤ p * q := fun {p q} hp hq => by have := Int.mul_le_mul hp hq (by omega) (by omega); omega
  refine ⟨((coreF a).2 * (coreF b).2 * (coreF c).2) * ((coreF a).2 * (coreF b).2 * (coreF c).2), a3, b3, c3, one b2 c2, one a2 c2, one a2 b2, ?_, ?_, ?_, ?_, ?_⟩
  · have := one (one a2 b2) c2; exact one this this
  · conv => lhs; rw [a1]
    grind
  · conv => lhs; rw [b1]
    grind
  · conv => lhs; rw [c1]
    grind
  · unfold bd3
    refine Nat.le_of_eq (congrArg Int.natAbs ?_)
    conv => rhs; rw [a1, b1, c1]
    grind
theorem nrm3_is {a b c : Int} (ha : a ≠ 0) (hb : b ≠ 0) (hc : c ≠ 0) (h : bd3 a b c < 2 ^ 60) : Nrm a b c (bd3 a b c) (nrm3 a b c) := by
  obtain ⟨l, h1⟩ := core_ni ha hb hc h
  refine nrm_ni h 62 _ _ _ _ _ _ _ h1 ?_
  have := h1.bd.2.2.1
  omega
theorem z3_pre {a b c l a' b' c' x y z u v' w : Int} (n1 : NI a b c (bd3 a b c) l a' b' c' x y z) (h : bd3 a b c ≤ 27000) (hz : zs a' b' c' = some [u, v', w]) :
    (∃ t ∈ [u * x, v' * y, w * z], t ≠ 0) ∧ qv [a, b, c] [u * x, v' * y, w * z] = 0 ∧ ∀ t ∈ [u * x, v' * y, w * z], t.natAbs ≤ 40000 := by
  obtain ⟨u_, v_, w_, e, k1, k2, k3, k4, k5, k6, k7⟩ := zs_is hz
  simp only [List.cons.injEq, and_true] at e
  obtain ⟨rfl, rfl, rfl⟩ := e
  have bx := n1.bd
  have by' := n1.turn.bd
  have bz := n1.back.bd
  have hx := n1.hx
  have hy := n1.hy
  have hz' := n1.hz
  refine ⟨?_, ?_, ?_⟩
  · rcases k2 with k2 | k2
    · exact ⟨u * x, by simp, Int.mul_ne_zero k2 (by omega)⟩
    · exact ⟨v' * y, by simp, Int.mul_ne_zero k2 (by omega)⟩
  · have e1 : qv [a, b, c] [u * x, v' * y, w * z] = u * u * (a * (x * x)) + v' * v' * (b * (y * y)) + w * w * (c * (z * z)) := by simp only [qv]; grind
    rw [e1, n1.ea, n1.eb, n1.ec]
    have e2 : u * u * (l * a') + v' * v' * (l * b') + w * w * (l * c') = l * (a' * u * u + b' * v' * v' + c' * w * w) := by grind
    rw [e2, k1, Int.mul_zero]
  · have U : u ≤ 164 := by
      have h1 : u * u ≤ 27000 := by unfold absI at k6; omega
      have := lt_of_sq (a := u) (b := 165) (by omega) (by omega); omega
    have V : v' ≤ 164 := by
      have h1 : v' * v' ≤ 27000 := by unfold absI at k7; omega
      have := lt_of_sq (a := v') (b := 165) (by omega) (by omega); omega
    have W : w ≤ 232 := by
      have hc0 := n1.sc.1
      have h1 : (c' * w * w).natAbs ≤ 54000 := by
        have e3 : c' * w * w = -(a' * u * u) - b' * v' * v' := by omega
        have m1 : (a' * u * u).natAbs ≤ 27000 := by
          have : (a' * u * u).natAbs = a'.natAbs * (u * u).natAbs := by rw [← Int.natAbs_mul]; congr 1; grind
          have h5 : (u * u).natAbs ≤ (b' * c').natAbs := by have := sq_nonneg u; unfold absI at k6; omega
          have h6 := Nat.mul_le_mul_left a'.natAbs h5
          have h7 : a'.natAbs * (b' * c').natAbs = (a' * b' * c').natAbs := by rw [← Int.natAbs_mul]; congr 1; grind
          omega
        have m2 : (b' * v' * v').natAbs ≤ 27000 := by
          have : (b' * v' * v').natAbs = b'.natAbs * (v' * v').natAbs := by rw [← Int.natAbs_mul]; congr 1; grind
          have h5 : (v' * v').natAbs ≤ (a' * c').natAbs := by have := sq_nonneg v'; unfold absI at k7; omega
          have h6 := Nat.mul_le_mul_left b'.natAbs h5
          have h7 : b'.natAbs * (a' * c').natAbs = (a' * b' * c').natAbs := by rw [← Int.natAbs_mul]; congr 1; grind
          omega
        omega
      have h2 : (w * w).natAbs ≤ (c' * w * w).natAbs := by
        rw [show c' * w * w = (w * w) * c' by grind]; exact mul_natAbs_le hc0
      have := sq_nonneg w
      have := lt_of_sq (a := w) (b := 233) (by omega) (by omega); omega
    have sm : ∀ {t m : Int} {T : Nat}, 0 ≤ t → t ≤ T → 1 ≤ m → m * m ≤ 27000 → (t * m).natAbs ≤ T * 164 := by
      intro t m T h1 h2 h3 h4
      have h5 : m ≤ 164 := by have := lt_of_sq (a := m) (b := 165) (by omega) (by omega); omega
      have h6 := Int.mul_le_mul h2 h5 (by omega) (by omega)
      have h7 := Int.mul_nonneg h1 (show 0 ≤ m by omega)
      omega
    intro t ht
    simp only [List.mem_cons, List.not_mem_nil, or_false] at ht
    rcases ht with rfl | rfl | rfl
    · have := sm (T := 164) k3 U hx (by omega); omega
    · have := sm (T := 164) k4 V hy (by omega); omega
    · have := sm (T := 232) k5 W hz' (by omega); omega
theorem z3_is {a b c : Int} (ha : a ≠ 0) (hb : b ≠ 0) (hc : c ≠ 0) (h : bd3 a b c ≤ 27000) {v : List Int} (hv : z3 a b c = some v) :
    ∃ p q r, v = [p, q, r] ∧ qv [a, b, c] v = 0 ∧ (∃ x ∈ v, x ≠ 0) ∧ ∀ x ∈ v, x.natAbs ≤ 40000 := by
  obtain ⟨l, n1, _⟩ := nrm3_is ha hb hc (by omega)
  unfold z3 at hv
  generalize nrm3 a b c = s at *
  obtain ⟨⟨a', b', c'⟩, x, y, z⟩ := s
  simp only at n1 hv
  split at hv
  · rename_i u v' w hz
    injection hv with hv
    subst hv
    obtain ⟨hne, hq, hsm⟩ := z3_pre n1 h hz
    obtain ⟨r1, r2⟩ := plain_zero hne hq
    exact ⟨_, _, _, rfl, r1, r2, plain_small hsm⟩
  · cases hv
end Locg

namespace Locg
open Go.RowKit Go.Proofs.YtnnpafjgghpecaaW.PrintWords

/-! ### four terms -/
def t4 (a b x y : Int) : Int := a * x * x + b * y * y
def z4c (a b c d x y : Int) : Option (List Int) :=
  if x = 0 ∧ y = 0 then none
  else if t4 a b x y = 0 then some (plainF [x, y, 0, 0])
  else if 30 < absI (coreF (t4 a b x y)).1 then none
  else match z3 c d (coreF (t4 a b x y)).1 with
    | some [p, q, r] => some (plainF [x * r, y * r, (coreF (t4 a b x y)).2 * p, (coreF (t4 a b x y)).2 * q])
    | _ => none
def z4y (a b c d x : Int) : Nat → Int → Option (List Int)
  | 0, _ => none
  | n + 1, y => match z4c a b c d x y with | some v => some v | none => z4y a b c d x n (y + 1)
def z4x (a b c d : Int) : Nat → Int → Option (List Int)
  | 0, _ => none
  | n + 1, x => match z4y a b c d x 4 0 with | some v => some v | none => z4x a b c d n (x + 1)
def z4 (a b c d : Int) : Option (List Int) := z4x a b c d 4 0
def Zero (xs v : List Int) (N : Nat) : Prop := v.length = xs.length ∧ qv xs v = 0 ∧ (∃ x ∈ v, x ≠ 0) ∧ ∀ x ∈ v, x.natAbs ≤ N
theorem z3_zero {a b c : Int} (ha : Sm a) (hb : Sm b) (hc : Sm c) {v : List Int} (hv : z3 a b c = some v) : (∃ p q r, v = [p, q, r]) ∧ Zero [a, b, c] v 40000 := by
  have h : bd3 a b c ≤ 27000 := by
    unfold bd3
    rw [Int.natAbs_mul, Int.natAbs_mul]
    have := Nat.mul_le_mul (Nat.mul_le_mul ha.2 hb.2) hc.2
    omega
  obtain ⟨p, q, r, e, h1, h2, h3⟩ := z3_is ha.1 hb.1 hc.1 h hv
  exact ⟨⟨p, q, r, e⟩, by rw [e]; rfl, h1, h2, h3⟩
theorem t4_bd {a b x y : Int} (ha : Sm a) (hb : Sm b) (hx : 0 ≤ x) (hx3 : x ≤ 3) (hy : 0 ≤ y) (hy3 : y ≤ 3) : (t4 a b x y).natAbs ≤ 540 := by
  unfold t4
  have h1 : x = 0 ∨ x = 1 ∨ x = 2 ∨ x = 3 := by omega
  have h2 : y = 0 ∨ y = 1 ∨ y = 2 ∨ y = 3 := by omega
  have := ha.2
  have := hb.2
  rcases h1 with rfl | rfl | rfl | rfl <;> rcases h2 with rfl | rfl | rfl | rfl <;> omega
/-! ### a form -/
def zF (f : List Int) : Option (List Int) :=
  if formOk f then (match f with
    | [a, b] => if (coreF a).1 + (coreF b).1 = 0 then some (plainF [(coreF b).2, (coreF a).2]) else none
    | [a, b, c] => z3 a b c
    | [a, b, c, d] => z4 a b c d
    | _ => none) else none
end Locg

namespace Locg
open Go.RowKit Go.Proofs.YtnnpafjgghpecaaW.PrintWords

def QS : List Int := [2, 3, 5, 7, 11, 13, 17, 19, 23, 29]
def AT : List (Int × List Nat) := [(1, [0, 0, 0, 0, 0, 0, 0, 0, 0, 0]),
  (-1, [3, 1, 0, 1, 1, 0, 0, 1, 1, 0]),
  (2, [4, 1, 1, 0, 1, 1, 0, 1, 0, 1]),
  (-2, [7, 0, 1, 1, 0, 1, 0, 0, 1, 1]),
  (3, [1, 2, 1, 1, 0, 0, 1, 1, 0, 1]),
  (-3, [2, 3, 1, 0, 1, 0, 1, 0, 1, 1]),
  (5, [2, 1, 2, 1, 0, 1, 1, 0, 1, 0]),
  (-5, [1, 0, 2, 0, 1, 1, 1, 1, 0, 0]),
  (6, [5, 3, 0, 1, 1, 1, 1, 0, 0, 0]),
  (-6, [6, 2, 0, 0, 0, 1, 1, 1, 1, 0]),
  (7, [3, 0, 1, 2, 1, 1, 1, 0, 1, 0]),
  (-7, [0, 1, 1, 3, 0, 1, 1, 1, 0, 0]),
  (10, [6, 0, 3, 1, 1, 0, 1, 1, 1, 1]),
  (-10, [5, 1, 3, 0, 0, 0, 1, 0, 0, 1]),
  (15, [3, 3, 3, 0, 0, 1, 0, 1, 1, 1]),
  (-15, [0, 2, 3, 1, 1, 1, 0, 0, 0, 1]),
  (21, [2, 2, 0, 3, 1, 1, 0, 1, 1, 1]),
  (-21, [1, 3, 0, 2, 0, 1, 0, 0, 0, 1]),
  (30, [7, 2, 2, 0, 1, 0, 0, 0, 1, 0]),
  (-30, [4, 3, 2, 1, 0, 0, 0, 1, 0, 0])]
def BT : List (Int × List Nat) := [(11, [1, 1, 0, 0, 2, 1, 1, 0, 1, 1]),
  (-11, [2, 0, 0, 1, 3, 1, 1, 1, 0, 1]),
  (13, [2, 0, 1, 1, 1, 2, 0, 1, 0, 0]),
  (-13, [1, 1, 1, 0, 0, 2, 0, 0, 1, 0]),
  (14, [7, 1, 0, 2, 0, 0, 1, 1, 1, 1]),
  (-14, [4, 0, 0, 3, 1, 0, 1, 0, 0, 1]),
  (17, [0, 1, 1, 1, 1, 0, 2, 0, 1, 1]),
  (-17, [3, 0, 1, 0, 0, 0, 2, 1, 0, 1]),
  (19, [1, 0, 0, 1, 1, 1, 0, 2, 1, 1]),
  (-19, [2, 1, 0, 0, 0, 1, 0, 3, 0, 1]),
  (22, [5, 0, 1, 0, 3, 0, 1, 1, 1, 0]),
  (-22, [6, 1, 1, 1, 2, 0, 1, 0, 0, 0]),
  (23, [3, 1, 1, 0, 0, 0, 1, 0, 2, 0]),
  (-23, [0, 0, 1, 1, 1, 0, 1, 1, 3, 0]),
  (26, [6, 1, 0, 1, 0, 3, 0, 0, 0, 1]),
  (-26, [5, 0, 0, 0, 1, 3, 0, 1, 1, 1]),
  (29, [2, 1, 0, 0, 1, 0, 1, 1, 0, 2]),
  (-29, [1, 0, 0, 1, 0, 0, 1, 0, 1, 2])]
def CT : List (Int × List Nat) := AT ++ BT
theorem CT_ok : ∀ e ∈ CT, e.2 = QS.map (fun p => code p e.1) := by decide +kernel
theorem QS_plc : ∀ p ∈ QS, placeOk p = true := by decide +kernel
def obst : List Int → List Nat → List Nat → List Nat → Bool
  | p :: ps, a :: as, b :: bs, c :: cs => !vanC p [a, b, c] || obst ps as bs cs
  | _, _, _, _ => false
def onesign (a b c : Int) : Bool := (decide (0 < a) && decide (0 < b) && decide (0 < c)) || (decide (a < 0) && decide (b < 0) && decide (c < 0))
def wit (a b c x y z : Int) : Bool := decide (a * x * x + b * y * y + c * z * z = 0) && !(decide (x = 0) && decide (y = 0)) && decide (x * x ≤ absI (b * c)) && decide (y * y ≤ absI (a * c))
def fndY (a b c x : Int) : Nat → Int → Bool
  | 0, _ => false
  | n + 1, y => (decide ((a * x * x + b * y * y) % c = 0) && (List.range 18).any (fun z => wit a b c x y z)) || fndY a b c x n (y + 1)
def fndX (a b c : Int) : Nat → Int → Bool
  | 0, _ => false
  | n + 1, x => fndY a b c x 18 0 || fndX a b c n (x + 1)
def fnd (s : T6) : Bool := fndX s.1.1 s.1.2.1 s.1.2.2 18 0
def zchk (e f g : Int × List Nat) : Bool := onesign e.1 f.1 g.1 || obst QS e.2 f.2 g.2 || fnd (nrm 62 e.1 f.1 g.1 1 1 1)
def zchkR (e : Int × List Nat) : Bool := AT.all fun f => CT.all fun g => zchk e f g
theorem ck0 : zchkR (1, [0, 0, 0, 0, 0, 0, 0, 0, 0, 0]) = true := by decide +kernel
theorem ck1 : zchkR (-1, [3, 1, 0, 1, 1, 0, 0, 1, 1, 0]) = true := by decide +kernel
theorem ck2 : zchkR (2, [4, 1, 1, 0, 1, 1, 0, 1, 0, 1]) = true := by decide +kernel
theorem ck3 : zchkR (-2, [7, 0, 1, 1, 0, 1, 0, 0, 1, 1]) = true := by decide +kernel
theorem ck4 : zchkR (3, [1, 2, 1, 1, 0, 0, 1, 1, 0, 1]) = true := by decide +kernel
theorem ck5 : zchkR (-3, [2, 3, 1, 0, 1, 0, 1, 0, 1, 1]) = true := by decide +kernel
theorem ck6 : zchkR (5, [2, 1, 2, 1, 0, 1, 1, 0, 1, 0]) = true := by decide +kernel
theorem ck7 : zchkR (-5, [1, 0, 2, 0, 1, 1, 1, 1, 0, 0]) = true := by decide +kernel
theorem ck8 : zchkR (6, [5, 3, 0, 1, 1, 1, 1, 0, 0, 0]) = true := by decide +kernel
theorem ck9 : zchkR (-6, [6, 2, 0, 0, 0, 1, 1, 1, 1, 0]) = true := by decide +kernel
theorem ck10 : zchkR (7, [3, 0, 1, 2, 1, 1, 1, 0, 1, 0]) = true := by decide +kernel
theorem ck11 : zchkR (-7, [0, 1, 1, 3, 0, 1, 1, 1, 0, 0]) = true := by decide +kernel
theorem ck12 : zchkR (10, [6, 0, 3, 1, 1, 0, 1, 1, 1, 1]) = true := by decide +kernel
theorem ck13 : zchkR (-10, [5, 1, 3, 0, 0, 0, 1, 0, 0, 1]) = true := by decide +kernel
theorem ck14 : zchkR (15, [3, 3, 3, 0, 0, 1, 0, 1, 1, 1]) = true := by decide +kernel
theorem ck15 : zchkR (-15, [0, 2, 3, 1, 1, 1, 0, 0, 0, 1]) = true := by decide +kernel
theorem ck16 : zchkR (21, [2, 2, 0, 3, 1, 1, 0, 1, 1, 1]) = true := by decide +kernel
theorem ck17 : zchkR (-21, [1, 3, 0, 2, 0, 1, 0, 0, 0, 1]) = true := by decide +kernel
theorem ck18 : zchkR (30, [7, 2, 2, 0, 1, 0, 0, 0, 1, 0]) = true := by decide +kernel
theorem ck19 : zchkR (-30, [4, 3, 2, 1, 0, 0, 0, 1, 0, 0]) = true := by decide +kernel
theorem zchk_all : ∀ e ∈ AT, zchkR e = true := by
  intro e he
  simp only [AT, List.mem_cons, List.not_mem_nil, or_false] at he
  rcases he with rfl | rfl | rfl | rfl | rfl | rfl | rfl | rfl | rfl | rfl | rfl | rfl | rfl | rfl | rfl | rfl | rfl | rfl | rfl | rfl
  · exact ck0
  · exact ck1
  · exact ck2
  · exact ck3
  · exact ck4
  · exact ck5
  · exact ck6
  · exact ck7
  · exact ck8
  · exact ck9
  · exact ck10
  · exact ck11
  · exact ck12
  · exact ck13
  · exact ck14
  · exact ck15
  · exact ck16
  · exact ck17
  · exact ck18
  · exact ck19
end Locg

namespace Locg
open Go.RowKit Go.Proofs.YtnnpafjgghpecaaW.PrintWords

theorem hit_wit {a b c x y z : Int} (hc : c ≠ 0) (hz : 0 ≤ z) (h : wit a b c x y z = true) : (hit a b c x y).isSome = true ∧ x * x ≤ absI (b * c) ∧ y * y ≤ absI (a * c) := by
  unfold wit at h
  simp only [Bool.and_eq_true, decide_eq_true_eq, Bool.not_eq_true', Bool.and_eq_false_iff, decide_eq_false_iff_not] at h
  obtain ⟨⟨⟨h1, h2⟩, h3⟩, h4⟩ := h
  refine ⟨?_, h3, h4⟩
  have e : nmr a b x y = c * (z * z) := by unfold nmr; grind
  have e2 : (nmr a b x y).tdiv c = z * z := by rw [e]; exact Int.mul_tdiv_cancel_left _ hc
  unfold hit
  rw [e2, isq_sq hz, if_pos ⟨by rw [e]; exact Int.tmod_eq_zero_of_dvd (Int.dvd_mul_right _ _), sq_nonneg z, rfl, fun k => by rcases h2 with h2 | h2; exact h2 k.1; exact h2 k.2⟩]
  rfl
theorem fndY_wit {a b c x : Int} : ∀ (n : Nat) (y : Int), 0 ≤ y → y + n = 18 → fndY a b c x n y = true → ∃ y z, 0 ≤ y ∧ y < 18 ∧ 0 ≤ z ∧ wit a b c x y z = true
  | 0, y, _, _, h => by simp [fndY] at h
  | n + 1, y, h0, h1, h => by
    simp only [fndY, Bool.or_eq_true, Bool.and_eq_true, List.any_eq_true] at h
    rcases h with ⟨_, z, _, hz⟩ | h
    · exact ⟨y, (z : Int), h0, by omega, by omega, hz⟩
    · exact fndY_wit n (y + 1) (by omega) (by omega) h
theorem fndX_wit {a b c : Int} : ∀ (n : Nat) (x : Int), 0 ≤ x → x + n = 18 → fndX a b c n x = true → ∃ x y z, 0 ≤ x ∧ x < 18 ∧ 0 ≤ y ∧ y < 18 ∧ 0 ≤ z ∧ wit a b c x y z = true
  | 0, x, _, _, h => by simp [fndX] at h
  | n + 1, x, h0, h1, h => by
    simp only [fndX, Bool.or_eq_true] at h
    rcases h with h | h
    · obtain ⟨y, z, k⟩ := fndY_wit 18 0 (by omega) (by omega) h
      exact ⟨x, y, z, h0, by omega, k⟩
    · exact fndX_wit n (x + 1) (by omega) (by omega) h
theorem fnd_zs {s : T6} (hc : s.1.2.2 ≠ 0) (h : fnd s = true) : (zs s.1.1 s.1.2.1 s.1.2.2).isSome = true := by
  obtain ⟨x, y, z, x0, x1, y0, y1, z0, hw⟩ := fndX_wit 18 0 (by omega) (by omega) h
  obtain ⟨k1, k2, k3⟩ := hit_wit hc z0 hw
  exact zs_some x0 k2 (by omega) y0 (by omega) k3 k1
theorem nrm_times : ∀ (k : Nat) (a b c x y z x' y' z' : Int), (nrm k a b c x y z).1 = (nrm k a b c x' y' z').1
  | 0, _, _, _, _, _, _, _, _, _ => rfl
  | k + 1, a, b, c, x, y, z, x', y', z' => by
    simp only [nrm]
    by_cases g1 : 1 < gI a b
    · rw [if_pos g1, if_pos g1]
      split <;> exact nrm_times k _ _ _ _ _ _ _ _ _
    · rw [if_neg g1, if_neg g1]
      by_cases g2 : 1 < gI a c
      · rw [if_pos g2, if_pos g2]
        split <;> exact nrm_times k _ _ _ _ _ _ _ _ _
      · rw [if_neg g2, if_neg g2]
        by_cases g3 : 1 < gI b c
        · rw [if_pos g3, if_pos g3]
          split <;> exact nrm_times k _ _ _ _ _ _ _ _ _
        · rw [if_neg g3, if_neg g3]
theorem code_core {p a : Int} (h : Plc p) (ha : Sm a) : code p a = code p (coreF a).1 := by
  obtain ⟨e, h1, h2⟩ := coreF_is ha.1 (by have := ha.2; omega)
  have := ha.2
  conv => lhs; rw [e, ← Int.mul_assoc]
  exact code_sqm h h2.1 (by omega) (by rw [Int.mul_assoc, ← e]; omega)
theorem core_all : ∀ n ∈ List.range 31, n ≠ 0 → (coreF (n : Int)).1 ∈ CT.map Prod.fst ∧ (coreF (-(n : Int))).1 ∈ CT.map Prod.fst := by decide +kernel
theorem core_in {a : Int} (ha : Sm a) : (coreF a).1 ∈ CT.map Prod.fst := by
  have h1 := ha.1
  have h2 := ha.2
  rcases Int.le_total 0 a with h | h
  · have := (core_all a.natAbs (by simp; omega) (by omega)).1
    rwa [show ((a.natAbs : Nat) : Int) = a by omega] at this
  · have := (core_all a.natAbs (by simp; omega) (by omega)).2
    rwa [show -((a.natAbs : Nat) : Int) = a by omega] at this
/-- Terms of drawn forms. -/
def Tm (a : Int) : Prop := Sm a ∧ (coreF a).1 ∈ AT.map Prod.fst
theorem core_sign {a : Int} (ha : Sm a) : (0 < (coreF a).1 ↔ 0 < a) ∧ ((coreF a).1 < 0 ↔ a < 0) := by
  obtain ⟨e, h1, h2⟩ := coreF_is ha.1 (by have := ha.2; omega)
  have hr : 0 < (coreF a).2 * (coreF a).2 := Int.mul_pos (by omega) (by omega)
  have h0 := h2.1
  generalize (coreF a).1 = c at *
  generalize (coreF a).2 * (coreF a).2 = q at *
  subst e
  constructor
  · constructor
    · intro h; exact Int.mul_pos h hr
    · intro h
      rcases Int.lt_or_le 0 c with k | k
      · exact k
      · have := Int.mul_nonneg (show 0 ≤ -c by omega) (show 0 ≤ q by omega); rw [Int.neg_mul] at this; omega
  · constructor
    · intro h; have := Int.mul_pos (show 0 < -c by omega) hr; rw [Int.neg_mul] at this; omega
    · intro h
      rcases Int.lt_or_le c 0 with k | k
      · exact k
      · have := Int.mul_nonneg k (show 0 ≤ q by omega); omega
theorem z3_found {a b c : Int} (ha : Tm a) (hb : Tm b) (hc : Sm c) (hv : ∀ p, Plc p → van [a, b, c] p = true) : (z3 a b c).isSome = true := by
  have sa := ha.1
  have sb := hb.1
  have hs : ∀ x ∈ [a, b, c], Sm x := by intro x hx; simp at hx; rcases hx with rfl | rfl | rfl <;> assumption
  obtain ⟨e, he, e1⟩ := List.mem_map.1 ha.2
  obtain ⟨f, hf, f1⟩ := List.mem_map.1 hb.2
  obtain ⟨g, hg, g1⟩ := List.mem_map.1 (core_in hc)
  have h := zchk_all e he
  unfold zchkR at h
  rw [List.all_eq_true] at h
  have h := h f hf
  rw [List.all_eq_true] at h
  have h := h g hg
  unfold zchk at h
  rw [Bool.or_eq_true, Bool.or_eq_true] at h
  have e2 := CT_ok e (List.mem_append_left _ he)
  have f2 := CT_ok f (List.mem_append_left _ hf)
  have g2 := CT_ok g hg
  rcases h with (h | h) | h
  · exfalso
    have h0 := hv 0 (.inl rfl)
    rw [e1, f1, g1] at h
    unfold onesign at h
    simp only [Bool.or_eq_true, Bool.and_eq_true, decide_eq_true_eq] at h
    rw [(core_sign sa).1, (core_sign sb).1, (core_sign hc).1, (core_sign sa).2, (core_sign sb).2, (core_sign hc).2] at h
    unfold van at h0
    rw [if_pos rfl] at h0
    rcases h with h | h
    · have hl : less [a, b, c] = 0 := by
        simp only [less, lessF]
        rw [if_neg (show ¬ c < 0 by omega), if_neg (show ¬ b < 0 by omega), if_neg (show ¬ a < 0 by omega)]
      rw [hl] at h0
      simp at h0
    · have hl : less [a, b, c] = 3 := by
        simp only [less, lessF]
        rw [if_pos (show c < 0 by omega), if_pos (show b < 0 by omega), if_pos (show a < 0 by omega)]
        rfl
      rw [hl] at h0
      simp at h0
  · exfalso
    have key : ∀ (ps : List Int), (∀ p ∈ ps, Plc p ∧ p ≠ 0) → obst ps (ps.map fun p => code p e.1) (ps.map fun p => code p f.1) (ps.map fun p => code p g.1) = false := by
      intro ps
      induction ps with
      | nil => intro _; rfl
      | cons p ps ih =>
        intro hp
        simp only [List.map_cons, obst]
        rw [ih (fun q hq => hp q (by simp [hq]))]
        obtain ⟨p1, p2⟩ := hp p (by simp)
        have hvp := hv p p1
        rw [van_code p1 p2 hs (by simp)] at hvp
        simp only [List.map_cons, List.map_nil] at hvp
        rw [code_core p1 sa, code_core p1 sb, code_core p1 hc, ← e1, ← f1, ← g1] at hvp
        rw [hvp]; rfl
    rw [e2, f2, g2] at h
    have := key QS (fun p hp => ⟨placeOk_iff.1 (QS_plc p hp), fun e0 => by subst e0; revert hp; decide⟩)
    rw [this] at h; cases h
  · rw [e1, f1, g1] at h
    have hM : bd3 a b c ≤ 27000 := by
      unfold bd3
      rw [Int.natAbs_mul, Int.natAbs_mul]
      have := Nat.mul_le_mul (Nat.mul_le_mul sa.2 sb.2) hc.2
      omega
    obtain ⟨l, n1, _⟩ := nrm3_is sa.1 sb.1 hc.1 (show bd3 a b c < 2 ^ 60 by omega)
    have et : (nrm 62 (coreF a).1 (coreF b).1 (coreF c).1 1 1 1).1 = (nrm3 a b c).1 := nrm_times _ _ _ _ _ _ _ _ _ _
    have h2 : fnd (nrm3 a b c) = true := by unfold fnd at h ⊢; rw [← et]; exact h
    have hz := fnd_zs n1.sc.1 h2
    obtain ⟨v, hv⟩ := Option.isSome_iff_exists.1 hz
    obtain ⟨u, v', w, rfl, _⟩ := zs_is hv
    unfold z3
    rw [hv]; rfl
end Locg

namespace Locg
open Go.RowKit Go.Proofs.YtnnpafjgghpecaaW.PrintWords

theorem tm_tt {a : Int} (h : a ∈ TT) : Tm a := by
  have : ∀ x ∈ TT, (coreF x).1 ∈ AT.map Prod.fst := by decide +kernel
  exact ⟨TT_sm h, this a h⟩
/-- Good terms: a form of three has its first two among the drawn ones. -/
def Gd (f : List Int) : Prop := (∀ x ∈ f, x ∈ TT) ∨ ∃ a b c, f = [a, b, c] ∧ a ∈ TT ∧ b ∈ TT ∧ Sm c
theorem gd_three {a b c : Int} (h : Gd [a, b, c]) : Tm a ∧ Tm b ∧ Sm c := by
  rcases h with h | ⟨a', b', c', e, h1, h2, h3⟩
  · exact ⟨tm_tt (h a (by simp)), tm_tt (h b (by simp)), TT_sm (h c (by simp))⟩
  · simp only [List.cons.injEq, and_true] at e
    obtain ⟨rfl, rfl, rfl⟩ := e
    exact ⟨tm_tt h1, tm_tt h2, h3⟩
/-! ### lowest terms -/
/-! ### values -/
end Locg
