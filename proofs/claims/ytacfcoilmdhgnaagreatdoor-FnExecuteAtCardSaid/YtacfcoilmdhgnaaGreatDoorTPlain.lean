/- The plain texts of this claim, one behind the other. -/
import Derived.Test.YtacfcoilmdhgnaaGreatDoorTWMore
set_option linter.unusedVariables false
set_option linter.unusedSimpArgs false
namespace Locg
open Go.RowKit Go.Proofs.YtacfcoilmdhgnaaGreatDoorW.PrintWords

theorem w64 {x : Int} (h : -9223372036854775808 ≤ x) (h' : x ≤ 9223372036854775807) : wrap64 x = x := by unfold wrap64; omega
theorem w64' {x : Int} (h : 0 ≤ x) (h' : x ≤ 9223372036854775807) : wrap64 x = x := w64 (by omega) h'

theorem sq_le {a b : Int} (h0 : 0 ≤ a) (h : a ≤ b) : a * a ≤ b * b := Int.mul_le_mul h h h0 (by omega)
theorem sq_lt {a b : Int} (h0 : 0 ≤ a) (h : a < b) : a * a < b * b := by
  have h1 : a * a ≤ a * b := Int.mul_le_mul_of_nonneg_left (by omega) h0
  have h2 : a * b < b * b := Int.mul_lt_mul_of_pos_right h (by omega)
  omega
theorem lt_of_sq {a b : Int} (h0 : 0 ≤ b) (h : a * a < b * b) : a < b := by
  rcases Int.lt_or_le a b with h1 | h1
  · exact h1
  · have := sq_le h0 h1; omega
theorem le_of_sq {a b : Int} (h0 : 0 ≤ b) (h : a * a ≤ b * b) : a ≤ b := by
  rcases Int.lt_or_le b a with h1 | h1
  · have := sq_lt h0 h1; omega
  · exact h1
theorem sq_nonneg (a : Int) : 0 ≤ a * a := by
  rcases Int.le_total 0 a with h | h
  · exact Int.mul_nonneg h h
  · have := Int.mul_nonneg (a := -a) (b := -a) (by omega) (by omega); rw [Int.neg_mul_neg] at this; exact this
theorem mul_le2 {a b A B : Int} (ha : 0 ≤ a) (hA : a ≤ A) (hb : 0 ≤ b) (hB : b ≤ B) : a * b ≤ A * B := Int.mul_le_mul hA hB hb (by omega)

/-- The greatest number whose square is at most n. -/
def isqrt : Nat → Nat
  | 0 => 0
  | n + 1 => if (isqrt n + 1) * (isqrt n + 1) ≤ n + 1 then isqrt n + 1 else isqrt n
/-- The greatest number whose square is at most n, of an integer. -/
def isq (n : Int) : Int := (isqrt n.toNat : Nat)
theorem tdiv2 {n : Int} (h : 0 ≤ n) : Int.tdiv n 2 = n / 2 := Int.tdiv_eq_ediv_of_nonneg h
theorem wmul {a b : Int} (ha : 0 ≤ a) (hA : a ≤ 1048577) (hb : 0 ≤ b) (hB : b ≤ 1048577) : wrap64 (a * b) = a * b :=
  w64' (Int.mul_nonneg ha hb) (by have := mul_le2 ha hA hb hB; omega)

/-- What one x gives to the ways of two squares. -/
def wayW (n x : Int) : Int := if isq (n - x * x) * isq (n - x * x) = n - x * x then (if x > 0 then (if isq (n - x * x) > 0 then 4 else 2) else (if isq (n - x * x) > 0 then 2 else 1)) else 0
def r2from (n : Int) : Nat → Int → Int
  | 0, _ => 0
  | d + 1, x => wayW n x + r2from n d (x + 1)
def r2 (n : Int) : Int := r2from n (isq n + 1).toNat 0
/-- Ways of four squares, as sums over two and two. -/
def conv (n : Int) : Nat → Int → Int
  | 0, _ => 0
  | d + 1, k => r2 k * r2 (n - k) + conv n d (k + 1)
def r4 (n : Int) : Int := conv n (n + 1).toNat 0

theorem rd_drop {xs : List Int} {j : Nat} (h : j < xs.length) : xs.drop j = rd xs (j : Int) :: xs.drop (j + 1) := by
  rw [List.drop_eq_getElem_cons h]
  simp [rd, List.getElem?_eq_getElem h]
theorem rd_mem {xs : List Int} {j : Nat} (h : j < xs.length) : rd xs (j : Int) ∈ xs := by
  simp [rd, List.getElem?_eq_getElem h]

end Locg

namespace Locg
open Go.RowKit Go.Proofs.YtacfcoilmdhgnaaGreatDoorW.PrintWords Go.Proofs.YtacfcoilmdhgnaaGreatDoorW.PrintMore

/-- How often p divides n, and what is left; d: how often at most. -/
def spl (p : Int) : Nat → Int → Int × Int
  | 0, n => (0, n)
  | d + 1, n => if n.tmod p = 0 then ((spl p d (n.tdiv p)).1 + 1, (spl p d (n.tdiv p)).2) else (0, n)
def val (p n : Int) : Int := (spl p 64 n).1
def unit (p n : Int) : Int := (spl p 64 n).2

theorem tdiv_abs {n p : Int} (hp : 2 ≤ p) (hn : n ≠ 0) (h : n.tmod p = 0) : n.tdiv p ≠ 0 ∧ n = p * n.tdiv p ∧ 2 * (n.tdiv p).natAbs ≤ n.natAbs ∧ (0 < n → 0 < n.tdiv p) ∧ (n < 0 → n.tdiv p < 0) := by
  have e : n = p * n.tdiv p := by have := Int.mul_tdiv_add_tmod n p; omega
  generalize n.tdiv p = m at e
  have hm : m ≠ 0 := by intro h0; subst h0; simp at e; exact hn e
  have hk : n.natAbs = p.natAbs * m.natAbs := by rw [e, Int.natAbs_mul]
  have h2 : 2 * m.natAbs ≤ p.natAbs * m.natAbs := Nat.mul_le_mul_right _ (by omega)
  refine ⟨hm, e, by omega, fun h0 => ?_, fun h0 => ?_⟩
  · rcases Int.lt_or_le 0 m with h1 | h1
    · exact h1
    · have := Int.mul_nonneg (a := p) (b := -m) (by omega) (by omega); rw [Int.mul_neg] at this; omega
  · rcases Int.lt_or_le m 0 with h1 | h1
    · exact h1
    · have := Int.mul_nonneg (a := p) (b := m) (by omega) h1; omega

theorem spl_spec {p : Int} (hp : 2 ≤ p) : ∀ (d : Nat) (n : Int), n ≠ 0 → n.natAbs < 2 ^ d →
    n = p ^ (spl p d n).1.toNat * (spl p d n).2 ∧ (spl p d n).2.tmod p ≠ 0 ∧ 0 ≤ (spl p d n).1 ∧ (spl p d n).1 < d ∧ (spl p d n).2 ≠ 0 ∧ (spl p d n).2.natAbs ≤ n.natAbs ∧ (0 < n → 0 < (spl p d n).2) := by
  intro d
  induction d with
  | zero => intro n hn h; simp at h; omega
  | succ d ih =>
    intro n hn h
    by_cases c : n.tmod p = 0
    · obtain ⟨h0, h1, h2, h3, _⟩ := tdiv_abs hp hn c
      obtain ⟨g1, g2, g3, g4, g5, g6, g7⟩ := ih (n.tdiv p) h0 (by rw [Nat.pow_succ] at h; omega)
      simp only [spl, if_pos c]
      refine ⟨?_, g2, by omega, by omega, g5, by omega, fun h => g7 (h3 h)⟩
      rw [show ((spl p d (n.tdiv p)).1 + 1).toNat = (spl p d (n.tdiv p)).1.toNat + 1 from by omega, Int.pow_succ, Int.mul_comm (p ^ _) p, Int.mul_assoc, ← g1]
      exact h1
    · simp only [spl, if_neg c]
      refine ⟨by simp, c, by omega, by omega, hn, by omega, fun h => h⟩
/-- More rounds tell the same. -/
theorem spl_more {p : Int} (hp : 2 ≤ p) : ∀ (d : Nat) (n : Int), n ≠ 0 → n.natAbs < 2 ^ d → spl p (d + 1) n = spl p d n := by
  intro d
  induction d with
  | zero => intro n hn h; simp at h; omega
  | succ d ih =>
    intro n hn h
    by_cases c : n.tmod p = 0
    · obtain ⟨h0, h1, h2, h3, _⟩ := tdiv_abs hp hn c
      have := ih (n.tdiv p) h0 (by rw [Nat.pow_succ] at h; omega)
      simp only [spl, if_pos c] at this ⊢
      rw [this]
    · simp only [spl, if_neg c]
theorem spl_dvd {p n : Int} (d : Nat) (c : n.tmod p = 0) : spl p (d + 1) n = ((spl p d (n.tdiv p)).1 + 1, (spl p d (n.tdiv p)).2) := by simp only [spl, if_pos c]
theorem spl_not {p n : Int} (d : Nat) (c : n.tmod p ≠ 0) : spl p (d + 1) n = (0, n) := by simp only [spl, if_neg c]
theorem val_of_not {p n : Int} (c : n.tmod p ≠ 0) : val p n = 0 ∧ unit p n = n := by
  have e2 : spl p 64 n = _ := spl_not 63 c
  unfold val unit
  rw [e2]
  exact ⟨rfl, rfl⟩
theorem val_spec {p n : Int} (hp : 2 ≤ p) (hn : n ≠ 0) (h : n.natAbs < 2 ^ 63) :
    n = p ^ (val p n).toNat * unit p n ∧ (unit p n).tmod p ≠ 0 ∧ 0 ≤ val p n ∧ val p n < 64 ∧ unit p n ≠ 0 ∧ (unit p n).natAbs ≤ n.natAbs ∧ (0 < n → 0 < unit p n) :=
  spl_spec hp 64 n hn (by omega)

/-- The primes of n from p on, by trial. -/
def pl : Nat → Int → Int → List Int
  | 0, _, _ => []
  | d + 1, n, p => if p * p ≤ n then (if n.tmod p = 0 then p :: pl d (unit p n) (p + 1) else pl d n (p + 1)) else (if n > 1 then [n] else [])
def absI (n : Int) : Int := (n.natAbs : Nat)
def primes (n : Int) : List Int := pl (n.natAbs + 2) (absI n) 2
theorem pl_len : ∀ (d : Nat) (n p : Int), (pl d n p).length ≤ d
  | 0, _, _ => by simp [pl]
  | d + 1, n, p => by
    simp only [pl]
    have h1 := pl_len d (unit p n) (p + 1)
    have h2 := pl_len d n (p + 1)
    repeat' split
    all_goals simp
    all_goals omega
theorem size_ev {n : Int} (h : -9223372036854775808 < n) (h' : n ≤ 9223372036854775807) : mx n (wrap64 (-n)) = absI n := by
  rw [w64 (by omega) (by omega)]; unfold mx absI; omega
theorem primes_len (n : Int) : (primes n).length ≤ n.natAbs + 2 := pl_len _ _ _

end Locg

namespace Locg
def PrimeL (q : Int) : Prop := 2 ≤ q ∧ ∀ r : Int, 2 ≤ r → r ∣ q → r = q

theorem prime_mul {q a b : Int} (hq : PrimeL q) (h : q ∣ a * b) : q ∣ a ∨ q ∣ b := by
  have hg1 : ((Int.gcd q a : Nat) : Int) ∣ q := Int.gcd_dvd_left ..
  have hg2 : ((Int.gcd q a : Nat) : Int) ∣ a := Int.gcd_dvd_right ..
  rcases Nat.lt_or_ge (Int.gcd q a) 2 with h1 | h1
  · right
    have h0 : Int.gcd q a ≠ 0 := by
      intro h0; have := (Int.gcd_eq_zero_iff.1 h0).1; have := hq.1; omega
    have hc : Nat.Coprime q.natAbs a.natAbs := by
      have : Int.gcd q a = Nat.gcd q.natAbs a.natAbs := rfl
      unfold Nat.Coprime; omega
    have hd : q.natAbs ∣ a.natAbs * b.natAbs := by rw [← Int.natAbs_mul]; exact Int.natAbs_dvd_natAbs.2 h
    exact Int.natAbs_dvd_natAbs.1 (Nat.Coprime.dvd_of_dvd_mul_left hc hd)
  · left
    have := hq.2 _ (show (2 : Int) ≤ ((Int.gcd q a : Nat) : Int) by omega) hg1
    rw [this] at hg2; exact hg2

/-- Euclid: what the prime does not divide has an inverse. -/
theorem inv_ex {p : Int} (hp : PrimeL p) : ∀ (n : Nat) (k : Int), k.toNat ≤ n → 1 ≤ k → k < p → ∃ j : Int, (k * j) % p = 1 := by
  intro n
  induction n with
  | zero => intro k h h1; omega
  | succ n ih =>
    intro k hn h1 hk
    rcases Int.lt_or_le 1 k with c | c
    · have hr0 : p % k ≠ 0 := by
        intro h0
        have := hp.2 k (by omega) (Int.dvd_of_emod_eq_zero h0)
        omega
      have hr1 := Int.emod_nonneg p (show k ≠ 0 by omega)
      have hr2 := Int.emod_lt_of_pos p (show 0 < k by omega)
      obtain ⟨j, hj⟩ := ih (p % k) (by omega) (by omega) (by omega)
      refine ⟨-((p / k) * j), ?_⟩
      have e : k * -((p / k) * j) = (p % k) * j + p * (-j) := by
        have := Int.mul_ediv_add_emod p k
        have h2 : p * j = (k * (p / k) + p % k) * j := by rw [this]
        grind
      rw [e, Int.add_mul_emod_self_left]; exact hj
    · obtain rfl : k = 1 := by omega
      refine ⟨1, ?_⟩
      have := hp.1
      exact Int.emod_eq_of_lt (by omega) (by omega)

def prodL : List Int → Int
  | [] => 1
  | x :: xs => x * prodL xs
theorem prodL_perm {a b : List Int} (h : a.Perm b) : prodL a = prodL b := by
  induction h with
  | nil => rfl
  | cons x _ ih => simp [prodL, ih]
  | swap x y l => simp only [prodL]; grind
  | trans _ _ h1 h2 => rw [h1, h2]

/-- Numbers that fall into pairs with one product. -/
theorem pairing (a p : Int) (σ : Int → Int) : ∀ (n : Nat) (L : List Int), L.length ≤ n → L.Nodup →
    (∀ k ∈ L, σ k ∈ L ∧ σ k ≠ k ∧ σ (σ k) = k ∧ (k * σ k) % p = a % p) → ∃ m, L.length = 2 * m ∧ prodL L % p = a ^ m % p := by
  intro n
  induction n with
  | zero => intro L hl _ _; match L, hl with | [], _ => exact ⟨0, rfl, by simp [prodL]⟩
  | succ n ih =>
    intro L hl hd hs
    match L, hl, hd, hs with
    | [], _, _, _ => exact ⟨0, rfl, by simp [prodL]⟩
    | k :: L, hl, hd, hs =>
      have hk := hs k (by simp)
      have hd' := List.nodup_cons.1 hd
      have hmem : σ k ∈ L := by
        rcases List.mem_cons.1 hk.1 with h | h
        · exact absurd h hk.2.1
        · exact h
      have hN := hd'.2
      have hlen : (L.erase (σ k)).length + 1 = L.length := by
        have := List.length_erase_of_mem hmem
        have : 0 < L.length := List.length_pos_of_mem hmem
        omega
      obtain ⟨m, hm1, hm2⟩ := ih (L.erase (σ k)) (by simp at hl; omega) (hN.erase _) (by
        intro x hx
        have hx2 := (hN.mem_erase_iff).1 hx
        have hxk : x ≠ k := fun h => hd'.1 (h ▸ hx2.2)
        have h1 := hs x (by simp [hx2.2])
        refine ⟨?_, h1.2⟩
        rw [hN.mem_erase_iff]
        refine ⟨fun h => ?_, ?_⟩
        · have := h1.2.2.1; rw [h, hk.2.2.1] at this; exact hxk this.symm
        · rcases List.mem_cons.1 h1.1 with h | h
          · exfalso; have := h1.2.2.1; rw [h] at this; exact hx2.1 this.symm
          · exact h)
      refine ⟨m + 1, by simp; omega, ?_⟩
      have hp := prodL_perm (List.perm_cons_erase hmem)
      simp only [prodL] at hp ⊢
      rw [hp, ← Int.mul_assoc, Int.mul_emod, hk.2.2.2, hm2, ← Int.mul_emod, Int.pow_succ, Int.mul_comm]

/-- 1, 2, .., n. -/
def upto : Nat → List Int
  | 0 => []
  | n + 1 => ((n : Int) + 1) :: upto n
theorem mem_upto {n : Nat} {x : Int} : x ∈ upto n ↔ 1 ≤ x ∧ x ≤ n := by
  induction n with
  | zero => simp [upto]; omega
  | succ n ih => simp [upto, ih]; omega
theorem upto_len (n : Nat) : (upto n).length = n := by
  induction n with
  | zero => rfl
  | succ n ih => simp [upto, ih]
theorem upto_nodup (n : Nat) : (upto n).Nodup := by
  induction n with
  | zero => simp [upto]
  | succ n ih =>
    simp only [upto, List.nodup_cons]
    refine ⟨fun h => ?_, ih⟩
    have := (mem_upto.1 h).2; omega
/-- The number that gives a product, up to a prime. -/
def mate (p a k : Int) : Int := ((upto (p - 1).toNat).find? (fun j => (k * j) % p == a % p)).getD 0
theorem emod_zero_iff {p a : Int} : a % p = 0 ↔ p ∣ a := ⟨Int.dvd_of_emod_eq_zero, Int.emod_eq_zero_of_dvd⟩
theorem sub_dvd {p a b : Int} : a % p = b % p ↔ p ∣ a - b := by
  rw [← emod_zero_iff]; exact Int.emod_eq_emod_iff_emod_sub_eq_zero ..
theorem cancel {p k a b : Int} (hp : PrimeL p) (hk : k % p ≠ 0) (h : (k * a) % p = (k * b) % p) : a % p = b % p := by
  rw [sub_dvd] at h ⊢
  rw [← Int.mul_sub] at h
  rcases prime_mul hp h with h | h
  · exact absurd (emod_zero_iff.2 h) hk
  · exact h
theorem range_eq {p a b : Int} (ha : 1 ≤ a) (ha' : a < p) (hb : 1 ≤ b) (hb' : b < p) (h : a % p = b % p) : a = b := by
  rwa [Int.emod_eq_of_lt (by omega) ha', Int.emod_eq_of_lt (by omega) hb'] at h
theorem mod_self_ne {p k : Int} (h1 : 1 ≤ k) (h2 : k < p) : k % p ≠ 0 := by
  rw [Int.emod_eq_of_lt (by omega) h2]; omega
theorem mate_spec {p a k : Int} (hp : PrimeL p) (ha : a % p ≠ 0) (h1 : 1 ≤ k) (h2 : k < p) : 1 ≤ mate p a k ∧ mate p a k < p ∧ (k * mate p a k) % p = a % p := by
  have hp2 := hp.1
  have hex : ∃ j, j ∈ upto (p - 1).toNat ∧ (k * j) % p = a % p := by
    obtain ⟨j, hj⟩ := inv_ex hp k.toNat k (by omega) h1 h2
    have e : (k * (j * a % p)) % p = a % p := by
      rw [Int.mul_emod, Int.emod_emod_of_dvd _ (Int.dvd_refl p), ← Int.mul_emod, ← Int.mul_assoc, Int.mul_emod, hj, Int.one_mul, Int.emod_emod_of_dvd _ (Int.dvd_refl p)]
    refine ⟨j * a % p, ?_, e⟩
    have h3 := Int.emod_nonneg (j * a) (show p ≠ 0 by omega)
    have h4 := Int.emod_lt_of_pos (j * a) (show 0 < p by omega)
    rw [mem_upto]
    refine ⟨?_, by omega⟩
    rcases Int.lt_or_le 0 (j * a % p) with h | h
    · omega
    · exfalso
      have h0 : j * a % p = 0 := by omega
      rw [h0] at e; simp at e; exact ha e.symm
  obtain ⟨j, hj, he⟩ := hex
  unfold mate
  cases hf : (upto (p - 1).toNat).find? (fun j => (k * j) % p == a % p) with
  | none =>
    have := List.find?_eq_none.1 hf j hj
    simp at this; exact absurd he this
  | some x =>
    have hm := mem_upto.1 (List.mem_of_find?_eq_some hf)
    have hx := List.find?_some hf
    simp only [Option.getD_some]
    refine ⟨hm.1, by omega, by simpa using hx⟩
theorem mate_mate {p a k : Int} (hp : PrimeL p) (ha : a % p ≠ 0) (h1 : 1 ≤ k) (h2 : k < p) : mate p a (mate p a k) = k := by
  obtain ⟨a1, a2, a3⟩ := mate_spec hp ha h1 h2
  obtain ⟨b1, b2, b3⟩ := mate_spec hp ha a1 a2
  refine range_eq b1 b2 h1 h2 (cancel hp (mod_self_ne a1 a2) ?_)
  rw [b3, Int.mul_comm, a3]
theorem sq_roots {p x k : Int} (hp : PrimeL p) (hx1 : 1 ≤ x) (hx2 : x < p) (h1 : 1 ≤ k) (h2 : k < p) (h : (k * k) % p = (x * x) % p) : k = x ∨ k = p - x := by
  rw [sub_dvd] at h
  have e : k * k - x * x = (k - x) * (k + x) := by grind
  rw [e] at h
  rcases prime_mul hp h with h | h
  · left; exact range_eq h1 h2 hx1 hx2 (sub_dvd.2 h)
  · right
    refine range_eq h1 h2 (by omega) (by omega) (sub_dvd.2 ?_)
    obtain ⟨c, hc⟩ := h
    exact ⟨c - 1, by rw [Int.mul_sub, ← hc]; omega⟩
theorem no_root {p a : Int} (hp : PrimeL p) (ha : a % p ≠ 0) (h : ∀ x : Int, 1 ≤ x → x < p → (x * x) % p ≠ a % p) : ∃ m, (p - 1).toNat = 2 * m ∧ prodL (upto (p - 1).toNat) % p = a ^ m % p := by
  have := pairing a p (mate p a) _ (upto (p - 1).toNat) (Nat.le_refl _) (upto_nodup _) (by
    intro k hk
    have hk := mem_upto.1 hk
    have h2 : k < p := by omega
    obtain ⟨a1, a2, a3⟩ := mate_spec hp ha hk.1 h2
    refine ⟨mem_upto.2 ⟨a1, by omega⟩, fun e => ?_, mate_mate hp ha hk.1 h2, a3⟩
    rw [e] at a3; exact h k hk.1 h2 a3)
  rw [upto_len] at this
  exact this
theorem with_root {p a x : Int} (hp : PrimeL p) (h3 : 3 ≤ p) (ho : p % 2 = 1) (ha : a % p ≠ 0) (h1 : 1 ≤ x) (h2 : x < p) (h : (x * x) % p = a % p) :
    ∃ m, (p - 1).toNat = 2 * (m + 1) ∧ prodL (upto (p - 1).toNat) % p = -(a ^ (m + 1)) % p := by
  have hN := upto_nodup (p - 1).toNat
  have hx : x ∈ upto (p - 1).toNat := mem_upto.2 ⟨h1, by omega⟩
  have hne : p - x ≠ x := by omega
  have hN1 := hN.erase x
  have hy : p - x ∈ (upto (p - 1).toNat).erase x := by
    rw [hN.mem_erase_iff]; exact ⟨hne, mem_upto.2 ⟨by omega, by omega⟩⟩
  have hmem : ∀ k, k ∈ ((upto (p - 1).toNat).erase x).erase (p - x) ↔ k ≠ p - x ∧ k ≠ x ∧ 1 ≤ k ∧ k < p := by
    intro k
    rw [hN1.mem_erase_iff, hN.mem_erase_iff, mem_upto]
    refine ⟨fun ⟨q1, q2, q3, q4⟩ => ⟨q1, q2, q3, by omega⟩, fun ⟨q1, q2, q3, q4⟩ => ⟨q1, q2, q3, by omega⟩⟩
  obtain ⟨m, m1, m2⟩ := pairing a p (mate p a) _ (((upto (p - 1).toNat).erase x).erase (p - x)) (Nat.le_refl _) (hN1.erase _) (by
    intro k hk
    obtain ⟨k1, k2, k3, k4⟩ := (hmem k).1 hk
    obtain ⟨a1, a2, a3⟩ := mate_spec hp ha k3 k4
    refine ⟨(hmem _).2 ⟨fun e => ?_, fun e => ?_, a1, a2⟩, fun e => ?_, mate_mate hp ha k3 k4, a3⟩
    · have hm := mate_mate hp ha k3 k4
      rw [e] at hm a3
      apply k2
      refine range_eq k3 k4 h1 h2 (cancel (k := p - x) hp (mod_self_ne (by omega) (by omega)) ?_)
      rw [Int.mul_comm, a3, ← h]
      exfalso
      -- k (p - x) = x x, so k = -x
      have h5 : (k * (p - x)) % p = (x * x) % p := by rw [a3, h]
      have h6 : ((p - x) * k) % p = ((p - x) * (p - x)) % p := by
        rw [Int.mul_comm, h5, sub_dvd]
        exact ⟨2 * x - p, by grind⟩
      exact k1 (range_eq k3 k4 (by omega) (by omega) (cancel hp (mod_self_ne (by omega) (by omega)) h6))
    · rw [e] at a3
      have h5 : (x * k) % p = (x * x) % p := by rw [Int.mul_comm, a3, h]
      exact k2 (range_eq k3 k4 h1 h2 (cancel hp (mod_self_ne h1 h2) h5))
    · rw [e] at a3
      rcases sq_roots hp h1 h2 k3 k4 (by rw [a3, h]) with h | h
      · exact k2 h
      · exact k1 h)
  have l1 := List.length_erase_of_mem hx
  have l2 := List.length_erase_of_mem hy
  rw [upto_len] at l1
  refine ⟨m, by omega, ?_⟩
  have p1 := prodL_perm (List.perm_cons_erase hx)
  have p2 := prodL_perm (List.perm_cons_erase hy)
  simp only [prodL] at p1 p2
  rw [p1, p2, ← Int.mul_assoc, Int.mul_emod, m2]
  have e : (x * (p - x)) % p = (-a) % p := by
    have : (x * (p - x)) % p = (-(x * x)) % p := by rw [sub_dvd]; exact ⟨x, by grind⟩
    rw [this]
    rw [sub_dvd] at h ⊢
    obtain ⟨c, hc⟩ := h
    exact ⟨-c, by rw [Int.mul_neg, ← hc]; omega⟩
  rw [e, ← Int.mul_emod, Int.pow_succ]
  congr 1
  grind
theorem neg_mod {p a b : Int} (h : a % p = b % p) : (-a) % p = (-b) % p := by
  rw [sub_dvd] at h ⊢
  obtain ⟨c, hc⟩ := h
  exact ⟨-c, by rw [Int.mul_neg, ← hc]; omega⟩
theorem wilson {p : Int} (hp : PrimeL p) (h3 : 3 ≤ p) (ho : p % 2 = 1) : prodL (upto (p - 1).toNat) % p = (-1) % p := by
  have h1 : (1 : Int) % p = 1 := Int.emod_eq_of_lt (by omega) (by omega)
  obtain ⟨m, _, h⟩ := with_root (a := 1) (x := 1) hp h3 ho (by omega) (by omega) (by omega) rfl
  rw [h, Int.one_pow]
/-- Euler's criterion. -/
theorem euler_yes {p a x : Int} (hp : PrimeL p) (h3 : 3 ≤ p) (ho : p % 2 = 1) (ha : a % p ≠ 0) (h1 : 1 ≤ x) (h2 : x < p) (h : (x * x) % p = a % p) : a ^ ((p - 1) / 2).toNat % p = 1 := by
  obtain ⟨m, m1, m2⟩ := with_root hp h3 ho ha h1 h2 h
  rw [wilson hp h3 ho] at m2
  have := neg_mod m2
  rw [Int.neg_neg, Int.neg_neg] at this
  rw [show ((p - 1) / 2).toNat = m + 1 by omega, ← this]
  exact Int.emod_eq_of_lt (by omega) (by omega)
theorem euler_no {p a : Int} (hp : PrimeL p) (h3 : 3 ≤ p) (ho : p % 2 = 1) (ha : a % p ≠ 0) (h : ∀ x : Int, 1 ≤ x → x < p → (x * x) % p ≠ a % p) : a ^ ((p - 1) / 2).toNat % p = p - 1 := by
  obtain ⟨m, m1, m2⟩ := no_root hp ha h
  rw [show ((p - 1) / 2).toNat = m by omega, ← m2, wilson hp h3 ho]
  have : (-1 : Int) % p = (p - 1) % p := by rw [sub_dvd]; exact ⟨-1, by omega⟩
  rw [this]; exact Int.emod_eq_of_lt (by omega) (by omega)
theorem prime_odd {p : Int} (hp : PrimeL p) (h3 : 3 ≤ p) : p % 2 = 1 := by
  rcases Int.emod_two_eq p with h | h
  · have := hp.2 2 (by omega) (Int.dvd_of_emod_eq_zero h); omega
  · exact h
def OddP (p : Int) : Prop := PrimeL p ∧ 3 ≤ p ∧ p ≤ 5000
def resS (p r : Int) : Nat → Int → Int
  | 0, _ => -1
  | d + 1, x => if x ≤ p.tdiv 2 then (if (x * x).tmod p = r then 1 else resS p r d (x + 1)) else -1
def powS (m : Int) : Nat → Int → Int → Int → Int
  | 0, _, _, acc => acc
  | d + 1, b, e, acc => if e > 0 then (if e.tmod 2 = 1 then powS m d ((b * b).tmod m) (e.tdiv 2) ((acc * b).tmod m) else powS m d ((b * b).tmod m) (e.tdiv 2) acc) else acc
def resR (p r : Int) : Int := if r = 0 then 0 else resS p r p.toNat 1
def powR (p r : Int) : Int := powS p 13 r ((p - 1).tdiv 2) (1 % p)
def resPR (p r : Int) : Int := if powR p r = p - 1 then -1 else powR p r
/-- The residue's sign. -/
def res (p u : Int) : Int := resR p (u % p)
theorem sq_nn (a : Int) : 0 ≤ a * a := by
  rcases Int.le_total 0 a with h | h
  · exact Int.mul_nonneg h h
  · have := Int.mul_nonneg (a := -a) (b := -a) (by omega) (by omega); rw [Int.neg_mul_neg] at this; exact this
theorem emod_pow (a p : Int) : ∀ k : Nat, (a % p) ^ k % p = a ^ k % p
  | 0 => by simp
  | k + 1 => by rw [Int.pow_succ, Int.pow_succ, Int.mul_emod, emod_pow a p k, Int.emod_emod_of_dvd _ (Int.dvd_refl p), ← Int.mul_emod]
theorem resS_cases {p r : Int} (hp : 3 ≤ p) : ∀ (d : Nat) (x : Int), 1 ≤ x → p / 2 < x + d →
    (resS p r d x = 1 ∧ ∃ y, x ≤ y ∧ y ≤ p / 2 ∧ (y * y) % p = r) ∨ (resS p r d x = -1 ∧ ∀ y, x ≤ y → y ≤ p / 2 → (y * y) % p ≠ r) := by
  have e2 : p.tdiv 2 = p / 2 := Int.tdiv_eq_ediv_of_nonneg (by omega)
  intro d
  induction d with
  | zero => intro x h1 h2; right; exact ⟨rfl, fun y h3 h4 => by omega⟩
  | succ d ih =>
    intro x h1 h2
    simp only [resS, e2]
    have em : (x * x).tmod p = (x * x) % p := Int.tmod_eq_emod_of_nonneg (sq_nn x)
    by_cases c : x ≤ p / 2
    · rw [if_pos c, em]
      by_cases c2 : (x * x) % p = r
      · rw [if_pos c2]; exact Or.inl ⟨rfl, x, Int.le_refl _, c, c2⟩
      · rw [if_neg c2]
        rcases ih (x + 1) (by omega) (by omega) with ⟨h, y, y1, y2, y3⟩ | ⟨h, hy⟩
        · exact Or.inl ⟨h, y, by omega, y2, y3⟩
        · refine Or.inr ⟨h, fun y h3 h4 => ?_⟩
          rcases Int.lt_or_eq_of_le h3 with h5 | h5
          · exact hy y (by omega) h4
          · subst h5; exact c2
    · rw [if_neg c]; exact Or.inr ⟨rfl, fun y h3 h4 => by omega⟩
theorem half_root {p y : Int} (h1 : 1 ≤ y) (h2 : y < p) : ∃ z, 1 ≤ z ∧ z ≤ p / 2 ∧ (z * z) % p = (y * y) % p := by
  by_cases c : y ≤ p / 2
  · exact ⟨y, h1, c, rfl⟩
  · refine ⟨p - y, by omega, by omega, ?_⟩
    rw [sub_dvd]; exact ⟨p - 2 * y, by grind⟩
theorem powS_eq {m : Int} (hm : 1 ≤ m) : ∀ (d : Nat) (b e acc : Int), 0 ≤ b → 0 ≤ e → e < 2 ^ d → 0 ≤ acc → acc < m → powS m d b e acc = (acc * b ^ e.toNat) % m := by
  intro d
  induction d with
  | zero =>
    intro b e acc hb h0 h1 h2 h3
    obtain rfl : e = 0 := by simp at h1; omega
    simp only [powS, Int.toNat_zero, Int.pow_zero, Int.mul_one]
    exact (Int.emod_eq_of_lt h2 h3).symm
  | succ d ih =>
    intro b e acc hb h0 h1 h2 h3
    simp only [powS]
    have ht : e.tdiv 2 = e / 2 := Int.tdiv_eq_ediv_of_nonneg h0
    have hm2 : e.tmod 2 = e % 2 := Int.tmod_eq_emod_of_nonneg h0
    have hbb : (b * b).tmod m = (b * b) % m := Int.tmod_eq_emod_of_nonneg (sq_nn b)
    have hab : (acc * b).tmod m = (acc * b) % m := Int.tmod_eq_emod_of_nonneg (Int.mul_nonneg h2 hb)
    have he2 : e / 2 < 2 ^ d := by rw [Int.pow_succ] at h1; omega
    have g1 := Int.emod_nonneg (b * b) (show m ≠ 0 by omega)
    have g2 := Int.emod_nonneg (acc * b) (show m ≠ 0 by omega)
    have g3 := Int.emod_lt_of_pos (acc * b) (show 0 < m by omega)
    have sq : ∀ (c : Int) (k : Nat), (c * ((b * b) % m) ^ k) % m = (c * (b ^ (2 * k))) % m := by
      intro c k
      have : (((b * b) % m) ^ k) % m = (b ^ (2 * k)) % m := by
        rw [Int.pow_mul, show b ^ 2 = b * b from by rw [Int.pow_succ, Int.pow_succ, Int.pow_zero, Int.one_mul]]
        exact emod_pow (b * b) m k
      rw [Int.mul_emod, this, ← Int.mul_emod]
    by_cases c : e > 0
    · rw [if_pos c, ht, hm2, hbb, hab]
      by_cases c2 : e % 2 = 1
      · rw [if_pos c2, ih _ _ _ g1 (by omega) he2 g2 g3, sq, Int.mul_emod, Int.emod_emod_of_dvd _ (Int.dvd_refl m), ← Int.mul_emod, Int.mul_assoc, show e.toNat = 2 * (e / 2).toNat + 1 by omega, Int.pow_succ, Int.mul_comm b]
      · rw [if_neg c2, ih _ _ _ g1 (by omega) he2 h2 h3, sq, show e.toNat = 2 * (e / 2).toNat by omega]
    · obtain rfl : e = 0 := by omega
      rw [if_neg c]
      simp only [Int.toNat_zero, Int.pow_zero, Int.mul_one]
      exact (Int.emod_eq_of_lt h2 h3).symm
theorem powR_eq {p r : Int} (h : OddP p) (hr : 0 ≤ r) : powR p r = r ^ ((p - 1) / 2).toNat % p := by
  obtain ⟨hp, h3, h5⟩ := h
  have e2 : (p - 1).tdiv 2 = (p - 1) / 2 := Int.tdiv_eq_ediv_of_nonneg (by omega)
  have h1 : (1 : Int) % p = 1 := Int.emod_eq_of_lt (by omega) (by omega)
  unfold powR
  rw [e2, h1, powS_eq (by omega) 13 r ((p - 1) / 2) 1 hr (by omega) (by omega) (by omega) (by omega), Int.one_mul]
/-- The three values of a residue's sign, and its power. -/
theorem res_cases {p u : Int} (h : OddP p) : (u % p = 0 ∧ res p u = 0 ∧ powR p (u % p) = 0) ∨ (u % p ≠ 0 ∧ res p u = 1 ∧ powR p (u % p) = 1) ∨ (u % p ≠ 0 ∧ res p u = -1 ∧ powR p (u % p) = p - 1) := by
  have hr0 := Int.emod_nonneg u (show p ≠ 0 by have := h.2.1; omega)
  have hrp := Int.emod_lt_of_pos u (show 0 < p by have := h.2.1; omega)
  rw [powR_eq h hr0]
  obtain ⟨hp, h3, h5⟩ := h
  have ho := prime_odd hp h3
  have hee : u % p % p = u % p := Int.emod_emod_of_dvd _ (Int.dvd_refl p)
  unfold res resR
  by_cases c : u % p = 0
  · left
    refine ⟨c, if_pos c, ?_⟩
    rw [c, Int.zero_pow (by omega)]; simp
  · right
    rw [if_neg c]
    rcases resS_cases (r := u % p) h3 p.toNat 1 (by omega) (by omega) with ⟨e, y, y1, y2, y3⟩ | ⟨e, hy⟩
    · left
      exact ⟨c, e, euler_yes hp h3 ho (by omega) y1 (by omega) (by omega)⟩
    · right
      refine ⟨c, e, euler_no hp h3 ho (by omega) ?_⟩
      intro x x1 x2 hx
      obtain ⟨z, z1, z2, z3⟩ := half_root x1 x2
      exact hy z z1 z2 (by omega)
theorem res_pow {p u : Int} (h : OddP p) : res p u = resPR p (u % p) := by
  have h3 := h.2.1
  unfold resPR
  rcases res_cases (u := u) h with ⟨_, e, f⟩ | ⟨_, e, f⟩ | ⟨_, e, f⟩ <;> rw [e, f]
  · rw [if_neg (by omega)]
  · rw [if_neg (by omega)]
  · rw [if_pos rfl]
theorem res_pm {p u : Int} (h : OddP p) (hu : u % p ≠ 0) : res p u = 1 ∨ res p u = -1 := by
  rcases res_cases (u := u) h with ⟨c, e, f⟩ | ⟨_, e, f⟩ | ⟨_, e, f⟩
  · exact absurd c hu
  · exact Or.inl e
  · exact Or.inr e
end Locg

namespace Locg
open Go.RowKit Go.Proofs.YtacfcoilmdhgnaaGreatDoorW.PrintWords Go.Proofs.YtacfcoilmdhgnaaGreatDoorW.PrintMore

/-- A place: 0, 2, or an odd prime up to 5000. -/
def Plc (p : Int) : Prop := p = 0 ∨ p = 2 ∨ OddP p
theorem prime2 : PrimeL 2 := ⟨by omega, fun r h hd => by have := Int.le_of_dvd (by omega) hd; omega⟩
theorem rest_eq (a : Int) {m : Int} (h : 0 < m) : Int.tmod (Int.tmod a m + m) m = a % m := by
  have h1 := Int.tmod_lt_of_pos a h
  have h2 : -m < Int.tmod a m := by
    rcases Int.le_total 0 a with c | c
    · have := Int.tmod_nonneg m c; omega
    · have e : a = -(-a) := by omega
      rw [e, Int.neg_tmod]; have := Int.tmod_lt_of_pos (-a) h; omega
  rw [Int.tmod_eq_emod_of_nonneg (by omega)]
  have e : a % m = (Int.tmod a m + m) % m := by
    have := Int.mul_tdiv_add_tmod a m
    rw [Int.add_emod_right]
    conv => lhs; rw [← this]
    rw [Int.mul_add_emod_self_left]
  exact e.symm
theorem tmod_ne {a p : Int} (h : a.tmod p ≠ 0) : a % p ≠ 0 := fun h' => h (Int.tmod_eq_zero_of_dvd (Int.dvd_of_emod_eq_zero h'))
def par (x : Int) : Nat := (x % 2).toNat
/-- The class of a number that is not 0, at a place. -/
def code (p n : Int) : Nat := if p = 0 then (if n < 0 then 1 else 0) else if p = 2 then 4 * par (val 2 n) + (unit 2 n % 8).toNat / 2 else 2 * par (val p n) + (if res p (unit p n) = 1 then 0 else 1)
def sqAt (n p : Int) : Bool := code p n == 0
def hf (e : Nat) : Int := if e % 2 = 0 then 1 else -1
def symC (p : Int) (c d : Nat) : Int :=
  if p = 0 then (if c = 1 ∧ d = 1 then -1 else 1)
  else if p = 2 then hf (c % 4 * (d % 4) + c / 4 * ((d % 4) * (d % 4 + 1) / 2) + d / 4 * ((c % 4) * (c % 4 + 1) / 2))
  else (if c / 2 = 1 ∧ d / 2 = 1 ∧ p % 4 = 3 then -1 else 1) * (if d / 2 = 1 then (if c % 2 = 0 then 1 else -1) else 1) * (if c / 2 = 1 then (if d % 2 = 0 then 1 else -1) else 1)
def sym (a b p : Int) : Int := symC p (code p a) (code p b)
theorem par_cases (x : Int) : (par x = 0 ∧ x % 2 = 0) ∨ (par x = 1 ∧ x % 2 = 1) := by unfold par; omega
theorem code_zero {n : Int} (hn : n ≠ 0) : sqAt n 0 = decide (n > 0) := by
  unfold sqAt code
  by_cases h : n < 0
  · simp [h]; omega
  · simp [h]; omega
theorem hf_pm (e : Nat) : hf e = 1 ∨ hf e = -1 := by unfold hf; split <;> simp
theorem symC_pm (p : Int) (c d : Nat) : symC p c d = 1 ∨ symC p c d = -1 := by
  unfold symC
  split
  · split <;> simp
  · split
    · exact hf_pm _
    · repeat' split
      all_goals simp
theorem sym_pm (a b p : Int) : sym a b p = 1 ∨ sym a b p = -1 := symC_pm _ _ _
theorem symC_comm {p : Int} {c d : Nat} : symC p c d = symC p d c := by
  unfold symC
  split
  · simp only [and_comm]
  · split
    · congr 1; rw [Nat.mul_comm (c % 4) (d % 4)]; omega
    · rw [Int.mul_right_comm]; congr 2
      simp only [← and_assoc, and_comm]
theorem sym_comm (a b p : Int) : sym a b p = sym b a p := symC_comm
/-- The class of 2: the unit is odd. -/
theorem unit2 {n : Int} (hn : n ≠ 0) (h : n.natAbs < 2 ^ 63) : unit 2 n % 8 = 1 ∨ unit 2 n % 8 = 3 ∨ unit 2 n % 8 = 5 ∨ unit 2 n % 8 = 7 := by
  have := tmod_ne (val_spec (p := 2) (by omega) hn h).2.1
  omega
theorem P7_bd {p : Int} (h : p = 2 ∨ OddP p) : 2 ≤ p := by
  rcases h with h | h
  · omega
  · have := h.2.1; omega
end Locg

namespace Locg
open Go.RowKit Go.Proofs.YtacfcoilmdhgnaaGreatDoorW.PrintWords Go.Proofs.YtacfcoilmdhgnaaGreatDoorW.PrintMore

def Sm (x : Int) : Prop := x ≠ 0 ∧ x.natAbs ≤ 30
def prodF : List Int → Int → Int
  | [], acc => acc
  | x :: xs, acc => prodF xs (acc * x)
def prod (xs : List Int) : Int := prodF xs 1
def lessF : List Int → Int → Int
  | [], acc => acc
  | x :: xs, acc => lessF xs (if x < 0 then acc + 1 else acc)
def less (xs : List Int) : Int := lessF xs 0
def inn (p x : Int) : List Int → Int → Int
  | [], acc => acc
  | y :: ys, acc => inn p x ys (acc * sym x y p)
def outr (p : Int) : List Int → List Int → Int → Int
  | _, [], acc => acc
  | pre, x :: xs, acc => outr p (pre ++ [x]) xs (inn p x pre acc)
def inv (xs : List Int) (p : Int) : Int := outr p [] xs 1
def van (xs : List Int) (p : Int) : Bool :=
  if p = 0 then decide (less xs > 0) && decide (less xs < (xs.length : Int))
  else if (xs.length : Int) = 2 then sqAt (-(prod xs)) p
  else if (xs.length : Int) = 3 then inv xs p == sym (-1) (-(prod xs)) p
  else if (xs.length : Int) = 4 then !(sqAt (prod xs) p) || (inv xs p == sym (-1) (-1) p)
  else false
def planes (xs : List Int) (p : Int) : Int :=
  if p = 0 then mn (less xs) ((xs.length : Int) - less xs)
  else if van xs p = true then (if (xs.length : Int) = 4 ∧ sqAt (prod xs) p = true then 2 else 1) else 0
def formOk (xs : List Int) : Bool := xs.all (fun x => decide (x ≠ 0) && decide (x.natAbs ≤ 30)) && (decide (1 ≤ xs.length) && decide (xs.length ≤ 4))
theorem formOk_iff {xs : List Int} : formOk xs = true ↔ (∀ x ∈ xs, Sm x) ∧ 1 ≤ xs.length ∧ xs.length ≤ 4 := by
  simp [formOk, Sm, and_assoc]
theorem pm_mul {a b : Int} (ha : a = 1 ∨ a = -1) (hb : b = 1 ∨ b = -1) : (a * b = 1 ∨ a * b = -1) ∧ wrap64 (a * b) = a * b := by
  rcases ha with rfl | rfl <;> rcases hb with rfl | rfl <;> decide +kernel
theorem inn_pm (p x : Int) : ∀ (ys : List Int) (acc : Int), (acc = 1 ∨ acc = -1) → inn p x ys acc = 1 ∨ inn p x ys acc = -1
  | [], acc, h => h
  | y :: ys, acc, h => inn_pm p x ys _ (pm_mul h (sym_pm x y p)).1
theorem prodF_bd : ∀ (xs : List Int) (acc : Int) (j : Nat), (∀ x ∈ xs, Sm x) → acc ≠ 0 → acc.natAbs ≤ 30 ^ j → prodF xs acc ≠ 0 ∧ (prodF xs acc).natAbs ≤ 30 ^ (j + xs.length)
  | [], acc, j, _, h0, h => ⟨h0, h⟩
  | x :: xs, acc, j, hx, h0, h => by
    have h1 := hx x (by simp)
    have h2 : (acc * x).natAbs ≤ 30 ^ (j + 1) := by rw [Int.natAbs_mul, Nat.pow_succ]; exact Nat.mul_le_mul h h1.2
    have := prodF_bd xs (acc * x) (j + 1) (fun y hy => hx y (by simp [hy])) (Int.mul_ne_zero h0 h1.1) h2
    simp only [prodF, List.length_cons]
    rw [show j + (xs.length + 1) = j + 1 + xs.length from by omega]
    exact this
theorem prod_bd4 {xs : List Int} (hx : ∀ x ∈ xs, Sm x) (hl : xs.length ≤ 5) : prod xs ≠ 0 ∧ (prod xs).natAbs ≤ 24300000 := by
  have := prodF_bd xs 1 0 hx (by omega) (by simp)
  have h2 : 30 ^ (0 + xs.length) ≤ 30 ^ 5 := Nat.pow_le_pow_right (by omega) (by omega)
  exact ⟨this.1, by unfold prod; omega⟩
end Locg

namespace Locg
open Go.RowKit Go.Proofs.YtacfcoilmdhgnaaGreatDoorW.PrintWords Go.Proofs.YtacfcoilmdhgnaaGreatDoorW.PrintMore

end Locg

namespace Locg
open Go.RowKit Go.Proofs.YtacfcoilmdhgnaaGreatDoorW.PrintWords Go.Proofs.YtacfcoilmdhgnaaGreatDoorW.PrintMore

end Locg

namespace Locg
open Go.RowKit Go.Proofs.YtacfcoilmdhgnaaGreatDoorW.PrintWords Go.Proofs.YtacfcoilmdhgnaaGreatDoorW.PrintMore

end Locg

namespace Locg
open Go.RowKit Go.Proofs.YtacfcoilmdhgnaaGreatDoorW.PrintWords Go.Proofs.YtacfcoilmdhgnaaGreatDoorW.PrintMore

end Locg

namespace Locg
open Go.RowKit Go.Proofs.YtacfcoilmdhgnaaGreatDoorW.PrintWords Go.Proofs.YtacfcoilmdhgnaaGreatDoorW.PrintMore

end Locg

namespace Locg
open Go.RowKit Go.Proofs.YtacfcoilmdhgnaaGreatDoorW.PrintWords Go.Proofs.YtacfcoilmdhgnaaGreatDoorW.PrintMore

def trial (n : Int) : Nat → Int → Bool
  | 0, _ => true
  | d + 1, x => if x * x ≤ n then (if n.tmod x = 0 then false else trial n d (x + 1)) else true
def placeOk (p : Int) : Bool := decide (p = 0) || (decide (p ≤ 5000) && (decide (p ≥ 2) && trial p 70 2))
theorem trial_iff {n : Int} (hn : 2 ≤ n) (hN : n ≤ 5000) : ∀ (d : Nat) (x : Int), 2 ≤ x → 72 ≤ x + d → (∀ r : Int, 2 ≤ r → r < x → ¬ r ∣ n) → (trial n d x = true ↔ ∀ r : Int, 2 ≤ r → r * r ≤ n → ¬ r ∣ n) := by
  intro d
  induction d with
  | zero =>
    intro x h1 h2 hr
    simp only [trial, true_iff]
    intro r r1 r2
    refine hr r r1 ?_
    exact lt_of_sq (by omega) (by have := sq_le (show (0 : Int) ≤ 72 by omega) (show 72 ≤ x by omega); omega)
  | succ d ih =>
    intro x h1 h2 hr
    simp only [trial]
    by_cases c : x * x ≤ n
    · rw [if_pos c]
      by_cases c2 : n.tmod x = 0
      · rw [if_pos c2]
        simp only [Bool.false_eq_true, false_iff]
        intro h; exact h x h1 c (Int.dvd_of_tmod_eq_zero c2)
      · rw [if_neg c2]
        refine ih (x + 1) (by omega) (by omega) (fun r r1 r2 hd => ?_)
        rcases Int.lt_or_eq_of_le (show r ≤ x by omega) with h4 | h4
        · exact hr r r1 h4 hd
        · subst h4; exact c2 (Int.tmod_eq_zero_of_dvd hd)
    · rw [if_neg c]
      simp only [true_iff]
      intro r r1 r2
      refine hr r r1 (lt_of_sq (by omega) (by omega))
theorem prime_iff {n : Int} (hn : 2 ≤ n) : PrimeL n ↔ ∀ r : Int, 2 ≤ r → r * r ≤ n → ¬ r ∣ n := by
  constructor
  · intro h r r1 r2 hd
    have := h.2 r r1 hd
    subst this
    have := Int.mul_le_mul_of_nonneg_right r1 (show 0 ≤ r by omega)
    omega
  · intro h
    refine ⟨hn, fun r r1 hd => ?_⟩
    obtain ⟨s, hs⟩ := hd
    have hs0 : 0 < s := by
      rcases Int.lt_or_le 0 s with h | h
      · exact h
      · have := Int.mul_nonneg (show 0 ≤ r by omega) (show 0 ≤ -s by omega); rw [Int.mul_neg] at this; omega
    rcases Int.lt_or_le 1 s with h1 | h1
    · exfalso
      rcases Int.le_total r s with h2 | h2
      · have := Int.mul_le_mul_of_nonneg_left h2 (show 0 ≤ r by omega)
        exact h r r1 (by omega) ⟨s, hs⟩
      · have := Int.mul_le_mul_of_nonneg_right h2 (show 0 ≤ s by omega)
        exact h s (by omega) (by omega) ⟨r, by rw [Int.mul_comm]; exact hs⟩
    · have : s = 1 := by omega
      subst this; omega
theorem placeOk_iff {p : Int} : placeOk p = true ↔ Plc p := by
  unfold placeOk Plc OddP
  by_cases c : p = 0
  · simp [c]
  · by_cases c5 : p ≤ 5000
    · by_cases c2 : p ≥ 2
      · rw [decide_eq_false c, decide_eq_true c5, decide_eq_true c2, Bool.false_or, Bool.true_and, Bool.true_and, trial_iff c2 c5 70 2 (by omega) (by omega) (fun r r1 r2 => by omega), ← prime_iff c2]
        constructor
        · intro h
          rcases Int.lt_or_eq_of_le c2 with h2 | h2
          · exact Or.inr (Or.inr ⟨h, by omega, c5⟩)
          · exact Or.inr (Or.inl h2.symm)
        · rintro (h | h | h)
          · exact absurd h c
          · subst h; exact prime2
          · exact h.1
      · rw [decide_eq_false c, decide_eq_false c2]
        simp only [Bool.false_and, Bool.and_false, Bool.or_false, Bool.false_eq_true, false_iff]
        rintro (h | h | h) <;> omega
    · rw [decide_eq_false c, decide_eq_false c5]
      simp only [Bool.false_and, Bool.or_false, Bool.false_eq_true, false_iff]
      rintro (h | h | h) <;> omega

end Locg

namespace Locg
open Go.RowKit Go.Proofs.YtacfcoilmdhgnaaGreatDoorW.PrintWords Go.Proofs.YtacfcoilmdhgnaaGreatDoorW.PrintMore

def TT : List Int := [1, 2, 3, 5, 6, 7, 10, 12, 15, 4, 21, 30, 8, -1, -2, -3, -5, -6, -7, -10, -12, -15, -4, -21, -30, -8]
theorem TT_sm {x : Int} (h : x ∈ TT) : Sm x := by
  have : ∀ x ∈ TT, x ≠ 0 ∧ x.natAbs ≤ 30 := by decide +kernel
  exact this x h
theorem pl_prime : ∀ (d : Nat) (n p : Int), 2 ≤ p → 0 < n → n.natAbs < 2 ^ 63 → (∀ r : Int, 2 ≤ r → r < p → ¬ r ∣ n) → ∀ q ∈ pl d n p, q ∣ n ∧ PrimeL q := by
  intro d
  induction d with
  | zero => intro n p _ _ _ _ q hq; simp [pl] at hq
  | succ d ih =>
    intro n p hp hn hN hr q hq
    simp only [pl] at hq
    by_cases c : p * p ≤ n
    · rw [if_pos c] at hq
      by_cases c2 : n.tmod p = 0
      · rw [if_pos c2] at hq
        have hpn : p ∣ n := Int.dvd_of_tmod_eq_zero c2
        rcases List.mem_cons.1 hq with h | h
        · subst h
          refine ⟨hpn, hp, fun r h2 hd => ?_⟩
          have hle := Int.le_of_dvd (by omega) hd
          rcases Int.lt_or_eq_of_le hle with h | h
          · exact absurd (Int.dvd_trans hd hpn) (hr r h2 h)
          · exact h
        · have hv := val_spec hp (show n ≠ 0 by omega) hN
          have hud : unit p n ∣ n := ⟨p ^ (val p n).toNat, by rw [Int.mul_comm]; exact hv.1⟩
          have := ih (unit p n) (p + 1) (by omega) (hv.2.2.2.2.2.2 hn) (by omega) (fun r h2 h3 hd => by
            rcases Int.lt_or_eq_of_le (show r ≤ p by omega) with h4 | h4
            · exact hr r h2 h4 (Int.dvd_trans hd hud)
            · subst h4; exact hv.2.1 (Int.tmod_eq_zero_of_dvd hd)) q h
          exact ⟨Int.dvd_trans this.1 hud, this.2⟩
      · rw [if_neg c2] at hq
        exact ih n (p + 1) (by omega) hn hN (fun r h2 h3 hd => by
            rcases Int.lt_or_eq_of_le (show r ≤ p by omega) with h4 | h4
            · exact hr r h2 h4 hd
            · subst h4; exact c2 (Int.tmod_eq_zero_of_dvd hd)) q hq
    · rw [if_neg c] at hq
      by_cases c2 : n > 1
      · rw [if_pos c2] at hq
        have h := List.mem_singleton.1 hq
        subst h
        refine ⟨Int.dvd_refl _, by omega, fun r h2 hd => ?_⟩
        have hle := Int.le_of_dvd hn hd
        have hrp : p ≤ r := by
          rcases Int.lt_or_le r p with h | h
          · exact absurd hd (hr r h2 h)
          · exact h
        obtain ⟨s, hs⟩ := hd
        have hs1 : 1 ≤ s := by
          rcases Int.lt_or_le 0 s with h | h
          · omega
          · have := Int.mul_nonneg (show 0 ≤ r by omega) (show 0 ≤ -s by omega); rw [Int.mul_neg] at this; omega
        rcases Int.lt_or_eq_of_le hs1 with h | h
        · have hsp : p ≤ s := by
            rcases Int.lt_or_le s p with h3 | h3
            · exact absurd ⟨r, by rw [Int.mul_comm]; exact hs⟩ (hr s (by omega) h3)
            · exact h3
          have := Int.mul_le_mul hrp hsp (by omega) (by omega)
          omega
        · subst h; omega
      · rw [if_neg c2] at hq; simp at hq
theorem prime_pow {q p : Int} (hq : PrimeL q) : ∀ k : Nat, q ∣ p ^ k → q ∣ p
  | 0, h => by
    rw [Int.pow_zero] at h
    have := Int.le_of_dvd (by omega) h; have := hq.1; omega
  | k + 1, h => by
    rw [Int.pow_succ] at h
    rcases prime_mul hq h with h | h
    · exact prime_pow hq k h
    · exact h
theorem least_prime {n p : Int} (hp : 2 ≤ p) (hr : ∀ r : Int, 2 ≤ r → r < p → ¬ r ∣ n) (hpn : p ∣ n) : PrimeL p := by
  refine ⟨hp, fun r h2 hd => ?_⟩
  have hle := Int.le_of_dvd (by omega) hd
  rcases Int.lt_or_eq_of_le hle with h | h
  · exact absurd (Int.dvd_trans hd hpn) (hr r h2 h)
  · exact h
theorem no_small {n p : Int} (hn : 1 < n) (hp : 2 ≤ p) (hpp : ¬ p * p ≤ n) (hr : ∀ r : Int, 2 ≤ r → r < p → ¬ r ∣ n) : PrimeL n := by
  rw [prime_iff (by omega)]
  intro r r1 r2
  exact hr r r1 (lt_of_sq (by omega) (by omega))
theorem pl_all : ∀ (d : Nat) (n p : Int), 2 ≤ p → 0 < n → n.natAbs < 2 ^ 63 → n + 2 - p ≤ d → 1 ≤ d → (∀ r : Int, 2 ≤ r → r < p → ¬ r ∣ n) →
    (∀ q, PrimeL q → q ∣ n → q ∈ pl d n p) ∧ (pl d n p).Pairwise (· < ·) ∧ ∀ q ∈ pl d n p, p ≤ q := by
  intro d
  induction d with
  | zero => intro n p _ _ _ _ h1; omega
  | succ d ih =>
    intro n p hp hn hN hd h1 hr
    simp only [pl]
    by_cases c : p * p ≤ n
    · have hpn : 2 * p ≤ n := by have := Int.mul_le_mul_of_nonneg_right hp (show 0 ≤ p by omega); omega
      rw [if_pos c]
      by_cases c2 : n.tmod p = 0
      · have hpd := Int.dvd_of_tmod_eq_zero c2
        have hpP := least_prime hp hr hpd
        obtain ⟨v1, v2, v3, v4, v5, v6, v7⟩ := val_spec hp (show n ≠ 0 by omega) hN
        have hud : unit p n ∣ n := ⟨p ^ (val p n).toNat, by rw [Int.mul_comm]; exact v1⟩
        have hr2 : ∀ r : Int, 2 ≤ r → r < p + 1 → ¬ r ∣ unit p n := by
          intro r h2 h3 hd
          rcases Int.lt_or_eq_of_le (show r ≤ p by omega) with h4 | h4
          · exact hr r h2 h4 (Int.dvd_trans hd hud)
          · subst h4; exact v2 (Int.tmod_eq_zero_of_dvd hd)
        obtain ⟨i1, i2, i3⟩ := ih (unit p n) (p + 1) (by omega) (v7 hn) (by omega) (by omega) (by omega) hr2
        rw [if_pos c2]
        refine ⟨fun q hq hqd => ?_, ?_, ?_⟩
        · rw [v1] at hqd
          rcases prime_mul hq hqd with h | h
          · have := hpP.2 q hq.1 (prime_pow hq _ h)
            rw [this]; exact List.mem_cons_self
          · exact List.mem_cons_of_mem _ (i1 q hq h)
        · rw [List.pairwise_cons]
          exact ⟨fun q hq => by have := i3 q hq; omega, i2⟩
        · intro q hq
          rcases List.mem_cons.1 hq with h | h
          · omega
          · have := i3 q h; omega
      · rw [if_neg c2]
        obtain ⟨i1, i2, i3⟩ := ih n (p + 1) (by omega) hn hN (by omega) (by omega) (fun r h2 h3 he => by
          rcases Int.lt_or_eq_of_le (show r ≤ p by omega) with h4 | h4
          · exact hr r h2 h4 he
          · exact c2 (Int.tmod_eq_zero_of_dvd (h4 ▸ he)))
        exact ⟨i1, i2, fun q hq => by have := i3 q hq; omega⟩
    · rw [if_neg c]
      by_cases c2 : n > 1
      · rw [if_pos c2]
        have hnP := no_small c2 hp c hr
        refine ⟨fun q hq hqd => ?_, by simp, ?_⟩
        · rw [hnP.2 q hq.1 hqd]; simp
        · intro q hq
          obtain rfl := List.mem_singleton.1 hq
          rcases Int.lt_or_le q p with h | h
          · exact absurd (Int.dvd_refl q) (hr q (by omega) h)
          · exact h
      · rw [if_neg c2]
        refine ⟨fun q hq hqd => ?_, by simp, by simp⟩
        have := Int.le_of_dvd hn hqd; have := hq.1; omega
theorem absI_dvd {q n : Int} : q ∣ absI n ↔ q ∣ n := by unfold absI; exact Int.dvd_natAbs
theorem primes_iff {n q : Int} (hn : n ≠ 0) (h : n.natAbs < 2 ^ 63) : q ∈ primes n ↔ PrimeL q ∧ q ∣ n := by
  have ha : 0 < absI n ∧ (absI n).natAbs < 2 ^ 63 ∧ absI n + 2 - 2 ≤ ((n.natAbs + 2 : Nat) : Int) := by unfold absI; omega
  constructor
  · intro hq
    have := pl_prime (n.natAbs + 2) (absI n) 2 (by omega) ha.1 ha.2.1 (fun r h2 h3 => by omega) q hq
    exact ⟨this.2, absI_dvd.1 this.1⟩
  · rintro ⟨h1, h2⟩
    exact (pl_all (n.natAbs + 2) (absI n) 2 (by omega) ha.1 ha.2.1 ha.2.2 (by omega) (fun r h2 h3 => by omega)).1 q h1 (absI_dvd.2 h2)
theorem primes_sorted {n : Int} (hn : n ≠ 0) (h : n.natAbs < 2 ^ 63) : (primes n).Pairwise (· < ·) := by
  have ha : 0 < absI n ∧ (absI n).natAbs < 2 ^ 63 ∧ absI n + 2 - 2 ≤ ((n.natAbs + 2 : Nat) : Int) := by unfold absI; omega
  exact (pl_all (n.natAbs + 2) (absI n) 2 (by omega) ha.1 ha.2.1 ha.2.2 (by omega) (fun r h2 h3 => by omega)).2.1
/-- Two ascending lists with the same numbers are one. -/
theorem sorted_ext : ∀ {a b : List Int}, a.Pairwise (· < ·) → b.Pairwise (· < ·) → (∀ x, x ∈ a ↔ x ∈ b) → a = b
  | [], [], _, _, _ => rfl
  | [], y :: b, _, _, h => by have := (h y).2 (by simp); simp at this
  | x :: a, [], _, _, h => by have := (h x).1 (by simp); simp at this
  | x :: a, y :: b, ha, hb, h => by
    rw [List.pairwise_cons] at ha hb
    have hxy : x = y := by
      have h1 := (h x).1 (by simp)
      have h2 := (h y).2 (by simp)
      rcases List.mem_cons.1 h1 with e | e
      · exact e
      · rcases List.mem_cons.1 h2 with e2 | e2
        · exact e2.symm
        · have := hb.1 x e; have := ha.1 y e2; omega
    subst hxy
    rw [sorted_ext ha.2 hb.2 (fun z => ?_)]
    constructor
    · intro hz
      rcases List.mem_cons.1 ((h z).1 (List.mem_cons_of_mem _ hz)) with e | e
      · have := ha.1 z hz; omega
      · exact e
    · intro hz
      rcases List.mem_cons.1 ((h z).2 (List.mem_cons_of_mem _ hz)) with e | e
      · have := hb.1 z hz; omega
      · exact e
def PP : List Int := [0, 2, 3, 5, 7, 11, 13, 17, 19, 23, 29]
def plOf (xs : List Int) (p : Int) : Bool := p == 0 || (p == 2 || xs.any (fun x => x % p == 0))
/-- The places of a list of small numbers. -/
def plc (xs : List Int) : List Int := PP.filter (plOf xs)
theorem PP_sorted : PP.Pairwise (· < ·) := by unfold PP; decide
theorem PP_plc {p : Int} (h : p ∈ PP) : Plc p := by
  have : ∀ p ∈ PP, placeOk p = true := by decide +kernel
  exact placeOk_iff.1 (this p h)
theorem PP_prime {p : Int} (h : PrimeL p) (h30 : p ≤ 30) : p ∈ PP := by
  have t : ∀ p ∈ List.range 31, 2 ≤ p → placeOk (p : Int) = true → (p : Int) ∈ PP := by decide +kernel
  have h2 := h.1
  have hp : Plc p := by
    rcases Int.lt_or_eq_of_le h2 with h3 | h3
    · exact Or.inr (Or.inr ⟨h, by omega, by omega⟩)
    · exact Or.inr (Or.inl h3.symm)
  have := t p.toNat (by rw [List.mem_range]; omega) (by omega) (by rw [Int.toNat_of_nonneg (by omega)]; exact placeOk_iff.2 hp)
  rwa [Int.toNat_of_nonneg (by omega)] at this
theorem plc_mem {xs : List Int} {p : Int} : p ∈ plc xs ↔ p ∈ PP ∧ (p = 0 ∨ p = 2 ∨ ∃ x ∈ xs, p ∣ x) := by
  unfold plc plOf
  rw [List.mem_filter]
  simp only [Bool.or_eq_true, beq_iff_eq, List.any_eq_true]
  simp only [Int.dvd_iff_emod_eq_zero]
theorem plc_sorted (xs : List Int) : (plc xs).Pairwise (· < ·) := PP_sorted.filter _
theorem prime_sm {q x : Int} (hq : PrimeL q) (hx : Sm x) (h : q ∣ x) : q ∈ PP ∧ 2 ≤ q := by
  have : q.natAbs ≤ x.natAbs := Nat.le_of_dvd (by have := hx.1; omega) (Int.natAbs_dvd_natAbs.2 h)
  have := hx.2; have := hq.1
  exact ⟨PP_prime hq (by omega), hq.1⟩
theorem prodF_dvd {q : Int} (hq : PrimeL q) : ∀ (xs : List Int) (acc : Int), q ∣ prodF xs acc ↔ q ∣ acc ∨ ∃ x ∈ xs, q ∣ x
  | [], acc => by simp [prodF]
  | x :: xs, acc => by
    simp only [prodF, prodF_dvd hq xs (acc * x), List.mem_cons, exists_eq_or_imp]
    constructor
    · rintro (h | h)
      · rcases prime_mul hq h with h | h
        · exact Or.inl h
        · exact Or.inr (Or.inl h)
      · exact Or.inr (Or.inr h)
    · rintro (h | h | h)
      · exact Or.inl (Int.dvd_trans h (Int.dvd_mul_right _ _))
      · exact Or.inl (Int.dvd_trans h (Int.dvd_mul_left _ _))
      · exact Or.inr h
theorem prod_dvd {q : Int} (hq : PrimeL q) (xs : List Int) : q ∣ prod xs ↔ ∃ x ∈ xs, q ∣ x := by
  unfold prod
  rw [prodF_dvd hq]
  constructor
  · rintro (h | h)
    · have := Int.le_of_dvd (by omega) h; have := hq.1; omega
    · exact h
  · exact Or.inr
/-- The reference's places: of a product. -/
def placesL (n : Int) : List Int := [0, 2] ++ (primes n).filter (fun x => decide (x > 2))
theorem placesL_plc {xs : List Int} {n : Int} (hx : ∀ x ∈ xs, Sm x) (hn : n ≠ 0) (h : n.natAbs < 2 ^ 63) (hd : ∀ q, PrimeL q → (q ∣ n ↔ ∃ x ∈ xs, q ∣ x)) : placesL n = plc xs := by
  refine sorted_ext ?_ (plc_sorted xs) (fun q => ?_)
  · unfold placesL
    rw [List.cons_append, List.cons_append, List.nil_append, List.pairwise_cons, List.pairwise_cons]
    have hs := (primes_sorted hn h).filter (fun x : Int => decide (x > 2))
    have hg : ∀ y ∈ (primes n).filter (fun x : Int => decide (x > 2)), 2 < y := fun y hy => by simpa using (List.mem_filter.1 hy).2
    refine ⟨fun y hy => ?_, hg, hs⟩
    rcases List.mem_cons.1 hy with e | e
    · omega
    · have := hg y e; omega
  · rw [plc_mem]
    unfold placesL
    rw [List.mem_append, List.mem_filter, primes_iff hn h]
    simp only [List.mem_cons, List.not_mem_nil, or_false, decide_eq_true_eq]
    constructor
    · rintro ((e | e) | ⟨⟨h1, h2⟩, h3⟩)
      · exact ⟨by rw [e]; decide, Or.inl e⟩
      · exact ⟨by rw [e]; decide, Or.inr (Or.inl e)⟩
      · obtain ⟨x, hm, hd2⟩ := (hd q h1).1 h2
        exact ⟨(prime_sm h1 (hx x hm) hd2).1, Or.inr (Or.inr ⟨x, hm, hd2⟩)⟩
    · rintro ⟨h1, e | e | ⟨x, hm, hd2⟩⟩
      · exact Or.inl (Or.inl e)
      · exact Or.inl (Or.inr e)
      · have hp := PP_plc h1
        rcases hp with e | e | e
        · exact Or.inl (Or.inl e)
        · exact Or.inl (Or.inr e)
        · exact Or.inr ⟨⟨e.1, (hd q e.1).2 ⟨x, hm, hd2⟩⟩, by have := e.2.1; omega⟩
theorem places_prod {xs : List Int} (hx : ∀ x ∈ xs, Sm x) (hl : xs.length ≤ 5) : placesL (prod xs) = plc xs := by
  have hb := prod_bd4 hx hl
  exact placesL_plc hx hb.1 (by omega) (fun q hq => prod_dvd hq xs)
end Locg

namespace Locg
open Go.RowKit Go.Proofs.YtacfcoilmdhgnaaGreatDoorW.PrintWords Go.Proofs.YtacfcoilmdhgnaaGreatDoorW.PrintMore

end Locg

namespace Locg
open Go.RowKit Go.Proofs.YtacfcoilmdhgnaaGreatDoorW.PrintWords Go.Proofs.YtacfcoilmdhgnaaGreatDoorW.PrintMore

def bad (xs : List Int) : List Int := (plc xs).filter (fun p => !van xs p)
end Locg
