/- The plain texts of this claim, one behind the other. -/
import Derived.Test.YtihadpckmcebgaaTWMore
set_option linter.unusedVariables false
set_option linter.unusedSimpArgs false
namespace Locg
open Go.RowKit Go.Proofs.YtihadpckmcebgaaW.PrintWords

theorem w64 {x : Int} (h : -9223372036854775808 ≤ x) (h' : x ≤ 9223372036854775807) : wrap64 x = x := by unfold wrap64; omega
theorem w64' {x : Int} (h : 0 ≤ x) (h' : x ≤ 9223372036854775807) : wrap64 x = x := w64 (by omega) h'

theorem sq_le {a b : Int} (h0 : 0 ≤ a) (h : a ≤ b) : a * a ≤ b * b := Int.mul_le_mul h h h0 (by omega)
theorem sq_lt {a b : Int} (h0 : 0 ≤ a) (h : a < b) : a * a < b * b := by
  have h1 : a * a ≤ a * b := Int.mul_le_mul_of_nonneg_left (by omega) h0
  have h2 : a * b < b * b := Int.mul_lt_mul_of_pos_right h (by omega)
  omega
theorem lt_of_sq {a b : Int} (h0 : 0 ≤ b) (h : a * a < b * b) : a < b := by
  rcases Int.lt_or_le a b with h1 | h1
  · exact h1
  · have := sq_le h0 h1; omega
theorem le_of_sq {a b : Int} (h0 : 0 ≤ b) (h : a * a ≤ b * b) : a ≤ b := by
  rcases Int.lt_or_le b a with h1 | h1
  · have := sq_lt h0 h1; omega
  · exact h1
theorem sq_nonneg (a : Int) : 0 ≤ a * a := by
  rcases Int.le_total 0 a with h | h
  · exact Int.mul_nonneg h h
  · have := Int.mul_nonneg (a := -a) (b := -a) (by omega) (by omega); rw [Int.neg_mul_neg] at this; exact this
theorem mul_le2 {a b A B : Int} (ha : 0 ≤ a) (hA : a ≤ A) (hb : 0 ≤ b) (hB : b ≤ B) : a * b ≤ A * B := Int.mul_le_mul hA hB hb (by omega)

/-- The greatest number whose square is at most n. -/
def isqrt : Nat → Nat
  | 0 => 0
  | n + 1 => if (isqrt n + 1) * (isqrt n + 1) ≤ n + 1 then isqrt n + 1 else isqrt n
/-- The greatest number whose square is at most n, of an integer. -/
def isq (n : Int) : Int := (isqrt n.toNat : Nat)
theorem tdiv2 {n : Int} (h : 0 ≤ n) : Int.tdiv n 2 = n / 2 := Int.tdiv_eq_ediv_of_nonneg h
theorem wmul {a b : Int} (ha : 0 ≤ a) (hA : a ≤ 1048577) (hb : 0 ≤ b) (hB : b ≤ 1048577) : wrap64 (a * b) = a * b :=
  w64' (Int.mul_nonneg ha hb) (by have := mul_le2 ha hA hb hB; omega)

/-- What one x gives to the ways of two squares. -/
def wayW (n x : Int) : Int := if isq (n - x * x) * isq (n - x * x) = n - x * x then (if x > 0 then (if isq (n - x * x) > 0 then 4 else 2) else (if isq (n - x * x) > 0 then 2 else 1)) else 0
def r2from (n : Int) : Nat → Int → Int
  | 0, _ => 0
  | d + 1, x => wayW n x + r2from n d (x + 1)
def r2 (n : Int) : Int := r2from n (isq n + 1).toNat 0
/-- Ways of four squares, as sums over two and two. -/
def conv (n : Int) : Nat → Int → Int
  | 0, _ => 0
  | d + 1, k => r2 k * r2 (n - k) + conv n d (k + 1)
theorem rd_drop {xs : List Int} {j : Nat} (h : j < xs.length) : xs.drop j = rd xs (j : Int) :: xs.drop (j + 1) := by
  rw [List.drop_eq_getElem_cons h]
  simp [rd, List.getElem?_eq_getElem h]
theorem rd_mem {xs : List Int} {j : Nat} (h : j < xs.length) : rd xs (j : Int) ∈ xs := by
  simp [rd, List.getElem?_eq_getElem h]

end Locg

namespace Locg
open Go.RowKit Go.Proofs.YtihadpckmcebgaaW.PrintWords Go.Proofs.YtihadpckmcebgaaW.PrintMore

/-- How often p divides n, and what is left; d: how often at most. -/
def spl (p : Int) : Nat → Int → Int × Int
  | 0, n => (0, n)
  | d + 1, n => if n.tmod p = 0 then ((spl p d (n.tdiv p)).1 + 1, (spl p d (n.tdiv p)).2) else (0, n)
def val (p n : Int) : Int := (spl p 64 n).1
def unit (p n : Int) : Int := (spl p 64 n).2

theorem tdiv_abs {n p : Int} (hp : 2 ≤ p) (hn : n ≠ 0) (h : n.tmod p = 0) : n.tdiv p ≠ 0 ∧ n = p * n.tdiv p ∧ 2 * (n.tdiv p).natAbs ≤ n.natAbs ∧ (0 < n → 0 < n.tdiv p) ∧ (n < 0 → n.tdiv p < 0) := by
  have e : n = p * n.tdiv p := by have := Int.mul_tdiv_add_tmod n p; omega
  generalize n.tdiv p = m at e
  have hm : m ≠ 0 := by intro h0; subst h0; simp at e; exact hn e
  have hk : n.natAbs = p.natAbs * m.natAbs := by rw [e, Int.natAbs_mul]
  have h2 : 2 * m.natAbs ≤ p.natAbs * m.natAbs := Nat.mul_le_mul_right _ (by omega)
  refine ⟨hm, e, by omega, fun h0 => ?_, fun h0 => ?_⟩
  · rcases Int.lt_or_le 0 m with h1 | h1
    · exact h1
    · have := Int.mul_nonneg (a := p) (b := -m) (by omega) (by omega); rw [Int.mul_neg] at this; omega
  · rcases Int.lt_or_le m 0 with h1 | h1
    · exact h1
    · have := Int.mul_nonneg (a := p) (b := m) (by omega) h1; omega

theorem spl_spec {p : Int} (hp : 2 ≤ p) : ∀ (d : Nat) (n : Int), n ≠ 0 → n.natAbs < 2 ^ d →
    n = p ^ (spl p d n).1.toNat * (spl p d n).2 ∧ (spl p d n).2.tmod p ≠ 0 ∧ 0 ≤ (spl p d n).1 ∧ (spl p d n).1 < d ∧ (spl p d n).2 ≠ 0 ∧ (spl p d n).2.natAbs ≤ n.natAbs ∧ (0 < n → 0 < (spl p d n).2) := by
  intro d
  induction d with
  | zero => intro n hn h; simp at h; omega
  | succ d ih =>
    intro n hn h
    by_cases c : n.tmod p = 0
    · obtain ⟨h0, h1, h2, h3, _⟩ := tdiv_abs hp hn c
      obtain ⟨g1, g2, g3, g4, g5, g6, g7⟩ := ih (n.tdiv p) h0 (by rw [Nat.pow_succ] at h; omega)
      simp only [spl, if_pos c]
      refine ⟨?_, g2, by omega, by omega, g5, by omega, fun h => g7 (h3 h)⟩
      rw [show ((spl p d (n.tdiv p)).1 + 1).toNat = (spl p d (n.tdiv p)).1.toNat + 1 from by omega, Int.pow_succ, Int.mul_comm (p ^ _) p, Int.mul_assoc, ← g1]
      exact h1
    · simp only [spl, if_neg c]
      refine ⟨by simp, c, by omega, by omega, hn, by omega, fun h => h⟩
/-- More rounds tell the same. -/
theorem spl_more {p : Int} (hp : 2 ≤ p) : ∀ (d : Nat) (n : Int), n ≠ 0 → n.natAbs < 2 ^ d → spl p (d + 1) n = spl p d n := by
  intro d
  induction d with
  | zero => intro n hn h; simp at h; omega
  | succ d ih =>
    intro n hn h
    by_cases c : n.tmod p = 0
    · obtain ⟨h0, h1, h2, h3, _⟩ := tdiv_abs hp hn c
      have := ih (n.tdiv p) h0 (by rw [Nat.pow_succ] at h; omega)
      simp only [spl, if_pos c] at this ⊢
      rw [this]
    · simp only [spl, if_neg c]
theorem spl_dvd {p n : Int} (d : Nat) (c : n.tmod p = 0) : spl p (d + 1) n = ((spl p d (n.tdiv p)).1 + 1, (spl p d (n.tdiv p)).2) := by simp only [spl, if_pos c]
theorem spl_not {p n : Int} (d : Nat) (c : n.tmod p ≠ 0) : spl p (d + 1) n = (0, n) := by simp only [spl, if_neg c]
theorem val_of_dvd {p n : Int} (hp : 2 ≤ p) (hn : n ≠ 0) (h : n.natAbs < 2 ^ 63) (c : n.tmod p = 0) : val p n = val p (n.tdiv p) + 1 ∧ unit p n = unit p (n.tdiv p) := by
  obtain ⟨h0, h1, h2, h3, _⟩ := tdiv_abs hp hn c
  have e := spl_more hp 63 (n.tdiv p) h0 (by omega)
  have e2 : spl p 64 n = _ := spl_dvd 63 c
  have e3 : spl p 64 (n.tdiv p) = _ := e
  unfold val unit
  rw [e2, e3]
  exact ⟨rfl, rfl⟩
theorem val_of_not {p n : Int} (c : n.tmod p ≠ 0) : val p n = 0 ∧ unit p n = n := by
  have e2 : spl p 64 n = _ := spl_not 63 c
  unfold val unit
  rw [e2]
  exact ⟨rfl, rfl⟩
theorem val_spec {p n : Int} (hp : 2 ≤ p) (hn : n ≠ 0) (h : n.natAbs < 2 ^ 63) :
    n = p ^ (val p n).toNat * unit p n ∧ (unit p n).tmod p ≠ 0 ∧ 0 ≤ val p n ∧ val p n < 64 ∧ unit p n ≠ 0 ∧ (unit p n).natAbs ≤ n.natAbs ∧ (0 < n → 0 < unit p n) :=
  spl_spec hp 64 n hn (by omega)

/-- The primes of n from p on, by trial. -/
def pl : Nat → Int → Int → List Int
  | 0, _, _ => []
  | d + 1, n, p => if p * p ≤ n then (if n.tmod p = 0 then p :: pl d (unit p n) (p + 1) else pl d n (p + 1)) else (if n > 1 then [n] else [])
def absI (n : Int) : Int := (n.natAbs : Nat)
def primes (n : Int) : List Int := pl (n.natAbs + 2) (absI n) 2
theorem pl_len : ∀ (d : Nat) (n p : Int), (pl d n p).length ≤ d
  | 0, _, _ => by simp [pl]
  | d + 1, n, p => by
    simp only [pl]
    have h1 := pl_len d (unit p n) (p + 1)
    have h2 := pl_len d n (p + 1)
    repeat' split
    all_goals simp
    all_goals omega
theorem absI_bd (n : Int) : 0 ≤ absI n := by unfold absI; omega
theorem size_ev {n : Int} (h : -9223372036854775808 < n) (h' : n ≤ 9223372036854775807) : mx n (wrap64 (-n)) = absI n := by
  rw [w64 (by omega) (by omega)]; unfold mx absI; omega
theorem primes_len (n : Int) : (primes n).length ≤ n.natAbs + 2 := pl_len _ _ _

end Locg

namespace Locg
def PrimeL (q : Int) : Prop := 2 ≤ q ∧ ∀ r : Int, 2 ≤ r → r ∣ q → r = q

theorem prime_mul {q a b : Int} (hq : PrimeL q) (h : q ∣ a * b) : q ∣ a ∨ q ∣ b := by
  have hg1 : ((Int.gcd q a : Nat) : Int) ∣ q := Int.gcd_dvd_left ..
  have hg2 : ((Int.gcd q a : Nat) : Int) ∣ a := Int.gcd_dvd_right ..
  rcases Nat.lt_or_ge (Int.gcd q a) 2 with h1 | h1
  · right
    have h0 : Int.gcd q a ≠ 0 := by
      intro h0; have := (Int.gcd_eq_zero_iff.1 h0).1; have := hq.1; omega
    have hc : Nat.Coprime q.natAbs a.natAbs := by
      have : Int.gcd q a = Nat.gcd q.natAbs a.natAbs := rfl
      unfold Nat.Coprime; omega
    have hd : q.natAbs ∣ a.natAbs * b.natAbs := by rw [← Int.natAbs_mul]; exact Int.natAbs_dvd_natAbs.2 h
    exact Int.natAbs_dvd_natAbs.1 (Nat.Coprime.dvd_of_dvd_mul_left hc hd)
  · left
    have := hq.2 _ (show (2 : Int) ≤ ((Int.gcd q a : Nat) : Int) by omega) hg1
    rw [this] at hg2; exact hg2

/-- Euclid: what the prime does not divide has an inverse. -/
theorem inv_ex {p : Int} (hp : PrimeL p) : ∀ (n : Nat) (k : Int), k.toNat ≤ n → 1 ≤ k → k < p → ∃ j : Int, (k * j) % p = 1 := by
  intro n
  induction n with
  | zero => intro k h h1; omega
  | succ n ih =>
    intro k hn h1 hk
    rcases Int.lt_or_le 1 k with c | c
    · have hr0 : p % k ≠ 0 := by
        intro h0
        have := hp.2 k (by omega) (Int.dvd_of_emod_eq_zero h0)
        omega
      have hr1 := Int.emod_nonneg p (show k ≠ 0 by omega)
      have hr2 := Int.emod_lt_of_pos p (show 0 < k by omega)
      obtain ⟨j, hj⟩ := ih (p % k) (by omega) (by omega) (by omega)
      refine ⟨-((p / k) * j), ?_⟩
      have e : k * -((p / k) * j) = (p % k) * j + p * (-j) := by
        have := Int.mul_ediv_add_emod p k
        have h2 : p * j = (k * (p / k) + p % k) * j := by rw [this]
        grind
      rw [e, Int.add_mul_emod_self_left]; exact hj
    · obtain rfl : k = 1 := by omega
      refine ⟨1, ?_⟩
      have := hp.1
      exact Int.emod_eq_of_lt (by omega) (by omega)

def prodL : List Int → Int
  | [] => 1
  | x :: xs => x * prodL xs
theorem prodL_perm {a b : List Int} (h : a.Perm b) : prodL a = prodL b := by
  induction h with
  | nil => rfl
  | cons x _ ih => simp [prodL, ih]
  | swap x y l => simp only [prodL]; grind
  | trans _ _ h1 h2 => rw [h1, h2]

/-- Numbers that fall into pairs with one product. -/
theorem pairing (a p : Int) (σ : Int → Int) : ∀ (n : Nat) (L : List Int), L.length ≤ n → L.Nodup →
    (∀ k ∈ L, σ k ∈ L ∧ σ k ≠ k ∧ σ (σ k) = k ∧ (k * σ k) % p = a % p) → ∃ m, L.length = 2 * m ∧ prodL L % p = a ^ m % p := by
  intro n
  induction n with
  | zero => intro L hl _ _; match L, hl with | [], _ => exact ⟨0, rfl, by simp [prodL]⟩
  | succ n ih =>
    intro L hl hd hs
    match L, hl, hd, hs with
    | [], _, _, _ => exact ⟨0, rfl, by simp [prodL]⟩
    | k :: L, hl, hd, hs =>
      have hk := hs k (by simp)
      have hd' := List.nodup_cons.1 hd
      have hmem : σ k ∈ L := by
        rcases List.mem_cons.1 hk.1 with h | h
        · exact absurd h hk.2.1
        · exact h
      have hN := hd'.2
      have hlen : (L.erase (σ k)).length + 1 = L.length := by
        have := List.length_erase_of_mem hmem
        have : 0 < L.length := List.length_pos_of_mem hmem
        omega
      obtain ⟨m, hm1, hm2⟩ := ih (L.erase (σ k)) (by simp at hl; omega) (hN.erase _) (by
        intro x hx
        have hx2 := (hN.mem_erase_iff).1 hx
        have hxk : x ≠ k := fun h => hd'.1 (h ▸ hx2.2)
        have h1 := hs x (by simp [hx2.2])
        refine ⟨?_, h1.2⟩
        rw [hN.mem_erase_iff]
        refine ⟨fun h => ?_, ?_⟩
        · have := h1.2.2.1; rw [h, hk.2.2.1] at this; exact hxk this.symm
        · rcases List.mem_cons.1 h1.1 with h | h
          · exfalso; have := h1.2.2.1; rw [h] at this; exact hx2.1 this.symm
          · exact h)
      refine ⟨m + 1, by simp; omega, ?_⟩
      have hp := prodL_perm (List.perm_cons_erase hmem)
      simp only [prodL] at hp ⊢
      rw [hp, ← Int.mul_assoc, Int.mul_emod, hk.2.2.2, hm2, ← Int.mul_emod, Int.pow_succ, Int.mul_comm]

/-- 1, 2, .., n. -/
def upto : Nat → List Int
  | 0 => []
  | n + 1 => ((n : Int) + 1) :: upto n
theorem mem_upto {n : Nat} {x : Int} : x ∈ upto n ↔ 1 ≤ x ∧ x ≤ n := by
  induction n with
  | zero => simp [upto]; omega
  | succ n ih => simp [upto, ih]; omega
theorem upto_len (n : Nat) : (upto n).length = n := by
  induction n with
  | zero => rfl
  | succ n ih => simp [upto, ih]
theorem upto_nodup (n : Nat) : (upto n).Nodup := by
  induction n with
  | zero => simp [upto]
  | succ n ih =>
    simp only [upto, List.nodup_cons]
    refine ⟨fun h => ?_, ih⟩
    have := (mem_upto.1 h).2; omega
/-- The number that gives a product, up to a prime. -/
def mate (p a k : Int) : Int := ((upto (p - 1).toNat).find? (fun j => (k * j) % p == a % p)).getD 0
theorem emod_zero_iff {p a : Int} : a % p = 0 ↔ p ∣ a := ⟨Int.dvd_of_emod_eq_zero, Int.emod_eq_zero_of_dvd⟩
theorem sub_dvd {p a b : Int} : a % p = b % p ↔ p ∣ a - b := by
  rw [← emod_zero_iff]; exact Int.emod_eq_emod_iff_emod_sub_eq_zero ..
theorem cancel {p k a b : Int} (hp : PrimeL p) (hk : k % p ≠ 0) (h : (k * a) % p = (k * b) % p) : a % p = b % p := by
  rw [sub_dvd] at h ⊢
  rw [← Int.mul_sub] at h
  rcases prime_mul hp h with h | h
  · exact absurd (emod_zero_iff.2 h) hk
  · exact h
theorem range_eq {p a b : Int} (ha : 1 ≤ a) (ha' : a < p) (hb : 1 ≤ b) (hb' : b < p) (h : a % p = b % p) : a = b := by
  rwa [Int.emod_eq_of_lt (by omega) ha', Int.emod_eq_of_lt (by omega) hb'] at h
theorem mod_self_ne {p k : Int} (h1 : 1 ≤ k) (h2 : k < p) : k % p ≠ 0 := by
  rw [Int.emod_eq_of_lt (by omega) h2]; omega
theorem mate_spec {p a k : Int} (hp : PrimeL p) (ha : a % p ≠ 0) (h1 : 1 ≤ k) (h2 : k < p) : 1 ≤ mate p a k ∧ mate p a k < p ∧ (k * mate p a k) % p = a % p := by
  have hp2 := hp.1
  have hex : ∃ j, j ∈ upto (p - 1).toNat ∧ (k * j) % p = a % p := by
    obtain ⟨j, hj⟩ := inv_ex hp k.toNat k (by omega) h1 h2
    have e : (k * (j * a % p)) % p = a % p := by
      rw [Int.mul_emod, Int.emod_emod_of_dvd _ (Int.dvd_refl p), ← Int.mul_emod, ← Int.mul_assoc, Int.mul_emod, hj, Int.one_mul, Int.emod_emod_of_dvd _ (Int.dvd_refl p)]
    refine ⟨j * a % p, ?_, e⟩
    have h3 := Int.emod_nonneg (j * a) (show p ≠ 0 by omega)
    have h4 := Int.emod_lt_of_pos (j * a) (show 0 < p by omega)
    rw [mem_upto]
    refine ⟨?_, by omega⟩
    rcases Int.lt_or_le 0 (j * a % p) with h | h
    · omega
    · exfalso
      have h0 : j * a % p = 0 := by omega
      rw [h0] at e; simp at e; exact ha e.symm
  obtain ⟨j, hj, he⟩ := hex
  unfold mate
  cases hf : (upto (p - 1).toNat).find? (fun j => (k * j) % p == a % p) with
  | none =>
    have := List.find?_eq_none.1 hf j hj
    simp at this; exact absurd he this
  | some x =>
    have hm := mem_upto.1 (List.mem_of_find?_eq_some hf)
    have hx := List.find?_some hf
    simp only [Option.getD_some]
    refine ⟨hm.1, by omega, by simpa using hx⟩
theorem mate_mate {p a k : Int} (hp : PrimeL p) (ha : a % p ≠ 0) (h1 : 1 ≤ k) (h2 : k < p) : mate p a (mate p a k) = k := by
  obtain ⟨a1, a2, a3⟩ := mate_spec hp ha h1 h2
  obtain ⟨b1, b2, b3⟩ := mate_spec hp ha a1 a2
  refine range_eq b1 b2 h1 h2 (cancel hp (mod_self_ne a1 a2) ?_)
  rw [b3, Int.mul_comm, a3]
theorem sq_roots {p x k : Int} (hp : PrimeL p) (hx1 : 1 ≤ x) (hx2 : x < p) (h1 : 1 ≤ k) (h2 : k < p) (h : (k * k) % p = (x * x) % p) : k = x ∨ k = p - x := by
  rw [sub_dvd] at h
  have e : k * k - x * x = (k - x) * (k + x) := by grind
  rw [e] at h
  rcases prime_mul hp h with h | h
  · left; exact range_eq h1 h2 hx1 hx2 (sub_dvd.2 h)
  · right
    refine range_eq h1 h2 (by omega) (by omega) (sub_dvd.2 ?_)
    obtain ⟨c, hc⟩ := h
    exact ⟨c - 1, by rw [Int.mul_sub, ← hc]; omega⟩
theorem no_root {p a : Int} (hp : PrimeL p) (ha : a % p ≠ 0) (h : ∀ x : Int, 1 ≤ x → x < p → (x * x) % p ≠ a % p) : ∃ m, (p - 1).toNat = 2 * m ∧ prodL (upto (p - 1).toNat) % p = a ^ m % p := by
  have := pairing a p (mate p a) _ (upto (p - 1).toNat) (Nat.le_refl _) (upto_nodup _) (by
    intro k hk
    have hk := mem_upto.1 hk
    have h2 : k < p := by omega
    obtain ⟨a1, a2, a3⟩ := mate_spec hp ha hk.1 h2
    refine ⟨mem_upto.2 ⟨a1, by omega⟩, fun e => ?_, mate_mate hp ha hk.1 h2, a3⟩
    rw [e] at a3; exact h k hk.1 h2 a3)
  rw [upto_len] at this
  exact this
theorem with_root {p a x : Int} (hp : PrimeL p) (h3 : 3 ≤ p) (ho : p % 2 = 1) (ha : a % p ≠ 0) (h1 : 1 ≤ x) (h2 : x < p) (h : (x * x) % p = a % p) :
    ∃ m, (p - 1).toNat = 2 * (m + 1) ∧ prodL (upto (p - 1).toNat) % p = -(a ^ (m + 1)) % p := by
  have hN := upto_nodup (p - 1).toNat
  have hx : x ∈ upto (p - 1).toNat := mem_upto.2 ⟨h1, by omega⟩
  have hne : p - x ≠ x := by omega
  have hN1 := hN.erase x
  have hy : p - x ∈ (upto (p - 1).toNat).erase x := by
    rw [hN.mem_erase_iff]; exact ⟨hne, mem_upto.2 ⟨by omega, by omega⟩⟩
  have hmem : ∀ k, k ∈ ((upto (p - 1).toNat).erase x).erase (p - x) ↔ k ≠ p - x ∧ k ≠ x ∧ 1 ≤ k ∧ k < p := by
    intro k
    rw [hN1.mem_erase_iff, hN.mem_erase_iff, mem_upto]
    refine ⟨fun ⟨q1, q2, q3, q4⟩ => ⟨q1, q2, q3, by omega⟩, fun ⟨q1, q2, q3, q4⟩ => ⟨q1, q2, q3, by omega⟩⟩
  obtain ⟨m, m1, m2⟩ := pairing a p (mate p a) _ (((upto (p - 1).toNat).erase x).erase (p - x)) (Nat.le_refl _) (hN1.erase _) (by
    intro k hk
    obtain ⟨k1, k2, k3, k4⟩ := (hmem k).1 hk
    obtain ⟨a1, a2, a3⟩ := mate_spec hp ha k3 k4
    refine ⟨(hmem _).2 ⟨fun e => ?_, fun e => ?_, a1, a2⟩, fun e => ?_, mate_mate hp ha k3 k4, a3⟩
    · have hm := mate_mate hp ha k3 k4
      rw [e] at hm a3
      apply k2
      refine range_eq k3 k4 h1 h2 (cancel (k := p - x) hp (mod_self_ne (by omega) (by omega)) ?_)
      rw [Int.mul_comm, a3, ← h]
      exfalso
      -- k (p - x) = x x, so k = -x
      have h5 : (k * (p - x)) % p = (x * x) % p := by rw [a3, h]
      have h6 : ((p - x) * k) % p = ((p - x) * (p - x)) % p := by
        rw [Int.mul_comm, h5, sub_dvd]
        exact ⟨2 * x - p, by grind⟩
      exact k1 (range_eq k3 k4 (by omega) (by omega) (cancel hp (mod_self_ne (by omega) (by omega)) h6))
    · rw [e] at a3
      have h5 : (x * k) % p = (x * x) % p := by rw [Int.mul_comm, a3, h]
      exact k2 (range_eq k3 k4 h1 h2 (cancel hp (mod_self_ne h1 h2) h5))
    · rw [e] at a3
      rcases sq_roots hp h1 h2 k3 k4 (by rw [a3, h]) with h | h
      · exact k2 h
      · exact k1 h)
  have l1 := List.length_erase_of_mem hx
  have l2 := List.length_erase_of_mem hy
  rw [upto_len] at l1
  refine ⟨m, by omega, ?_⟩
  have p1 := prodL_perm (List.perm_cons_erase hx)
  have p2 := prodL_perm (List.perm_cons_erase hy)
  simp only [prodL] at p1 p2
  rw [p1, p2, ← Int.mul_assoc, Int.mul_emod, m2]
  have e : (x * (p - x)) % p = (-a) % p := by
    have : (x * (p - x)) % p = (-(x * x)) % p := by rw [sub_dvd]; exact ⟨x, by grind⟩
    rw [this]
    rw [sub_dvd] at h ⊢
    obtain ⟨c, hc⟩ := h
    exact ⟨-c, by rw [Int.mul_neg, ← hc]; omega⟩
  rw [e, ← Int.mul_emod, Int.pow_succ]
  congr 1
  grind
theorem neg_mod {p a b : Int} (h : a % p = b % p) : (-a) % p = (-b) % p := by
  rw [sub_dvd] at h ⊢
  obtain ⟨c, hc⟩ := h
  exact ⟨-c, by rw [Int.mul_neg, ← hc]; omega⟩
theorem wilson {p : Int} (hp : PrimeL p) (h3 : 3 ≤ p) (ho : p % 2 = 1) : prodL (upto (p - 1).toNat) % p = (-1) % p := by
  have h1 : (1 : Int) % p = 1 := Int.emod_eq_of_lt (by omega) (by omega)
  obtain ⟨m, _, h⟩ := with_root (a := 1) (x := 1) hp h3 ho (by omega) (by omega) (by omega) rfl
  rw [h, Int.one_pow]
/-- Euler's criterion. -/
theorem euler_yes {p a x : Int} (hp : PrimeL p) (h3 : 3 ≤ p) (ho : p % 2 = 1) (ha : a % p ≠ 0) (h1 : 1 ≤ x) (h2 : x < p) (h : (x * x) % p = a % p) : a ^ ((p - 1) / 2).toNat % p = 1 := by
  obtain ⟨m, m1, m2⟩ := with_root hp h3 ho ha h1 h2 h
  rw [wilson hp h3 ho] at m2
  have := neg_mod m2
  rw [Int.neg_neg, Int.neg_neg] at this
  rw [show ((p - 1) / 2).toNat = m + 1 by omega, ← this]
  exact Int.emod_eq_of_lt (by omega) (by omega)
theorem euler_no {p a : Int} (hp : PrimeL p) (h3 : 3 ≤ p) (ho : p % 2 = 1) (ha : a % p ≠ 0) (h : ∀ x : Int, 1 ≤ x → x < p → (x * x) % p ≠ a % p) : a ^ ((p - 1) / 2).toNat % p = p - 1 := by
  obtain ⟨m, m1, m2⟩ := no_root hp ha h
  rw [show ((p - 1) / 2).toNat = m by omega, ← m2, wilson hp h3 ho]
  have : (-1 : Int) % p = (p - 1) % p := by rw [sub_dvd]; exact ⟨-1, by omega⟩
  rw [this]; exact Int.emod_eq_of_lt (by omega) (by omega)
theorem prime_odd {p : Int} (hp : PrimeL p) (h3 : 3 ≤ p) : p % 2 = 1 := by
  rcases Int.emod_two_eq p with h | h
  · have := hp.2 2 (by omega) (Int.dvd_of_emod_eq_zero h); omega
  · exact h
def OddP (p : Int) : Prop := PrimeL p ∧ 3 ≤ p ∧ p ≤ 5000
def resS (p r : Int) : Nat → Int → Int
  | 0, _ => -1
  | d + 1, x => if x ≤ p.tdiv 2 then (if (x * x).tmod p = r then 1 else resS p r d (x + 1)) else -1
def powS (m : Int) : Nat → Int → Int → Int → Int
  | 0, _, _, acc => acc
  | d + 1, b, e, acc => if e > 0 then (if e.tmod 2 = 1 then powS m d ((b * b).tmod m) (e.tdiv 2) ((acc * b).tmod m) else powS m d ((b * b).tmod m) (e.tdiv 2) acc) else acc
def resR (p r : Int) : Int := if r = 0 then 0 else resS p r p.toNat 1
def powR (p r : Int) : Int := powS p 13 r ((p - 1).tdiv 2) (1 % p)
/-- The residue's sign. -/
def res (p u : Int) : Int := resR p (u % p)
theorem sq_nn (a : Int) : 0 ≤ a * a := by
  rcases Int.le_total 0 a with h | h
  · exact Int.mul_nonneg h h
  · have := Int.mul_nonneg (a := -a) (b := -a) (by omega) (by omega); rw [Int.neg_mul_neg] at this; exact this
theorem emod_pow (a p : Int) : ∀ k : Nat, (a % p) ^ k % p = a ^ k % p
  | 0 => by simp
  | k + 1 => by rw [Int.pow_succ, Int.pow_succ, Int.mul_emod, emod_pow a p k, Int.emod_emod_of_dvd _ (Int.dvd_refl p), ← Int.mul_emod]
theorem resS_cases {p r : Int} (hp : 3 ≤ p) : ∀ (d : Nat) (x : Int), 1 ≤ x → p / 2 < x + d →
    (resS p r d x = 1 ∧ ∃ y, x ≤ y ∧ y ≤ p / 2 ∧ (y * y) % p = r) ∨ (resS p r d x = -1 ∧ ∀ y, x ≤ y → y ≤ p / 2 → (y * y) % p ≠ r) := by
  have e2 : p.tdiv 2 = p / 2 := Int.tdiv_eq_ediv_of_nonneg (by omega)
  intro d
  induction d with
  | zero => intro x h1 h2; right; exact ⟨rfl, fun y h3 h4 => by omega⟩
  | succ d ih =>
    intro x h1 h2
    simp only [resS, e2]
    have em : (x * x).tmod p = (x * x) % p := Int.tmod_eq_emod_of_nonneg (sq_nn x)
    by_cases c : x ≤ p / 2
    · rw [if_pos c, em]
      by_cases c2 : (x * x) % p = r
      · rw [if_pos c2]; exact Or.inl ⟨rfl, x, Int.le_refl _, c, c2⟩
      · rw [if_neg c2]
        rcases ih (x + 1) (by omega) (by omega) with ⟨h, y, y1, y2, y3⟩ | ⟨h, hy⟩
        · exact Or.inl ⟨h, y, by omega, y2, y3⟩
        · refine Or.inr ⟨h, fun y h3 h4 => ?_⟩
          rcases Int.lt_or_eq_of_le h3 with h5 | h5
          · exact hy y (by omega) h4
          · subst h5; exact c2
    · rw [if_neg c]; exact Or.inr ⟨rfl, fun y h3 h4 => by omega⟩
theorem half_root {p y : Int} (h1 : 1 ≤ y) (h2 : y < p) : ∃ z, 1 ≤ z ∧ z ≤ p / 2 ∧ (z * z) % p = (y * y) % p := by
  by_cases c : y ≤ p / 2
  · exact ⟨y, h1, c, rfl⟩
  · refine ⟨p - y, by omega, by omega, ?_⟩
    rw [sub_dvd]; exact ⟨p - 2 * y, by grind⟩
theorem powS_eq {m : Int} (hm : 1 ≤ m) : ∀ (d : Nat) (b e acc : Int), 0 ≤ b → 0 ≤ e → e < 2 ^ d → 0 ≤ acc → acc < m → powS m d b e acc = (acc * b ^ e.toNat) % m := by
  intro d
  induction d with
  | zero =>
    intro b e acc hb h0 h1 h2 h3
    obtain rfl : e = 0 := by simp at h1; omega
    simp only [powS, Int.toNat_zero, Int.pow_zero, Int.mul_one]
    exact (Int.emod_eq_of_lt h2 h3).symm
  | succ d ih =>
    intro b e acc hb h0 h1 h2 h3
    simp only [powS]
    have ht : e.tdiv 2 = e / 2 := Int.tdiv_eq_ediv_of_nonneg h0
    have hm2 : e.tmod 2 = e % 2 := Int.tmod_eq_emod_of_nonneg h0
    have hbb : (b * b).tmod m = (b * b) % m := Int.tmod_eq_emod_of_nonneg (sq_nn b)
    have hab : (acc * b).tmod m = (acc * b) % m := Int.tmod_eq_emod_of_nonneg (Int.mul_nonneg h2 hb)
    have he2 : e / 2 < 2 ^ d := by rw [Int.pow_succ] at h1; omega
    have g1 := Int.emod_nonneg (b * b) (show m ≠ 0 by omega)
    have g2 := Int.emod_nonneg (acc * b) (show m ≠ 0 by omega)
    have g3 := Int.emod_lt_of_pos (acc * b) (show 0 < m by omega)
    have sq : ∀ (c : Int) (k : Nat), (c * ((b * b) % m) ^ k) % m = (c * (b ^ (2 * k))) % m := by
      intro c k
      have : (((b * b) % m) ^ k) % m = (b ^ (2 * k)) % m := by
        rw [Int.pow_mul, show b ^ 2 = b * b from by rw [Int.pow_succ, Int.pow_succ, Int.pow_zero, Int.one_mul]]
        exact emod_pow (b * b) m k
      rw [Int.mul_emod, this, ← Int.mul_emod]
    by_cases c : e > 0
    · rw [if_pos c, ht, hm2, hbb, hab]
      by_cases c2 : e % 2 = 1
      · rw [if_pos c2, ih _ _ _ g1 (by omega) he2 g2 g3, sq, Int.mul_emod, Int.emod_emod_of_dvd _ (Int.dvd_refl m), ← Int.mul_emod, Int.mul_assoc, show e.toNat = 2 * (e / 2).toNat + 1 by omega, Int.pow_succ, Int.mul_comm b]
      · rw [if_neg c2, ih _ _ _ g1 (by omega) he2 h2 h3, sq, show e.toNat = 2 * (e / 2).toNat by omega]
    · obtain rfl : e = 0 := by omega
      rw [if_neg c]
      simp only [Int.toNat_zero, Int.pow_zero, Int.mul_one]
      exact (Int.emod_eq_of_lt h2 h3).symm
theorem powR_eq {p r : Int} (h : OddP p) (hr : 0 ≤ r) : powR p r = r ^ ((p - 1) / 2).toNat % p := by
  obtain ⟨hp, h3, h5⟩ := h
  have e2 : (p - 1).tdiv 2 = (p - 1) / 2 := Int.tdiv_eq_ediv_of_nonneg (by omega)
  have h1 : (1 : Int) % p = 1 := Int.emod_eq_of_lt (by omega) (by omega)
  unfold powR
  rw [e2, h1, powS_eq (by omega) 13 r ((p - 1) / 2) 1 hr (by omega) (by omega) (by omega) (by omega), Int.one_mul]
/-- The three values of a residue's sign, and its power. -/
theorem res_cases {p u : Int} (h : OddP p) : (u % p = 0 ∧ res p u = 0 ∧ powR p (u % p) = 0) ∨ (u % p ≠ 0 ∧ res p u = 1 ∧ powR p (u % p) = 1) ∨ (u % p ≠ 0 ∧ res p u = -1 ∧ powR p (u % p) = p - 1) := by
  have hr0 := Int.emod_nonneg u (show p ≠ 0 by have := h.2.1; omega)
  have hrp := Int.emod_lt_of_pos u (show 0 < p by have := h.2.1; omega)
  rw [powR_eq h hr0]
  obtain ⟨hp, h3, h5⟩ := h
  have ho := prime_odd hp h3
  have hee : u % p % p = u % p := Int.emod_emod_of_dvd _ (Int.dvd_refl p)
  unfold res resR
  by_cases c : u % p = 0
  · left
    refine ⟨c, if_pos c, ?_⟩
    rw [c, Int.zero_pow (by omega)]; simp
  · right
    rw [if_neg c]
    rcases resS_cases (r := u % p) h3 p.toNat 1 (by omega) (by omega) with ⟨e, y, y1, y2, y3⟩ | ⟨e, hy⟩
    · left
      exact ⟨c, e, euler_yes hp h3 ho (by omega) y1 (by omega) (by omega)⟩
    · right
      refine ⟨c, e, euler_no hp h3 ho (by omega) ?_⟩
      intro x x1 x2 hx
      obtain ⟨z, z1, z2, z3⟩ := half_root x1 x2
      exact hy z z1 z2 (by omega)
theorem res_pm {p u : Int} (h : OddP p) (hu : u % p ≠ 0) : res p u = 1 ∨ res p u = -1 := by
  rcases res_cases (u := u) h with ⟨c, e, f⟩ | ⟨_, e, f⟩ | ⟨_, e, f⟩
  · exact absurd c hu
  · exact Or.inl e
  · exact Or.inr e
theorem res_mod {p u : Int} (h : OddP p) : (res p u) % p = (u ^ ((p - 1) / 2).toNat) % p := by
  have h3 := h.2.1
  have hr0 := Int.emod_nonneg u (show p ≠ 0 by omega)
  have e1 : (u ^ ((p - 1) / 2).toNat) % p = powR p (u % p) := by rw [powR_eq h hr0]; exact (emod_pow u p _).symm
  rw [e1]
  rcases res_cases (u := u) h with ⟨c, e, f⟩ | ⟨_, e, f⟩ | ⟨_, e, f⟩ <;> rw [e, f]
  · simp
  · exact Int.emod_eq_of_lt (by omega) (by omega)
  · have : (-1 : Int) % p = (p - 1) % p := by rw [sub_dvd]; exact ⟨-1, by omega⟩
    rw [this]; exact Int.emod_eq_of_lt (by omega) (by omega)
theorem res_three {p u : Int} (h : OddP p) : res p u = 0 ∨ res p u = 1 ∨ res p u = -1 := by
  rcases res_cases (u := u) h with ⟨c, e, f⟩ | ⟨_, e, f⟩ | ⟨_, e, f⟩
  · exact Or.inl e
  · exact Or.inr (Or.inl e)
  · exact Or.inr (Or.inr e)
theorem three_eq {p a b : Int} (h3 : 3 ≤ p) (ha : a = 0 ∨ a = 1 ∨ a = -1) (hb : b = 0 ∨ b = 1 ∨ b = -1) (h : a % p = b % p) : a = b := by
  rw [sub_dvd] at h
  obtain ⟨c, hc⟩ := h
  have hb2 : -2 ≤ a - b ∧ a - b ≤ 2 := by omega
  have hc0 : c = 0 := by
    rcases Int.lt_trichotomy c 0 with k | k | k
    · have := Int.mul_le_mul_of_nonneg_left (show c ≤ -1 by omega) (show 0 ≤ p by omega); omega
    · exact k
    · have := Int.mul_le_mul_of_nonneg_left (show 1 ≤ c by omega) (show 0 ≤ p by omega); omega
  subst hc0; omega
theorem res_mul {p u v : Int} (h : OddP p) : res p (u * v) = res p u * res p v := by
  have h3 := h.2.1
  apply three_eq h3 (res_three h)
  · rcases res_three (u := u) h with e | e | e <;> rcases res_three (u := v) h with f | f | f <;> rw [e, f] <;> simp
  · rw [res_mod h, Int.mul_emod, res_mod h, res_mod h, ← Int.mul_emod, Int.mul_pow]
end Locg

namespace Locg
open Go.RowKit Go.Proofs.YtihadpckmcebgaaW.PrintWords Go.Proofs.YtihadpckmcebgaaW.PrintMore

/-- A place: 0, 2, or an odd prime up to 5000. -/
def Plc (p : Int) : Prop := p = 0 ∨ p = 2 ∨ OddP p
theorem prime2 : PrimeL 2 := ⟨by omega, fun r h hd => by have := Int.le_of_dvd (by omega) hd; omega⟩
theorem two_prime {p : Int} (h : p = 2 ∨ OddP p) : PrimeL p := by rcases h with rfl | h; exact prime2; exact h.1
theorem rest_eq (a : Int) {m : Int} (h : 0 < m) : Int.tmod (Int.tmod a m + m) m = a % m := by
  have h1 := Int.tmod_lt_of_pos a h
  have h2 : -m < Int.tmod a m := by
    rcases Int.le_total 0 a with c | c
    · have := Int.tmod_nonneg m c; omega
    · have e : a = -(-a) := by omega
      rw [e, Int.neg_tmod]; have := Int.tmod_lt_of_pos (-a) h; omega
  rw [Int.tmod_eq_emod_of_nonneg (by omega)]
  have e : a % m = (Int.tmod a m + m) % m := by
    have := Int.mul_tdiv_add_tmod a m
    rw [Int.add_emod_right]
    conv => lhs; rw [← this]
    rw [Int.mul_add_emod_self_left]
  exact e.symm
theorem tmod_ne {a p : Int} (h : a.tmod p ≠ 0) : a % p ≠ 0 := fun h' => h (Int.tmod_eq_zero_of_dvd (Int.dvd_of_emod_eq_zero h'))
def par (x : Int) : Nat := (x % 2).toNat
/-- The class of a number that is not 0, at a place. -/
def code (p n : Int) : Nat := if p = 0 then (if n < 0 then 1 else 0) else if p = 2 then 4 * par (val 2 n) + (unit 2 n % 8).toNat / 2 else 2 * par (val p n) + (if res p (unit p n) = 1 then 0 else 1)
def sqAt (n p : Int) : Bool := code p n == 0
def hf (e : Nat) : Int := if e % 2 = 0 then 1 else -1
def symC (p : Int) (c d : Nat) : Int :=
  if p = 0 then (if c = 1 ∧ d = 1 then -1 else 1)
  else if p = 2 then hf (c % 4 * (d % 4) + c / 4 * ((d % 4) * (d % 4 + 1) / 2) + d / 4 * ((c % 4) * (c % 4 + 1) / 2))
  else (if c / 2 = 1 ∧ d / 2 = 1 ∧ p % 4 = 3 then -1 else 1) * (if d / 2 = 1 then (if c % 2 = 0 then 1 else -1) else 1) * (if c / 2 = 1 then (if d % 2 = 0 then 1 else -1) else 1)
def sym (a b p : Int) : Int := symC p (code p a) (code p b)
theorem par_cases (x : Int) : (par x = 0 ∧ x % 2 = 0) ∨ (par x = 1 ∧ x % 2 = 1) := by unfold par; omega
theorem code_zero {n : Int} (hn : n ≠ 0) : sqAt n 0 = decide (n > 0) := by
  unfold sqAt code
  by_cases h : n < 0
  · simp [h]; omega
  · simp [h]; omega
theorem hf_pm (e : Nat) : hf e = 1 ∨ hf e = -1 := by unfold hf; split <;> simp
theorem symC_pm (p : Int) (c d : Nat) : symC p c d = 1 ∨ symC p c d = -1 := by
  unfold symC
  split
  · split <;> simp
  · split
    · exact hf_pm _
    · repeat' split
      all_goals simp
theorem sym_pm (a b p : Int) : sym a b p = 1 ∨ sym a b p = -1 := symC_pm _ _ _
theorem symC_comm {p : Int} {c d : Nat} : symC p c d = symC p d c := by
  unfold symC
  split
  · simp only [and_comm]
  · split
    · congr 1; rw [Nat.mul_comm (c % 4) (d % 4)]; omega
    · rw [Int.mul_right_comm]; congr 2
      simp only [← and_assoc, and_comm]
/-- The class of 2: the unit is odd. -/
theorem unit2 {n : Int} (hn : n ≠ 0) (h : n.natAbs < 2 ^ 63) : unit 2 n % 8 = 1 ∨ unit 2 n % 8 = 3 ∨ unit 2 n % 8 = 5 ∨ unit 2 n % 8 = 7 := by
  have := tmod_ne (val_spec (p := 2) (by omega) hn h).2.1
  omega
/-- A power of p, times what p does not divide. -/
theorem val_pow {p u : Int} (hp : 2 ≤ p) (hu : u.tmod p ≠ 0) : ∀ (k : Nat), (p ^ k * u).natAbs < 2 ^ 63 → val p (p ^ k * u) = k ∧ unit p (p ^ k * u) = u
  | 0, _ => by have := val_of_not hu; simpa using this
  | k + 1, h => by
    have hu0 : u ≠ 0 := by intro h0; subst h0; simp at hu
    have e : p ^ (k + 1) * u = p * (p ^ k * u) := by rw [Int.pow_succ, Int.mul_comm (p ^ k) p, Int.mul_assoc]
    have hk0 : p ^ k * u ≠ 0 := Int.mul_ne_zero (by have := Int.pow_pos (n := p) (m := k) (by omega); omega) hu0
    have hle : (p ^ k * u).natAbs ≤ (p ^ (k + 1) * u).natAbs := by
      have h1 : (p * (p ^ k * u)).natAbs = p.natAbs * (p ^ k * u).natAbs := Int.natAbs_mul _ _
      rw [e, h1]; exact Nat.le_mul_of_pos_left _ (by omega)
    have ih := val_pow hp hu k (Nat.lt_of_le_of_lt hle h)
    have hd : (p * (p ^ k * u)).tdiv p = p ^ k * u := Int.mul_tdiv_cancel_left _ (by omega)
    have hm : (p * (p ^ k * u)).tmod p = 0 := Int.mul_tmod_right _ _
    have := val_of_dvd hp (n := p * (p ^ k * u)) (Int.mul_ne_zero (show p ≠ 0 by omega) hk0) (by rw [← e]; exact h) hm
    rw [hd, ih.1, ih.2] at this
    rw [e]; exact ⟨by rw [this.1]; simp, this.2⟩
theorem P7_bd {p : Int} (h : p = 2 ∨ OddP p) : 2 ≤ p := by
  rcases h with h | h
  · omega
  · have := h.2.1; omega
theorem val_mul {p a b : Int} (h : p = 2 ∨ OddP p) (ha : a ≠ 0) (hb : b ≠ 0) (hab : (a * b).natAbs < 2 ^ 63) :
    val p (a * b) = val p a + val p b ∧ unit p (a * b) = unit p a * unit p b := by
  have hp := P7_bd h
  have la : a.natAbs ≤ (a * b).natAbs := by rw [Int.natAbs_mul]; exact Nat.le_mul_of_pos_right _ (by omega)
  have lb : b.natAbs ≤ (a * b).natAbs := by rw [Int.natAbs_mul]; exact Nat.le_mul_of_pos_left _ (by omega)
  obtain ⟨a1, a2, a3, _⟩ := val_spec hp ha (by omega)
  obtain ⟨b1, b2, b3, _⟩ := val_spec hp hb (by omega)
  have e : a * b = p ^ ((val p a).toNat + (val p b).toNat) * (unit p a * unit p b) := by
    rw [Int.pow_add]
    conv => lhs; rw [a1, b1]
    rw [Int.mul_assoc, Int.mul_assoc, Int.mul_left_comm (unit p a)]
  have hnz : (unit p a * unit p b).tmod p ≠ 0 := by
    intro h0
    rcases prime_mul (two_prime h) (Int.dvd_of_tmod_eq_zero h0) with h1 | h1
    · exact a2 (Int.tmod_eq_zero_of_dvd h1)
    · exact b2 (Int.tmod_eq_zero_of_dvd h1)
  have := val_pow hp hnz ((val p a).toNat + (val p b).toNat) (by rw [← e]; exact hab)
  rw [← e] at this
  exact ⟨by rw [this.1]; omega, this.2⟩
theorem code_lt (p n : Int) (hn : n ≠ 0) (h : n.natAbs < 2 ^ 63) : code p n < 8 := by
  unfold code
  have := par_cases (val 2 n); have := par_cases (val p n)
  split
  · split <;> omega
  · split
    · have := unit2 hn h; omega
    · split <;> omega
theorem code_lt2 (n : Int) : code 0 n < 2 := by unfold code; simp only [if_true]; split <;> omega
theorem code_lt4 (p n : Int) (h0 : p ≠ 0) (h2 : p ≠ 2) : code p n < 4 := by
  unfold code
  rw [if_neg h0, if_neg h2]
  have := par_cases (val p n)
  split <;> omega
theorem xor_tab : ∀ i ∈ List.range 2, ∀ j ∈ List.range 2, ∀ x ∈ [1, 3, 5, 7], ∀ y ∈ [1, 3, 5, 7], 4 * ((i + j) % 2) + (x * y % 8) / 2 = (4 * i + x / 2) ^^^ (4 * j + y / 2) := by decide
theorem xor_tab4 : ∀ i ∈ List.range 2, ∀ j ∈ List.range 2, ∀ x ∈ List.range 2, ∀ y ∈ List.range 2, 2 * ((i + j) % 2) + ((x + y) % 2) = (2 * i + x) ^^^ (2 * j + y) := by decide
theorem code_mul {p a b : Int} (h : Plc p) (ha : a ≠ 0) (hb : b ≠ 0) (hab : (a * b).natAbs < 2 ^ 63) : code p (a * b) = code p a ^^^ code p b := by
  have la : a.natAbs ≤ (a * b).natAbs := by rw [Int.natAbs_mul]; exact Nat.le_mul_of_pos_right _ (by omega)
  have lb : b.natAbs ≤ (a * b).natAbs := by rw [Int.natAbs_mul]; exact Nat.le_mul_of_pos_left _ (by omega)
  rcases h with rfl | h
  · unfold code
    simp only [if_true]
    rcases Int.lt_or_lt_of_ne ha with h1 | h1
    · rcases Int.lt_or_lt_of_ne hb with h2 | h2
      · have := Int.mul_pos_of_neg_of_neg h1 h2
        rw [if_neg (by omega), if_pos h1, if_pos h2]; rfl
      · have := Int.mul_neg_of_neg_of_pos h1 h2
        rw [if_pos this, if_pos h1, if_neg (by omega)]; rfl
    · rcases Int.lt_or_lt_of_ne hb with h2 | h2
      · have := Int.mul_neg_of_pos_of_neg h1 h2
        rw [if_pos this, if_neg (by omega), if_pos h2]; rfl
      · have := Int.mul_pos h1 h2
        rw [if_neg (by omega), if_neg (by omega), if_neg (by omega)]; rfl
  · have hv := val_mul h ha hb hab
    have hp := P7_bd h
    unfold code
    simp only [if_neg (show ¬ p = 0 by omega)]
    rcases h with rfl | h6
    · simp only [if_true]
      rw [hv.1, hv.2]
      have ua := unit2 ha (by omega)
      have ub := unit2 hb (by omega)
      have t := xor_tab (par (val 2 a)) (by have := par_cases (val 2 a); rw [List.mem_range]; omega) (par (val 2 b)) (by have := par_cases (val 2 b); rw [List.mem_range]; omega)
        (unit 2 a % 8).toNat (by simp only [List.mem_cons, List.not_mem_nil, or_false]; omega) (unit 2 b % 8).toNat (by simp only [List.mem_cons, List.not_mem_nil, or_false]; omega)
      rw [← t]
      have e1 : par (val 2 a + val 2 b) = (par (val 2 a) + par (val 2 b)) % 2 := by unfold par; omega
      have e2 : (unit 2 a * unit 2 b % 8).toNat = (unit 2 a % 8).toNat * (unit 2 b % 8).toNat % 8 := by
        rw [Int.mul_emod]
        rcases ua with h1 | h1 | h1 | h1 <;> rcases ub with h2 | h2 | h2 | h2 <;> rw [h1, h2] <;> rfl
      rw [e1, e2]
    · have h2 := h6.2
      simp only [if_neg (show ¬ p = 2 by omega)]
      rw [hv.1, hv.2, res_mul h6]
      have ra := res_pm h6 (tmod_ne (val_spec hp ha (by omega)).2.1)
      have rb := res_pm h6 (tmod_ne (val_spec hp hb (by omega)).2.1)
      have e1 : par (val p a + val p b) = (par (val p a) + par (val p b)) % 2 := by unfold par; omega
      rw [e1]
      have pa := par_cases (val p a)
      have pb := par_cases (val p b)
      have t := xor_tab4 (par (val p a)) (by rw [List.mem_range]; omega) (par (val p b)) (by rw [List.mem_range]; omega)
      rcases ra with h1 | h1 <;> rcases rb with h2 | h2 <;> rw [h1, h2]
      · exact t 0 (by decide) 0 (by decide)
      · exact t 0 (by decide) 1 (by decide)
      · exact t 1 (by decide) 0 (by decide)
      · exact t 1 (by decide) 1 (by decide)

end Locg

namespace Locg
open Go.RowKit Go.Proofs.YtihadpckmcebgaaW.PrintWords Go.Proofs.YtihadpckmcebgaaW.PrintMore

def Sm (x : Int) : Prop := x ≠ 0 ∧ x.natAbs ≤ 30
def prodF : List Int → Int → Int
  | [], acc => acc
  | x :: xs, acc => prodF xs (acc * x)
def prod (xs : List Int) : Int := prodF xs 1
def lessF : List Int → Int → Int
  | [], acc => acc
  | x :: xs, acc => lessF xs (if x < 0 then acc + 1 else acc)
def less (xs : List Int) : Int := lessF xs 0
def inn (p x : Int) : List Int → Int → Int
  | [], acc => acc
  | y :: ys, acc => inn p x ys (acc * sym x y p)
def outr (p : Int) : List Int → List Int → Int → Int
  | _, [], acc => acc
  | pre, x :: xs, acc => outr p (pre ++ [x]) xs (inn p x pre acc)
def inv (xs : List Int) (p : Int) : Int := outr p [] xs 1
def van (xs : List Int) (p : Int) : Bool :=
  if p = 0 then decide (less xs > 0) && decide (less xs < (xs.length : Int))
  else if (xs.length : Int) = 2 then sqAt (-(prod xs)) p
  else if (xs.length : Int) = 3 then inv xs p == sym (-1) (-(prod xs)) p
  else if (xs.length : Int) = 4 then !(sqAt (prod xs) p) || (inv xs p == sym (-1) (-1) p)
  else false
def planes (xs : List Int) (p : Int) : Int :=
  if p = 0 then mn (less xs) ((xs.length : Int) - less xs)
  else if van xs p = true then (if (xs.length : Int) = 4 ∧ sqAt (prod xs) p = true then 2 else 1) else 0
def formOk (xs : List Int) : Bool := xs.all (fun x => decide (x ≠ 0) && decide (x.natAbs ≤ 30)) && (decide (1 ≤ xs.length) && decide (xs.length ≤ 4))
theorem formOk_iff {xs : List Int} : formOk xs = true ↔ (∀ x ∈ xs, Sm x) ∧ 1 ≤ xs.length ∧ xs.length ≤ 4 := by
  simp [formOk, Sm, and_assoc]
theorem pm_mul {a b : Int} (ha : a = 1 ∨ a = -1) (hb : b = 1 ∨ b = -1) : (a * b = 1 ∨ a * b = -1) ∧ wrap64 (a * b) = a * b := by
  rcases ha with rfl | rfl <;> rcases hb with rfl | rfl <;> decide +kernel
theorem inn_pm (p x : Int) : ∀ (ys : List Int) (acc : Int), (acc = 1 ∨ acc = -1) → inn p x ys acc = 1 ∨ inn p x ys acc = -1
  | [], acc, h => h
  | y :: ys, acc, h => inn_pm p x ys _ (pm_mul h (sym_pm x y p)).1
theorem prodF_bd : ∀ (xs : List Int) (acc : Int) (j : Nat), (∀ x ∈ xs, Sm x) → acc ≠ 0 → acc.natAbs ≤ 30 ^ j → prodF xs acc ≠ 0 ∧ (prodF xs acc).natAbs ≤ 30 ^ (j + xs.length)
  | [], acc, j, _, h0, h => ⟨h0, h⟩
  | x :: xs, acc, j, hx, h0, h => by
    have h1 := hx x (by simp)
    have h2 : (acc * x).natAbs ≤ 30 ^ (j + 1) := by rw [Int.natAbs_mul, Nat.pow_succ]; exact Nat.mul_le_mul h h1.2
    have := prodF_bd xs (acc * x) (j + 1) (fun y hy => hx y (by simp [hy])) (Int.mul_ne_zero h0 h1.1) h2
    simp only [prodF, List.length_cons]
    rw [show j + (xs.length + 1) = j + 1 + xs.length from by omega]
    exact this
theorem prod_bd4 {xs : List Int} (hx : ∀ x ∈ xs, Sm x) (hl : xs.length ≤ 5) : prod xs ≠ 0 ∧ (prod xs).natAbs ≤ 24300000 := by
  have := prodF_bd xs 1 0 hx (by omega) (by simp)
  have h2 : 30 ^ (0 + xs.length) ≤ 30 ^ 5 := Nat.pow_le_pow_right (by omega) (by omega)
  exact ⟨this.1, by unfold prod; omega⟩
theorem lessF_bd : ∀ (xs : List Int) (acc : Int), acc ≤ lessF xs acc ∧ lessF xs acc ≤ acc + xs.length
  | [], acc => by simp [lessF]
  | x :: xs, acc => by
    have h1 := lessF_bd xs (acc + 1)
    have h2 := lessF_bd xs acc
    simp only [lessF, List.length_cons]
    split <;> omega
theorem less_bd (xs : List Int) : 0 ≤ less xs ∧ less xs ≤ xs.length := by have := lessF_bd xs 0; unfold less; omega

end Locg

namespace Locg
open Go.RowKit Go.Proofs.YtihadpckmcebgaaW.PrintWords Go.Proofs.YtihadpckmcebgaaW.PrintMore

def nC (p : Int) : Nat := if p = 2 then 8 else 4
def mC (p : Int) : Nat := if p = 0 then 1 else if p = 2 then 3 else if p % 4 = 3 then 1 else 0
theorem code_in {p n : Int} (hn : n ≠ 0) (h : n.natAbs < 2 ^ 63) : code p n ∈ List.range (nC p) := by
  unfold nC
  rw [List.mem_range]
  split
  · exact code_lt p n hn h
  · rename_i h2
    by_cases c : p = 0
    · subst c; have := code_lt2 n; omega
    · exact code_lt4 p n c h2
/-- A place of the same kind, out of four. -/
def kd (p : Int) : Int := if p = 0 then 0 else if p = 2 then 2 else if p % 4 = 3 then 3 else 5
def K4 : List Int := [0, 2, 3, 5]
theorem kd_mem (p : Int) : kd p ∈ K4 := by unfold kd K4; simp only [List.mem_cons, List.not_mem_nil, or_false]; repeat' split; all_goals omega
theorem kd_cases {p : Int} (h : Plc p) : (p = 0 ∧ kd p = 0) ∨ (p = 2 ∧ kd p = 2) ∨ (OddP p ∧ p ≠ 0 ∧ p ≠ 2 ∧ p % 4 = 3 ∧ kd p = 3) ∨ (OddP p ∧ p ≠ 0 ∧ p ≠ 2 ∧ p % 4 = 1 ∧ kd p = 5) := by
  rcases h with rfl | rfl | h
  · exact Or.inl ⟨rfl, rfl⟩
  · exact Or.inr (Or.inl ⟨rfl, rfl⟩)
  · have h3 := h.2.1
    have ho := prime_odd h.1 h3
    unfold kd
    rw [if_neg (by omega), if_neg (by omega)]
    by_cases c : p % 4 = 3
    · rw [if_pos c]; exact Or.inr (Or.inr (Or.inl ⟨h, by omega, by omega, c, rfl⟩))
    · rw [if_neg c]; exact Or.inr (Or.inr (Or.inr ⟨h, by omega, by omega, by omega, rfl⟩))
theorem kd_zero {p : Int} (h : Plc p) : kd p = 0 ↔ p = 0 := by rcases kd_cases h with ⟨a, b⟩ | ⟨a, b⟩ | ⟨_, a, _, _, b⟩ | ⟨_, a, _, _, b⟩ <;> omega
theorem kd_two {p : Int} (h : Plc p) : kd p = 2 ↔ p = 2 := by rcases kd_cases h with ⟨a, b⟩ | ⟨a, b⟩ | ⟨_, _, a, _, b⟩ | ⟨_, _, a, _, b⟩ <;> omega
theorem nC_kd {p : Int} (h : Plc p) : nC p = nC (kd p) := by unfold nC; have := kd_two h; split <;> split <;> omega
theorem mC_kd {p : Int} (h : Plc p) : mC p = mC (kd p) := by
  rcases kd_cases h with ⟨a, b⟩ | ⟨a, b⟩ | ⟨_, a0, a, c, b⟩ | ⟨_, a0, a, c, b⟩
  · rw [b, a]
  · rw [b, a]
  · rw [b]; unfold mC; rw [if_neg a0, if_neg a, if_pos c]; rfl
  · rw [b]; unfold mC; rw [if_neg a0, if_neg a, if_neg (by omega)]; rfl
theorem symC_kd {p : Int} (h : Plc p) (c d : Nat) : symC p c d = symC (kd p) c d := by
  rcases kd_cases h with ⟨a, b⟩ | ⟨a, b⟩ | ⟨_, a0, a, q, b⟩ | ⟨_, a0, a, q, b⟩
  · rw [b, a]
  · rw [b, a]
  · rw [b]; unfold symC; rw [if_neg a0, if_neg a, if_neg (show ¬ (3 : Int) = 0 by decide), if_neg (show ¬ (3 : Int) = 2 by decide), q]; rfl
  · rw [b]; unfold symC; rw [if_neg a0, if_neg a, if_neg (show ¬ (5 : Int) = 0 by decide), if_neg (show ¬ (5 : Int) = 2 by decide), q]; rfl
theorem val_unit_neg {p : Int} (h : 2 ≤ p) : val p (-1) = 0 ∧ unit p (-1) = -1 := val_of_not (by rw [Int.neg_tmod, Int.tmod_eq_of_lt (by omega) (by omega)]; omega)
theorem neg_pow_two (k : Nat) : ((-1 : Int)) ^ (2 * k) = 1 := by rw [Int.pow_mul, show ((-1 : Int)) ^ 2 = 1 from rfl, Int.one_pow]
theorem res_neg {p : Int} (h : OddP p) : res p (-1) = if p % 4 = 3 then -1 else 1 := by
  have h3 := h.2.1
  have ho := prime_odd h.1 h3
  refine three_eq h3 (res_three h) (by split <;> omega) ?_
  rw [res_mod h]
  by_cases c : p % 4 = 3
  · rw [if_pos c, show ((p - 1) / 2).toNat = 2 * ((p - 3) / 4).toNat + 1 by omega, Int.pow_succ, neg_pow_two]; rfl
  · rw [if_neg c, show ((p - 1) / 2).toNat = 2 * ((p - 1) / 4).toNat by omega, neg_pow_two]
theorem code_neg {p : Int} (h : Plc p) : code p (-1) = mC p := by
  rcases h with rfl | rfl | h
  · rfl
  · decide +kernel
  · have h3 := h.2.1
    have := val_unit_neg (p := p) (by omega)
    have c0 : ¬ p = 0 := by omega
    have c2 : ¬ p = 2 := by omega
    unfold code mC; simp only [if_neg c0, if_neg c2, this.1, this.2, res_neg h]
    by_cases c : p % 4 = 3
    · simp only [if_pos c]; rfl
    · simp only [if_neg c]; rfl
theorem code_opp {p n : Int} (h : Plc p) (hn : n ≠ 0) (hN : n.natAbs < 2 ^ 63) : code p (-n) = mC p ^^^ code p n := by
  have e : -n = (-1) * n := by omega
  rw [e, code_mul h (by omega) hn (by rw [← e]; omega), code_neg h]
theorem symC_one {p : Int} (h : Plc p) {d : Nat} (hd : d ∈ List.range (nC p)) : symC p 0 d = 1 ∧ symC p d 0 = 1 := by
  have : ∀ p ∈ K4, ∀ d ∈ List.range (nC p), symC p 0 d = 1 ∧ symC p d 0 = 1 := by decide +kernel
  rw [symC_kd h, symC_kd h]; rw [nC_kd h] at hd; exact this _ (kd_mem p) d hd
theorem sq_code {p n : Int} : sqAt n p = (code p n == 0) := rfl
theorem prod2 (a b : Int) : prod [a, b] = a * b := by simp [prod, prodF]
theorem prod3 (a b c : Int) : prod [a, b, c] = a * b * c := by simp [prod, prodF]
theorem prod4 (a b c d : Int) : prod [a, b, c, d] = a * b * c * d := by simp [prod, prodF]
theorem inv3 (a b c p : Int) : inv [a, b, c] p = sym b a p * sym c a p * sym c b p := by simp [inv, outr, inn]
theorem inv4 (a b c d p : Int) : inv [a, b, c, d] p = sym b a p * sym c a p * sym c b p * sym d a p * sym d b p * sym d c p := by simp [inv, outr, inn]
theorem mul_sm {a b : Int} {A B : Nat} (ha : a ≠ 0 ∧ a.natAbs ≤ A) (hb : b ≠ 0 ∧ b.natAbs ≤ B) : a * b ≠ 0 ∧ (a * b).natAbs ≤ A * B :=
  ⟨Int.mul_ne_zero ha.1 hb.1, by rw [Int.natAbs_mul]; exact Nat.mul_le_mul ha.2 hb.2⟩
theorem code2 {p a b : Int} (h : Plc p) (ha : Sm a) (hb : Sm b) : code p (a * b) = code p a ^^^ code p b :=
  code_mul h ha.1 hb.1 (by have := (mul_sm ha hb).2; omega)
theorem code3 {p a b c : Int} (h : Plc p) (ha : Sm a) (hb : Sm b) (hc : Sm c) : code p (a * b * c) = code p a ^^^ code p b ^^^ code p c := by
  have h1 := mul_sm ha hb
  rw [code_mul h h1.1 hc.1 (by have := (mul_sm h1 hc).2; omega), code2 h ha hb]
theorem code4 {p a b c d : Int} (h : Plc p) (ha : Sm a) (hb : Sm b) (hc : Sm c) (hd : Sm d) : code p (a * b * c * d) = code p a ^^^ code p b ^^^ code p c ^^^ code p d := by
  have h1 := mul_sm ha hb
  have h2 := mul_sm h1 hc
  rw [code_mul h h2.1 hd.1 (by have := (mul_sm h2 hd).2; omega), code3 h ha hb hc]
theorem sm_i {a : Int} (h : Sm a) : a.natAbs < 2 ^ 63 := by have := h.2; omega
/-- A form vanishes at a place, told by classes. -/
def vanC (p : Int) : List Nat → Bool
  | [c, d] => (mC p ^^^ (c ^^^ d)) == 0
  | [c, d, e] => symC p d c * symC p e c * symC p e d == symC p (mC p) (mC p ^^^ (c ^^^ d ^^^ e))
  | [c, d, e, f] => !((c ^^^ d ^^^ e ^^^ f) == 0) || (symC p d c * symC p e c * symC p e d * symC p f c * symC p f d * symC p f e == symC p (mC p) (mC p))
  | _ => false
theorem vanC_kd {p : Int} (h : Plc p) (l : List Nat) : vanC p l = vanC (kd p) l := by
  unfold vanC
  split <;> simp only [symC_kd h, mC_kd h]
theorem van_code {p : Int} (h : Plc p) (h0 : p ≠ 0) {xs : List Int} (hx : ∀ x ∈ xs, Sm x) (hl : xs.length ≤ 5) : van xs p = vanC p (xs.map (code p)) := by
  unfold van
  rw [if_neg h0]
  match xs, hx, hl with
  | [], _, _ => rfl
  | [a], _, _ => rfl
  | [a, b], hx, _ =>
    have ha := hx a (by simp); have hb := hx b (by simp)
    have h1 := mul_sm ha hb
    simp only [List.length_cons, List.length_nil, List.map, vanC, sq_code, prod2]
    rw [if_pos (by omega), code_opp h h1.1 (by omega), code2 h ha hb]
  | [a, b, c], hx, _ =>
    have ha := hx a (by simp); have hb := hx b (by simp); have hc := hx c (by simp)
    have h1 := mul_sm (mul_sm ha hb) hc
    simp only [List.length_cons, List.length_nil, List.map, vanC, sq_code, prod3, inv3]
    rw [if_neg (by omega), if_pos (by omega)]
    unfold sym
    rw [code_opp h h1.1 (by omega), code3 h ha hb hc, code_neg h]
  | [a, b, c, d], hx, _ =>
    have ha := hx a (by simp); have hb := hx b (by simp); have hc := hx c (by simp); have hd := hx d (by simp)
    simp only [List.length_cons, List.length_nil, List.map, vanC, sq_code, prod4, inv4]
    rw [if_neg (by omega), if_neg (by omega), if_pos (by omega)]
    unfold sym
    rw [code4 h ha hb hc hd, code_neg h]
  | [a, b, c, d, e], _, _ => rfl
end Locg

namespace Locg
open Go.RowKit Go.Proofs.YtihadpckmcebgaaW.PrintWords Go.Proofs.YtihadpckmcebgaaW.PrintMore

def rep (xs : List Int) (t p : Int) : Bool := if (xs.length : Int) = 4 ∧ p ≠ 0 then true else van (xs ++ [-t]) p
def tOk (t : Int) : Bool := decide (t ≠ 0) && decide (t.natAbs ≤ 30)
theorem tOk_iff {t : Int} : tOk t = true ↔ Sm t := by simp [tOk, Sm]
theorem sm_opp {t : Int} (h : Sm t) : Sm (-t) := by unfold Sm at h ⊢; omega
theorem sm_app {xs : List Int} {t : Int} (hx : ∀ x ∈ xs, Sm x) (ht : Sm t) : ∀ x ∈ xs ++ [t], Sm x := by
  intro x h
  rcases List.mem_append.1 h with h | h
  · exact hx x h
  · rw [List.mem_singleton.1 h]; exact ht
theorem van0 (xs : List Int) : van xs 0 = (decide (less xs > 0) && decide (less xs < (xs.length : Int))) := by unfold van; rw [if_pos rfl]
end Locg

namespace Locg
open Go.RowKit Go.Proofs.YtihadpckmcebgaaW.PrintWords Go.Proofs.YtihadpckmcebgaaW.PrintMore

theorem res_congr {p u v : Int} (h : u % p = v % p) : res p u = res p v := by unfold res; rw [h]
/-- A number near another one, by a great power of the prime, is of its class. -/
theorem code_near {p A C m : Int} (h : p = 2 ∨ OddP p) (hA : A ≠ 0) (hA' : A.natAbs < 2 ^ 63) (hC' : C.natAbs < 2 ^ 63)
    (e : C = A + p ^ ((val p A).toNat + (if p = 2 then 3 else 1)) * m) : code p C = code p A := by
  have hp := P7_bd h
  obtain ⟨a1, a2, a3, a4, a5, _⟩ := val_spec hp hA hA'
  have key : ∀ M : Int, C = p ^ (val p A).toNat * (unit p A + p * M) → val p C = val p A ∧ unit p C = unit p A + p * M := by
    intro M hM
    have hn : (unit p A + p * M).tmod p ≠ 0 := by
      intro h0
      have h1 := Int.dvd_of_tmod_eq_zero h0
      have h2 : p ∣ unit p A := by
        have := Int.dvd_sub h1 (Int.dvd_mul_right p M)
        rwa [Int.add_sub_cancel] at this
      exact a2 (Int.tmod_eq_zero_of_dvd h2)
    have := val_pow hp hn (val p A).toNat (by rw [← hM]; exact hC')
    rw [← hM] at this
    exact ⟨by rw [this.1]; omega, this.2⟩
  rcases h with rfl | h
  · obtain ⟨k1, k2⟩ := key (4 * m) (by rw [e]; simp only [if_true]; rw [Int.pow_add, Int.mul_add, ← a1]; grind)
    unfold code
    simp only [show ¬ (2 : Int) = 0 from by omega, if_false, if_true, k1, k2]
    rw [show (unit 2 A + 2 * (4 * m)) % 8 = unit 2 A % 8 by omega]
  · have h3 := h.2.1
    have c0 : ¬ p = 0 := by omega
    have c2 : ¬ p = 2 := by omega
    obtain ⟨k1, k2⟩ := key m (by rw [e, if_neg c2, Int.pow_add, Int.pow_one, Int.mul_add, ← a1]; grind)
    unfold code
    simp only [if_neg c0, if_neg c2, k1, k2]
    rw [res_congr (u := unit p A + p * m) (v := unit p A) (Int.add_mul_emod_self_left _ _ _)]
theorem xor_in {p : Int} {c d : Nat} (hc : c ∈ List.range (nC p)) (hd : d ∈ List.range (nC p)) : c ^^^ d ∈ List.range (nC p) := by
  unfold nC at hc hd ⊢
  rw [List.mem_range] at hc hd ⊢
  split at hc
  · rw [if_pos ‹_›] at hd ⊢; exact Nat.xor_lt_two_pow (n := 3) hc hd
  · rw [if_neg ‹_›] at hd ⊢; exact Nat.xor_lt_two_pow (n := 2) hc hd
theorem opp_t : ∀ p ∈ K4, p ≠ 0 → ∀ c ∈ List.range (nC p), symC p c (mC p ^^^ c) = 1 := by decide +kernel
theorem opp_tab {p : Int} (h : Plc p) (h0 : p ≠ 0) {c : Nat} (hc : c ∈ List.range (nC p)) : symC p c (mC p ^^^ c) = 1 := by
  rw [nC_kd h] at hc; rw [symC_kd h, mC_kd h]; exact opp_t _ (kd_mem p) (fun e => h0 ((kd_zero h).1 e)) c hc
theorem sum2_t : ∀ i ∈ List.range 2, ∀ u ∈ [1, 3, 5, 7], ∀ v ∈ [1, 3, 5, 7], ∀ d ∈ [1, 2],
    symC 2 ((4 * i + u / 2) ^^^ (4 * i + (u + 2 ^ d * v) % 8 / 2)) ((4 * ((i + d) % 2) + v / 2) ^^^ (4 * i + (u + 2 ^ d * v) % 8 / 2)) = 1 := by decide +kernel
theorem sum2_t' : ∀ i ∈ List.range 2, ∀ u ∈ [1, 3, 5, 7], ∀ w ∈ [1, 3, 5, 7], ∀ d ∈ [1, 2],
    symC 2 ((4 * i + u / 2) ^^^ (4 * ((i + d) % 2) + w / 2)) ((4 * i + (2 ^ d * w + (8 - u)) % 8 / 2) ^^^ (4 * ((i + d) % 2) + w / 2)) = 1 := by decide +kernel
theorem odd_low_t : ∀ p ∈ K4, p ≠ 0 → p ≠ 2 → ∀ c ∈ List.range 2, ∀ d ∈ List.range 2, symC p c d = 1 := by decide +kernel
theorem xor_low : ∀ i ∈ List.range 2, ∀ c ∈ List.range 2, ∀ d ∈ List.range 2, (2 * i + c) ^^^ (2 * i + d) ∈ List.range 2 := by decide +kernel
theorem pow_split {p : Int} {a b : Nat} (h : a ≤ b) : p ^ b = p ^ a * p ^ (b - a) := by rw [← Int.pow_add]; congr 1; omega
/-- Two numbers and their sum, one of the first two much less divisible. -/
theorem add_far {p A B C : Int} (h : p = 2 ∨ OddP p) (hA : A ≠ 0) (hB : B ≠ 0) (hA' : A.natAbs < 2 ^ 63) (hB' : B.natAbs < 2 ^ 63) (hC' : C.natAbs < 2 ^ 63) (e : A + B = C)
    (hv : (val p A).toNat + (if p = 2 then 3 else 1) ≤ (val p B).toNat) : code p C = code p A := by
  have hp := P7_bd h
  obtain ⟨b1, _⟩ := val_spec hp hB hB'
  refine code_near h hA hA' hC' (m := p ^ ((val p B).toNat - ((val p A).toNat + (if p = 2 then 3 else 1))) * unit p B) ?_
  rw [← Int.mul_assoc, ← pow_split hv, ← b1, e]
/-- The lesser power of two equal ones. -/
theorem add_low {p A B C : Int} (h : p = 2 ∨ OddP p) (hA : A ≠ 0) (hB : B ≠ 0) (hC : C ≠ 0) (hA' : A.natAbs < 2 ^ 63) (hB' : B.natAbs < 2 ^ 63) (hC' : C.natAbs < 2 ^ 63) (e : A + B = C)
    (hv : (val p A).toNat = (val p B).toNat) : (val p A).toNat ≤ (val p C).toNat := by
  have hp := P7_bd h
  obtain ⟨a1, a2, _⟩ := val_spec hp hA hA'
  obtain ⟨b1, b2, _⟩ := val_spec hp hB hB'
  obtain ⟨c1, c2, c3, _⟩ := val_spec hp hC hC'
  rcases Nat.lt_or_ge (val p C).toNat (val p A).toNat with hlt | hge
  · exfalso
    generalize (val p C).toNat = k at c1 hlt
    generalize hw : unit p C = w at c1 c2
    have e0 : p ^ (val p A).toNat = p ^ k * p * p ^ ((val p A).toNat - (k + 1)) := by rw [← Int.pow_succ, ← Int.pow_add]; congr 1; omega
    have e1 : p ^ k * w = p ^ k * (p * (p ^ ((val p A).toNat - (k + 1)) * (unit p A + unit p B))) := by
      rw [← c1, ← e]
      conv => lhs; rw [a1, b1, ← hv, ← Int.mul_add, e0]
      simp only [Int.mul_assoc]
    have hpos : p ^ k ≠ 0 := by have := Int.pow_pos (n := p) (m := k) (by omega); omega
    have e2 := Int.eq_of_mul_eq_mul_left hpos e1
    exact c2 (by rw [e2]; exact Int.mul_tmod_right _ _)
  · exact hge
theorem code_bit {p : Int} (h : OddP p) (n : Int) : ∃ b ∈ List.range 2, code p n = 2 * par (val p n) + b := by
  have h3 := h.2.1
  have c2 : ¬ p = 2 := by omega
  have c0 : ¬ p = 0 := by omega
  unfold code
  simp only [if_neg c0, if_neg c2]
  by_cases c : res p (unit p n) = 1
  · exact ⟨0, by simp, by rw [if_pos c]⟩
  · exact ⟨1, by simp, by rw [if_neg c]⟩
theorem add_same {p A B C : Int} (h : OddP p) (eb : val p B = val p A) (ec : val p C = val p A) : symC p (code p A ^^^ code p C) (code p B ^^^ code p C) = 1 := by
  have hP : Plc p := Or.inr (Or.inr h)
  have h3 := h.2.1
  obtain ⟨x, hx, ex⟩ := code_bit h A
  obtain ⟨y, hy, ey⟩ := code_bit h B
  obtain ⟨z, hz, ez⟩ := code_bit h C
  have hpar := par_cases (val p A)
  have hi : par (val p A) ∈ List.range 2 := by rw [List.mem_range]; omega
  rw [eb] at ey
  rw [ec] at ez
  generalize par (val p A) = i at hi ex ey ez
  have q1 := xor_low i hi x hx z hz
  have q2 := xor_low i hi y hy z hz
  rw [ex, ey, ez, symC_kd hP]
  refine odd_low_t (kd p) (kd_mem p) (fun q => ?_) (fun q => ?_) _ q1 _ q2
  · have := (kd_zero hP).1 q; omega
  · have := (kd_two hP).1 q; omega
theorem val_opp {p A : Int} (hp : 2 ≤ p) (hA : A ≠ 0) (hA' : A.natAbs < 2 ^ 63) : val p (-A) = val p A := by
  obtain ⟨a1, a2, a3, _⟩ := val_spec hp hA hA'
  have hu : (-(unit p A)).tmod p ≠ 0 := by rw [Int.neg_tmod]; intro h0; exact a2 (by rw [← Int.neg_neg ((unit p A).tmod p), h0]; rfl)
  have hpe : p ^ (val p A).toNat * -(unit p A) = -A := by rw [Int.mul_neg, ← a1]
  have hm : (-A).natAbs < 2 ^ 63 := by rw [Int.natAbs_neg]; exact hA'
  have := (val_pow hp hu (val p A).toNat (by rw [hpe]; exact hm)).1
  rw [hpe] at this
  rw [this]; exact Int.toNat_of_nonneg a3
/-- The sum is much more divisible: opposite classes. -/
theorem add_opp {p A B C : Int} (h : p = 2 ∨ OddP p) (hA : A ≠ 0) (hB : B ≠ 0) (hC : C ≠ 0) (hA' : A.natAbs < 2 ^ 63) (hB' : B.natAbs < 2 ^ 63) (hC' : C.natAbs < 2 ^ 63) (e : A + B = C)
    (hv : (val p A).toNat + (if p = 2 then 3 else 1) ≤ (val p C).toNat) : code p B = mC p ^^^ code p A := by
  have hP : Plc p := Or.inr h
  have hm : (-A).natAbs < 2 ^ 63 := by rw [Int.natAbs_neg]; exact hA'
  have := add_far h (A := -A) (B := C) (C := B) (by omega) hC hm hC' hB' (by omega) (by rw [val_opp (P7_bd h) hA hA']; exact hv)
  rw [this, code_opp hP hA hA']
theorem toNat_inj {a b : Int} (ha : 0 ≤ a) (hb : 0 ≤ b) (h : a.toNat = b.toNat) : a = b := by omega
theorem lt_succ_lt {a b : Nat} {q : Prop} [Decidable q] (hq : ¬ q) (h : a < b) : a + (if q then 3 else 1) ≤ b := by rw [if_neg hq]; exact h
theorem add_odd {p A B C : Int} (h : OddP p) (hA : A ≠ 0) (hB : B ≠ 0) (hC : C ≠ 0) (hA' : A.natAbs < 2 ^ 63) (hB' : B.natAbs < 2 ^ 63) (hC' : C.natAbs < 2 ^ 63) (e : A + B = C) :
    symC p (code p A ^^^ code p C) (code p B ^^^ code p C) = 1 := by
  have hP : Plc p := Or.inr (Or.inr h)
  have h2 : p = 2 ∨ OddP p := Or.inr h
  have h3 := h.2.1
  have c2 : ¬ p = 2 := by omega
  have c0 : p ≠ 0 := by omega
  have iA := code_in (p := p) hA hA'
  have iB := code_in (p := p) hB hB'
  have iC := code_in (p := p) hC hC'
  rcases Nat.lt_trichotomy (val p A).toNat (val p B).toNat with hlt | heq | hgt
  · have := add_far h2 hA hB hA' hB' hC' e (lt_succ_lt c2 (by assumption))
    rw [this, Nat.xor_self]; exact (symC_one hP (xor_in iB iA)).1
  · have hlow := add_low h2 hA hB hC hA' hB' hC' e heq
    rcases Nat.lt_or_ge (val p A).toNat (val p C).toNat with hk | hk
    · have e2 := add_opp h2 hA hB hC hA' hB' hC' e (lt_succ_lt c2 hk)
      rw [e2, Nat.xor_assoc]
      exact opp_tab hP c0 (xor_in iA iC)
    · obtain ⟨_, a2, a3, _⟩ := val_spec (p := p) (by omega) hA hA'
      obtain ⟨_, b2, b3, _⟩ := val_spec (p := p) (by omega) hB hB'
      obtain ⟨_, d2, d3, _⟩ := val_spec (p := p) (by omega) hC hC'
      exact add_same h (toNat_inj b3 a3 heq.symm) (toNat_inj d3 a3 (Nat.le_antisymm hk hlow))
  · have := add_far h2 hB hA hB' hA' hC' (by rw [Int.add_comm]; exact e) (lt_succ_lt c2 (by assumption))
    rw [this, Nat.xor_self]; exact (symC_one hP (xor_in iA iB)).2

theorem code_two (n : Int) : code 2 n = 4 * par (val 2 n) + (unit 2 n % 8).toNat / 2 := by unfold code; simp
theorem par_nat {x : Int} (h : 0 ≤ x) : par x = x.toNat % 2 := by unfold par; omega
theorem mod8_in {u : Int} (h : u % 8 = 1 ∨ u % 8 = 3 ∨ u % 8 = 5 ∨ u % 8 = 7) : (u % 8).toNat ∈ [1, 3, 5, 7] := by
  rcases h with h | h | h | h <;> rw [h] <;> decide
/-- The valuation of a sum of two of different valuations. -/
theorem val_sum {A B C : Int} (hA : A ≠ 0) (hB : B ≠ 0) (hC : C ≠ 0) (hA' : A.natAbs < 2 ^ 63) (hB' : B.natAbs < 2 ^ 63) (hC' : C.natAbs < 2 ^ 63) (e : A + B = C) (hlt : (val 2 A).toNat < (val 2 B).toNat) :
    val 2 C = val 2 A ∧ unit 2 C = unit 2 A + 2 ^ ((val 2 B).toNat - (val 2 A).toNat) * unit 2 B := by
  obtain ⟨a1, a2, a3, _⟩ := val_spec (p := 2) (by omega) hA hA'
  obtain ⟨b1, b2, b3, _⟩ := val_spec (p := 2) (by omega) hB hB'
  generalize hi : (val 2 A).toNat = i at a1 hlt
  generalize hj : (val 2 B).toNat = j at b1 hlt
  generalize unit 2 A = u at a1 a2
  generalize unit 2 B = v at b1
  have e1 : C = 2 ^ i * (u + 2 ^ (j - i) * v) := by
    rw [Int.mul_add, ← Int.mul_assoc, ← pow_split (by omega), ← a1, ← b1]; exact e.symm
  have hn : (u + 2 ^ (j - i) * v).tmod 2 ≠ 0 := by
    intro h0
    have h1 := Int.dvd_of_tmod_eq_zero h0
    have h2 : (2 : Int) ∣ 2 ^ (j - i) * v := by
      obtain ⟨m, hm⟩ : ∃ m, j - i = m + 1 := ⟨j - i - 1, by omega⟩
      rw [hm, Int.pow_succ, Int.mul_comm (2 ^ m) 2, Int.mul_assoc]; exact Int.dvd_mul_right _ _
    have := Int.dvd_sub h1 h2
    rw [Int.add_sub_cancel] at this
    exact a2 (Int.tmod_eq_zero_of_dvd this)
  have := val_pow (p := 2) (by omega) hn i (by rw [← e1]; exact hC')
  rw [← e1] at this
  refine ⟨?_, this.2⟩
  rw [this.1, ← hi]; exact Int.toNat_of_nonneg a3
theorem pow12 {d : Nat} (h : d = 1 ∨ d = 2) {u v : Int} (hu : u % 8 = 1 ∨ u % 8 = 3 ∨ u % 8 = 5 ∨ u % 8 = 7) (hv : v % 8 = 1 ∨ v % 8 = 3 ∨ v % 8 = 5 ∨ v % 8 = 7) :
    ((u + 2 ^ d * v) % 8).toNat = ((u % 8).toNat + 2 ^ d * (v % 8).toNat) % 8 ∧ ((2 ^ d * v - u) % 8).toNat = (2 ^ d * (v % 8).toNat + (8 - (u % 8).toNat)) % 8 := by
  rcases h with rfl | rfl
  · have : (2 : Int) ^ 1 = 2 := rfl
    rw [this]
    rcases hu with h | h | h | h <;> rcases hv with h' | h' | h' | h' <;> omega
  · have : (2 : Int) ^ 2 = 4 := rfl
    rw [this]
    rcases hu with h | h | h | h <;> rcases hv with h' | h' | h' | h' <;> omega
theorem add_two_lt {A B C : Int} (hA : A ≠ 0) (hB : B ≠ 0) (hC : C ≠ 0) (hA' : A.natAbs < 2 ^ 63) (hB' : B.natAbs < 2 ^ 63) (hC' : C.natAbs < 2 ^ 63) (e : A + B = C) (hlt : (val 2 A).toNat < (val 2 B).toNat) :
    symC 2 (code 2 A ^^^ code 2 C) (code 2 B ^^^ code 2 C) = 1 := by
  have hP : Plc 2 := Or.inr (Or.inl rfl)
  have iA := code_in (p := 2) hA hA'
  have iB := code_in (p := 2) hB hB'
  by_cases far : (val 2 A).toNat + 3 ≤ (val 2 B).toNat
  · have := add_far (p := 2) (Or.inl rfl) hA hB hA' hB' hC' e (by rw [if_pos rfl]; exact far)
    rw [this, Nat.xor_self]; exact (symC_one hP (xor_in iB iA)).1
  · obtain ⟨v1, v2⟩ := val_sum hA hB hC hA' hB' hC' e hlt
    obtain ⟨_, _, a3, _⟩ := val_spec (p := 2) (by omega) hA hA'
    obtain ⟨_, _, b3, _⟩ := val_spec (p := 2) (by omega) hB hB'
    have uA := unit2 hA hA'
    have uB := unit2 hB hB'
    rw [code_two A, code_two B, code_two C, v1, v2, par_nat a3, par_nat b3]
    generalize (val 2 A).toNat = i at hlt far
    generalize (val 2 B).toNat = j at hlt far
    generalize unit 2 A = u at uA
    generalize unit 2 B = v at uB
    have hd : j - i = 1 ∨ j - i = 2 := by omega
    rw [(pow12 hd uA uB).1]
    have t := sum2_t (i % 2) (by rw [List.mem_range]; omega) _ (mod8_in uA) _ (mod8_in uB) (j - i) (by rcases hd with h | h <;> rw [h] <;> decide)
    rw [show (i % 2 + (j - i)) % 2 = j % 2 by omega] at t
    exact t
theorem add_two {A B C : Int} (hA : A ≠ 0) (hB : B ≠ 0) (hC : C ≠ 0) (hA' : A.natAbs < 2 ^ 63) (hB' : B.natAbs < 2 ^ 63) (hC' : C.natAbs < 2 ^ 63) (e : A + B = C) :
    symC 2 (code 2 A ^^^ code 2 C) (code 2 B ^^^ code 2 C) = 1 := by
  have hP : Plc 2 := Or.inr (Or.inl rfl)
  rcases Nat.lt_trichotomy (val 2 A).toNat (val 2 B).toNat with hlt | heq | hgt
  · exact add_two_lt hA hB hC hA' hB' hC' e hlt
  · have iA := code_in (p := 2) hA hA'
    have iC := code_in (p := 2) hC hC'
    by_cases far : (val 2 A).toNat + 3 ≤ (val 2 C).toNat
    · have e2 := add_opp (p := 2) (Or.inl rfl) hA hB hC hA' hB' hC' e (by rw [if_pos rfl]; exact far)
      rw [e2, Nat.xor_assoc]
      exact opp_tab hP (by omega) (xor_in iA iC)
    · obtain ⟨a1, a2, a3, _⟩ := val_spec (p := 2) (by omega) hA hA'
      obtain ⟨b1, b2, b3, _⟩ := val_spec (p := 2) (by omega) hB hB'
      obtain ⟨c1, c2, c3, _⟩ := val_spec (p := 2) (by omega) hC hC'
      have uA := unit2 hA hA'
      have uB := unit2 hB hB'
      have uC := unit2 hC hC'
      have hlow := add_low (p := 2) (Or.inl rfl) hA hB hC hA' hB' hC' e heq
      rw [code_two A, code_two B, code_two C, par_nat a3, par_nat b3, par_nat c3]
      rw [← heq] at b1 ⊢
      generalize (val 2 A).toNat = i at a1 b1 far hlow
      generalize (val 2 C).toNat = k at c1 far hlow
      generalize unit 2 A = u at a1 uA
      generalize unit 2 B = v at b1 uB
      generalize unit 2 C = w at c1 uC
      have e1 : u + v = 2 ^ (k - i) * w := by
        have hpos : (2 : Int) ^ i ≠ 0 := by have := Int.pow_pos (n := 2) (m := i) (by omega); omega
        apply Int.eq_of_mul_eq_mul_left hpos
        rw [Int.mul_add, ← a1, ← b1, ← Int.mul_assoc, ← pow_split hlow, ← c1]; exact e
      have hne : k ≠ i := by
        intro h; rw [h, Nat.sub_self, Int.pow_zero, Int.one_mul] at e1; omega
      have hd : k - i = 1 ∨ k - i = 2 := by omega
      have ev : v = 2 ^ (k - i) * w - u := by omega
      rw [ev, (pow12 hd uA uC).2]
      have t := sum2_t' (i % 2) (by rw [List.mem_range]; omega) _ (mod8_in uA) _ (mod8_in uC) (k - i) (by rcases hd with h | h <;> rw [h] <;> decide)
      rw [show (i % 2 + (k - i)) % 2 = k % 2 by omega] at t
      exact t
  · rw [symC_comm]
    exact add_two_lt hB hA hC hB' hA' hC' (by rw [Int.add_comm]; exact e) hgt
/-- Two numbers and their sum. -/
theorem add_code {p A B C : Int} (h : Plc p) (hA : A ≠ 0) (hB : B ≠ 0) (hC : C ≠ 0) (hA' : A.natAbs < 2 ^ 63) (hB' : B.natAbs < 2 ^ 63) (hC' : C.natAbs < 2 ^ 63) (e : A + B = C) :
    symC p (code p A ^^^ code p C) (code p B ^^^ code p C) = 1 := by
  rcases h with rfl | rfl | h
  · unfold symC code
    simp only [if_true]
    by_cases a : A < 0 <;> by_cases b : B < 0 <;> by_cases c : C < 0 <;> simp [a, b, c] <;> omega
  · exact add_two hA hB hC hA' hB' hC' e
  · exact add_odd h hA hB hC hA' hB' hC' e

end Locg

namespace Locg
open Go.RowKit Go.Proofs.YtihadpckmcebgaaW.PrintWords Go.Proofs.YtihadpckmcebgaaW.PrintMore

end Locg

namespace Locg
open Go.RowKit Go.Proofs.YtihadpckmcebgaaW.PrintWords Go.Proofs.YtihadpckmcebgaaW.PrintMore

/-- The value of a form at a vector. -/
def qv : List Int → List Int → Int
  | x :: xs, v :: vs => x * v * v + qv xs vs
  | _, _ => 0
theorem qv_pos : ∀ (xs vs : List Int), xs.length = vs.length → (∀ x ∈ xs, 0 < x) → 0 ≤ qv xs vs ∧ (qv xs vs = 0 → ∀ v ∈ vs, v = 0)
  | [], [], _, _ => ⟨by simp [qv], by simp⟩
  | x :: xs, v :: vs, hl, hx => by
    have ih := qv_pos xs vs (by simpa using hl) (fun y hy => hx y (by simp [hy]))
    have h0 := hx x (by simp)
    have h1 : 0 ≤ x * v * v := by rw [Int.mul_assoc]; exact Int.mul_nonneg (by omega) (sq_nonneg v)
    simp only [qv]
    refine ⟨by omega, fun h => ?_⟩
    have h2 : x * v * v = 0 := by omega
    have h3 : v = 0 := by
      rw [Int.mul_assoc] at h2
      rcases Int.mul_eq_zero.1 h2 with h | h
      · omega
      · rcases Int.mul_eq_zero.1 h with h | h <;> exact h
    intro u hu
    rcases List.mem_cons.1 hu with h | h
    · omega
    · exact ih.2 (by omega) u h
theorem qv_neg : ∀ (xs vs : List Int), qv (xs.map (fun x => -x)) vs = -qv xs vs
  | [], vs => by simp [qv]
  | x :: xs, [] => by simp [qv]
  | x :: xs, v :: vs => by
    simp only [List.map, qv, qv_neg xs vs, Int.neg_mul]; omega
theorem lessF_zero : ∀ (xs : List Int) (acc : Int), lessF xs acc = acc → ∀ x ∈ xs, 0 ≤ x
  | [], _, _ => by simp
  | x :: xs, acc, h => by
    simp only [lessF] at h
    have h1 := lessF_bd xs (acc + 1)
    by_cases c : x < 0
    · rw [if_pos c] at h; omega
    · rw [if_neg c] at h
      intro y hy
      rcases List.mem_cons.1 hy with e | e
      · omega
      · exact lessF_zero xs acc h y e
theorem lessF_full : ∀ (xs : List Int) (acc : Int), lessF xs acc = acc + xs.length → ∀ x ∈ xs, x < 0
  | [], _, _ => by simp
  | x :: xs, acc, h => by
    simp only [lessF, List.length_cons] at h
    have h1 := lessF_bd xs acc
    by_cases c : x < 0
    · rw [if_pos c] at h
      intro y hy
      rcases List.mem_cons.1 hy with e | e
      · omega
      · exact lessF_full xs (acc + 1) (by omega) y e
    · rw [if_neg c] at h; omega
/-- The real place. -/
theorem zero_van0 {xs vs : List Int} (hl : xs.length = vs.length) (hx : ∀ x ∈ xs, Sm x) (hz : qv xs vs = 0) (hv : ∃ v ∈ vs, v ≠ 0) : van xs 0 = true := by
  obtain ⟨v, hv, hv0⟩ := hv
  have hb := less_bd xs
  rw [van0, Bool.and_eq_true, decide_eq_true_eq, decide_eq_true_eq]
  refine ⟨?_, ?_⟩
  · rcases Int.lt_or_le 0 (less xs) with h | h
    · exact h
    · exfalso
      have hp := lessF_zero xs 0 (by have : lessF xs 0 = less xs := rfl; omega)
      exact hv0 ((qv_pos xs vs hl (fun x h => by have := hp x h; have := (hx x h).1; omega)).2 hz v hv)
  · rcases Int.lt_or_le (less xs) xs.length with h | h
    · exact h
    · exfalso
      have hp := lessF_full xs 0 (by have : lessF xs 0 = less xs := rfl; omega)
      have := (qv_pos (xs.map (fun x => -x)) vs (by simpa using hl) (fun x h => by
        obtain ⟨y, hy, rfl⟩ := List.mem_map.1 h
        have := hp y hy; omega)).2 (by rw [qv_neg, hz]; rfl) v hv
      exact hv0 this
theorem pair_t : ∀ p ∈ K4, p ≠ 0 → ∀ c ∈ List.range (nC p), ∀ d ∈ List.range (nC p), vanC p [c, mC p ^^^ c] = true ∧ vanC p [c, mC p ^^^ c, d] = true := by decide +kernel
theorem pair4_t : ∀ p ∈ K4, p ≠ 0 → ∀ c ∈ List.range (nC p), ∀ d ∈ List.range (nC p), ∀ e ∈ List.range (nC p), vanC p [c, mC p ^^^ c, d, e] = true ∧ vanC p [d, e, c, mC p ^^^ c] = true := by decide +kernel
theorem three_t : ∀ p ∈ K4, p ≠ 0 → ∀ c ∈ List.range (nC p), ∀ d ∈ List.range (nC p), ∀ e ∈ List.range (nC p), symC p (c ^^^ (mC p ^^^ e)) (d ^^^ (mC p ^^^ e)) = 1 → vanC p [c, d, e] = true := by decide +kernel
def four_chk (p : Int) : Bool := (List.range (nC p)).all fun c => (List.range (nC p)).all fun d => (List.range (nC p)).all fun s =>
  !(symC p (c ^^^ s) (d ^^^ s) == 1) || (List.range (nC p)).all fun e => (List.range (nC p)).all fun f => !(symC p (e ^^^ (mC p ^^^ s)) (f ^^^ (mC p ^^^ s)) == 1) || vanC p [c, d, e, f]
theorem four_chk_all : ∀ p ∈ K4, p ≠ 0 → four_chk p = true := by decide +kernel
theorem four_t {p : Int} (hp : p ∈ K4) (h0 : p ≠ 0) {c d e f s : Nat} (hc : c ∈ List.range (nC p)) (hd : d ∈ List.range (nC p)) (he : e ∈ List.range (nC p)) (hf : f ∈ List.range (nC p)) (hs : s ∈ List.range (nC p))
    (h1 : symC p (c ^^^ s) (d ^^^ s) = 1) (h2 : symC p (e ^^^ (mC p ^^^ s)) (f ^^^ (mC p ^^^ s)) = 1) : vanC p [c, d, e, f] = true := by
  have := four_chk_all p hp h0
  unfold four_chk at this
  have := List.all_eq_true.1 (List.all_eq_true.1 (List.all_eq_true.1 this c hc) d hd) s hs
  rw [h1] at this
  simp only [beq_self_eq_true, Bool.not_true, Bool.false_or] at this
  have := List.all_eq_true.1 (List.all_eq_true.1 this e he) f hf
  rw [h2] at this
  simpa using this
/-- A square times a number. -/
theorem code_sqm {p a x : Int} (h : Plc p) (ha : a ≠ 0) (hx : x ≠ 0) (hb : (a * x * x).natAbs < 2 ^ 63) : code p (a * x * x) = code p a := by
  have h1 : a * x ≠ 0 := Int.mul_ne_zero ha hx
  have h2 : (a * x).natAbs ≤ (a * x * x).natAbs := by rw [Int.natAbs_mul (a * x)]; exact Nat.le_mul_of_pos_right _ (by omega)
  rw [code_mul h h1 hx hb, code_mul h ha hx (by omega), Nat.xor_assoc, Nat.xor_self, Nat.xor_zero]
/-- Two terms represent a number, told by classes. -/
theorem pair_rep {p a b x y S : Int} (h : Plc p) (ha : a ≠ 0) (hb : b ≠ 0) (ha' : a.natAbs < 2 ^ 63) (hb' : b.natAbs < 2 ^ 63) (hA : (a * x * x).natAbs < 2 ^ 63) (hB : (b * y * y).natAbs < 2 ^ 63) (hS : S.natAbs < 2 ^ 63) (hS0 : S ≠ 0) (e : a * x * x + b * y * y = S) :
    symC p (code p a ^^^ code p S) (code p b ^^^ code p S) = 1 := by
  have iS := code_in (p := p) hS0 hS
  by_cases cx : x = 0
  · have e2 : b * y * y = S := by rw [cx] at e; simpa using e
    by_cases cy : y = 0
    · exfalso; rw [cy] at e2; simp at e2; exact hS0 e2.symm
    · have := code_sqm h hb cy hB
      rw [e2] at this
      rw [this, Nat.xor_self]; exact (symC_one h (xor_in (code_in ha ha') (code_in hb hb'))).2
  · by_cases cy : y = 0
    · have e2 : a * x * x = S := by rw [cy] at e; simpa using e
      have := code_sqm h ha cx hA
      rw [e2] at this
      rw [this, Nat.xor_self]; exact (symC_one h (xor_in (code_in hb hb') (code_in ha ha'))).1
    · have := add_code h (Int.mul_ne_zero (Int.mul_ne_zero ha cx) cx) (Int.mul_ne_zero (Int.mul_ne_zero hb cy) cy) hS0 hA hB hS e
      rwa [code_sqm h ha cx hA, code_sqm h hb cy hB] at this
/-- Two terms with a zero: opposite classes. -/
theorem pair_zero {p a b x y : Int} (h : Plc p) (ha : a ≠ 0) (hb : b ≠ 0) (hA : (a * x * x).natAbs < 2 ^ 63) (hB : (b * y * y).natAbs < 2 ^ 63) (e : a * x * x + b * y * y = 0) (hz : x ≠ 0 ∨ y ≠ 0) : code p b = mC p ^^^ code p a := by
  have hx : x ≠ 0 := by
    intro c; rw [c] at e
    rcases hz with h | h
    · exact h c
    · exact Int.mul_ne_zero (Int.mul_ne_zero hb h) h (by simpa using e)
  have hy : y ≠ 0 := by
    intro c; rw [c] at e
    exact Int.mul_ne_zero (Int.mul_ne_zero ha hx) hx (by simpa using e)
  have e2 : b * y * y = -(a * x * x) := by omega
  rw [← code_sqm h hb hy hB, e2, code_opp h (Int.mul_ne_zero (Int.mul_ne_zero ha hx) hx) hA, code_sqm h ha hx hA]
theorem ne_kd {p : Int} (h : Plc p) (h0 : p ≠ 0) : kd p ≠ 0 := fun e => h0 ((kd_zero h).1 e)
/-- A form with a zero vanishes at each place. -/
theorem zero_van {p : Int} {xs vs : List Int} (h : Plc p) (hl : xs.length = vs.length) (h4 : xs.length ≤ 4) (hx : ∀ x ∈ xs, Sm x) (hb : ∀ v ∈ vs, v.natAbs ≤ 100000000) (hz : qv xs vs = 0) (hv : ∃ v ∈ vs, v ≠ 0) : van xs p = true := by
  by_cases c0 : p = 0
  · subst c0; exact zero_van0 hl hx hz hv
  · have hk := ne_kd h c0
    have bd : ∀ a x : Int, Sm a → x.natAbs ≤ 100000000 → (a * x * x).natAbs ≤ 300000000000000000 := by
      intro a x ha hx
      rw [Int.natAbs_mul, Int.natAbs_mul]
      have := Nat.mul_le_mul (Nat.mul_le_mul ha.2 hx) hx
      omega
    rw [van_code h c0 hx (by omega), vanC_kd h]
    match xs, vs, hl, h4, hx, hb, hz, hv with
    | [], [], _, _, _, _, _, hv => obtain ⟨v, hv, _⟩ := hv; simp at hv
    | [a], [x], _, _, hx, _, hz, hv =>
      exfalso
      obtain ⟨v, hv, hv0⟩ := hv
      obtain rfl := List.mem_singleton.1 hv
      simp only [qv, Int.add_zero] at hz
      exact Int.mul_ne_zero (Int.mul_ne_zero (hx a (by simp)).1 hv0) hv0 hz
    | [a, b], [x, y], _, _, hx, hb, hz, hv =>
      have ha := hx a (by simp); have hb1 := hx b (by simp)
      have bA := bd a x ha (hb x (by simp)); have bB := bd b y hb1 (hb y (by simp))
      have := pair_zero h ha.1 hb1.1 (x := x) (y := y) (by omega) (by omega) (by simp only [qv] at hz; omega) (by obtain ⟨v, hv, hv0⟩ := hv; simp only [List.mem_cons, List.not_mem_nil, or_false] at hv; rcases hv with rfl | rfl; exact Or.inl hv0; exact Or.inr hv0)
      have iA := code_in (p := p) ha.1 (sm_i ha)
      simp only [List.map, this]
      rw [mC_kd h]; rw [nC_kd h] at iA
      exact (pair_t _ (kd_mem p) hk _ iA _ iA).1
    | [a, b, c], [x, y, z], _, _, hx, hb, hz, hv =>
      have ha := hx a (by simp); have hb1 := hx b (by simp); have hc := hx c (by simp)
      have bA := bd a x ha (hb x (by simp)); have bB := bd b y hb1 (hb y (by simp)); have bC := bd c z hc (hb z (by simp))
      have iA := code_in (p := p) ha.1 (sm_i ha)
      have iB := code_in (p := p) hb1.1 (sm_i hb1)
      have iC := code_in (p := p) hc.1 (sm_i hc)
      simp only [qv, Int.add_zero] at hz
      simp only [List.map]
      by_cases cS : a * x * x + b * y * y = 0
      · have hz0 : z = 0 := by
          have : c * z * z = 0 := by omega
          rcases Int.mul_eq_zero.1 this with h | h
          · rcases Int.mul_eq_zero.1 h with h | h
            · exact absurd h hc.1
            · exact h
          · exact h
        have := pair_zero h ha.1 hb1.1 (x := x) (y := y) (by omega) (by omega) cS (by obtain ⟨v, hv, hv0⟩ := hv; simp only [List.mem_cons, List.not_mem_nil, or_false] at hv; rcases hv with rfl | rfl | rfl; exact Or.inl hv0; exact Or.inr hv0; exact absurd hz0 hv0)
        rw [this, mC_kd h]; rw [nC_kd h] at iA iC
        exact (pair_t _ (kd_mem p) hk _ iA _ iC).2
      · have hr := pair_rep h ha.1 hb1.1 (sm_i ha) (sm_i hb1) (x := x) (y := y) (S := a * x * x + b * y * y) (by omega) (by omega) (by omega) cS rfl
        have hz0 : z ≠ 0 := by intro e; rw [e] at hz; simp at hz; exact cS hz
        have e2 : a * x * x + b * y * y = -(c * z * z) := by omega
        rw [e2, code_opp h (Int.mul_ne_zero (Int.mul_ne_zero hc.1 hz0) hz0) (by omega), code_sqm h hc.1 hz0 (by omega), symC_kd h, mC_kd h] at hr
        rw [nC_kd h] at iA iB iC
        exact three_t _ (kd_mem p) hk _ iA _ iB _ iC hr
    | [a, b, c, d], [x, y, z, w], _, _, hx, hb, hz, hv =>
      have ha := hx a (by simp); have hb1 := hx b (by simp); have hc := hx c (by simp); have hd := hx d (by simp)
      have bA := bd a x ha (hb x (by simp)); have bB := bd b y hb1 (hb y (by simp)); have bC := bd c z hc (hb z (by simp)); have bD := bd d w hd (hb w (by simp))
      have iA := code_in (p := p) ha.1 (sm_i ha)
      have iB := code_in (p := p) hb1.1 (sm_i hb1)
      have iC := code_in (p := p) hc.1 (sm_i hc)
      have iD := code_in (p := p) hd.1 (sm_i hd)
      simp only [qv, Int.add_zero] at hz
      simp only [List.map]
      by_cases cS : a * x * x + b * y * y = 0
      · by_cases c1 : x ≠ 0 ∨ y ≠ 0
        · have := pair_zero h ha.1 hb1.1 (x := x) (y := y) (by omega) (by omega) cS c1
          rw [this, mC_kd h]; rw [nC_kd h] at iA iC iD
          exact (pair4_t _ (kd_mem p) hk _ iA _ iC _ iD).1
        · have := pair_zero h hc.1 hd.1 (x := z) (y := w) (by omega) (by omega) (by omega) (by obtain ⟨v, hv, hv0⟩ := hv; simp only [List.mem_cons, List.not_mem_nil, or_false] at hv; rcases hv with rfl | rfl | rfl | rfl; exact absurd (Or.inl hv0) c1; exact absurd (Or.inr hv0) c1; exact Or.inl hv0; exact Or.inr hv0)
          rw [this, mC_kd h]; rw [nC_kd h] at iA iB iC
          exact (pair4_t _ (kd_mem p) hk _ iC _ iA _ iB).2
      · have hr := pair_rep h ha.1 hb1.1 (sm_i ha) (sm_i hb1) (x := x) (y := y) (S := a * x * x + b * y * y) (by omega) (by omega) (by omega) cS rfl
        have hr2 := pair_rep h hc.1 hd.1 (sm_i hc) (sm_i hd) (x := z) (y := w) (S := -(a * x * x + b * y * y)) (by omega) (by omega) (by omega) (by omega) (by omega)
        have iS := code_in (p := p) cS (by omega)
        rw [code_opp h cS (by omega)] at hr2
        generalize code p (a * x * x + b * y * y) = s at hr hr2 iS
        rw [symC_kd h] at hr
        rw [symC_kd h, mC_kd h] at hr2
        rw [nC_kd h] at iA iB iC iD iS
        exact four_t (kd_mem p) hk iA iB iC iD iS hr hr2

end Locg

namespace Locg
open Go.RowKit Go.Proofs.YtihadpckmcebgaaW.PrintWords Go.Proofs.YtihadpckmcebgaaW.PrintMore

def trial (n : Int) : Nat → Int → Bool
  | 0, _ => true
  | d + 1, x => if x * x ≤ n then (if n.tmod x = 0 then false else trial n d (x + 1)) else true
def placeOk (p : Int) : Bool := decide (p = 0) || (decide (p ≤ 5000) && (decide (p ≥ 2) && trial p 70 2))
theorem trial_iff {n : Int} (hn : 2 ≤ n) (hN : n ≤ 5000) : ∀ (d : Nat) (x : Int), 2 ≤ x → 72 ≤ x + d → (∀ r : Int, 2 ≤ r → r < x → ¬ r ∣ n) → (trial n d x = true ↔ ∀ r : Int, 2 ≤ r → r * r ≤ n → ¬ r ∣ n) := by
  intro d
  induction d with
  | zero =>
    intro x h1 h2 hr
    simp only [trial, true_iff]
    intro r r1 r2
    refine hr r r1 ?_
    exact lt_of_sq (by omega) (by have := sq_le (show (0 : Int) ≤ 72 by omega) (show 72 ≤ x by omega); omega)
  | succ d ih =>
    intro x h1 h2 hr
    simp only [trial]
    by_cases c : x * x ≤ n
    · rw [if_pos c]
      by_cases c2 : n.tmod x = 0
      · rw [if_pos c2]
        simp only [Bool.false_eq_true, false_iff]
        intro h; exact h x h1 c (Int.dvd_of_tmod_eq_zero c2)
      · rw [if_neg c2]
        refine ih (x + 1) (by omega) (by omega) (fun r r1 r2 hd => ?_)
        rcases Int.lt_or_eq_of_le (show r ≤ x by omega) with h4 | h4
        · exact hr r r1 h4 hd
        · subst h4; exact c2 (Int.tmod_eq_zero_of_dvd hd)
    · rw [if_neg c]
      simp only [true_iff]
      intro r r1 r2
      refine hr r r1 (lt_of_sq (by omega) (by omega))
theorem prime_iff {n : Int} (hn : 2 ≤ n) : PrimeL n ↔ ∀ r : Int, 2 ≤ r → r * r ≤ n → ¬ r ∣ n := by
  constructor
  · intro h r r1 r2 hd
    have := h.2 r r1 hd
    subst this
    have := Int.mul_le_mul_of_nonneg_right r1 (show 0 ≤ r by omega)
    omega
  · intro h
    refine ⟨hn, fun r r1 hd => ?_⟩
    obtain ⟨s, hs⟩ := hd
    have hs0 : 0 < s := by
      rcases Int.lt_or_le 0 s with h | h
      · exact h
      · have := Int.mul_nonneg (show 0 ≤ r by omega) (show 0 ≤ -s by omega); rw [Int.mul_neg] at this; omega
    rcases Int.lt_or_le 1 s with h1 | h1
    · exfalso
      rcases Int.le_total r s with h2 | h2
      · have := Int.mul_le_mul_of_nonneg_left h2 (show 0 ≤ r by omega)
        exact h r r1 (by omega) ⟨s, hs⟩
      · have := Int.mul_le_mul_of_nonneg_right h2 (show 0 ≤ s by omega)
        exact h s (by omega) (by omega) ⟨r, by rw [Int.mul_comm]; exact hs⟩
    · have : s = 1 := by omega
      subst this; omega
theorem placeOk_iff {p : Int} : placeOk p = true ↔ Plc p := by
  unfold placeOk Plc OddP
  by_cases c : p = 0
  · simp [c]
  · by_cases c5 : p ≤ 5000
    · by_cases c2 : p ≥ 2
      · rw [decide_eq_false c, decide_eq_true c5, decide_eq_true c2, Bool.false_or, Bool.true_and, Bool.true_and, trial_iff c2 c5 70 2 (by omega) (by omega) (fun r r1 r2 => by omega), ← prime_iff c2]
        constructor
        · intro h
          rcases Int.lt_or_eq_of_le c2 with h2 | h2
          · exact Or.inr (Or.inr ⟨h, by omega, c5⟩)
          · exact Or.inr (Or.inl h2.symm)
        · rintro (h | h | h)
          · exact absurd h c
          · subst h; exact prime2
          · exact h.1
      · rw [decide_eq_false c, decide_eq_false c2]
        simp only [Bool.false_and, Bool.and_false, Bool.or_false, Bool.false_eq_true, false_iff]
        rintro (h | h | h) <;> omega
    · rw [decide_eq_false c, decide_eq_false c5]
      simp only [Bool.false_and, Bool.or_false, Bool.false_eq_true, false_iff]
      rintro (h | h | h) <;> omega

end Locg

namespace Locg
open Go.RowKit Go.Proofs.YtihadpckmcebgaaW.PrintWords Go.Proofs.YtihadpckmcebgaaW.PrintMore

def TT : List Int := [1, 2, 3, 5, 6, 7, 10, 12, 15, 4, 21, 30, 8, -1, -2, -3, -5, -6, -7, -10, -12, -15, -4, -21, -30, -8]
theorem TT_sm {x : Int} (h : x ∈ TT) : Sm x := by
  have : ∀ x ∈ TT, x ≠ 0 ∧ x.natAbs ≤ 30 := by decide +kernel
  exact this x h
theorem pl_prime : ∀ (d : Nat) (n p : Int), 2 ≤ p → 0 < n → n.natAbs < 2 ^ 63 → (∀ r : Int, 2 ≤ r → r < p → ¬ r ∣ n) → ∀ q ∈ pl d n p, q ∣ n ∧ PrimeL q := by
  intro d
  induction d with
  | zero => intro n p _ _ _ _ q hq; simp [pl] at hq
  | succ d ih =>
    intro n p hp hn hN hr q hq
    simp only [pl] at hq
    by_cases c : p * p ≤ n
    · rw [if_pos c] at hq
      by_cases c2 : n.tmod p = 0
      · rw [if_pos c2] at hq
        have hpn : p ∣ n := Int.dvd_of_tmod_eq_zero c2
        rcases List.mem_cons.1 hq with h | h
        · subst h
          refine ⟨hpn, hp, fun r h2 hd => ?_⟩
          have hle := Int.le_of_dvd (by omega) hd
          rcases Int.lt_or_eq_of_le hle with h | h
          · exact absurd (Int.dvd_trans hd hpn) (hr r h2 h)
          · exact h
        · have hv := val_spec hp (show n ≠ 0 by omega) hN
          have hud : unit p n ∣ n := ⟨p ^ (val p n).toNat, by rw [Int.mul_comm]; exact hv.1⟩
          have := ih (unit p n) (p + 1) (by omega) (hv.2.2.2.2.2.2 hn) (by omega) (fun r h2 h3 hd => by
            rcases Int.lt_or_eq_of_le (show r ≤ p by omega) with h4 | h4
            · exact hr r h2 h4 (Int.dvd_trans hd hud)
            · subst h4; exact hv.2.1 (Int.tmod_eq_zero_of_dvd hd)) q h
          exact ⟨Int.dvd_trans this.1 hud, this.2⟩
      · rw [if_neg c2] at hq
        exact ih n (p + 1) (by omega) hn hN (fun r h2 h3 hd => by
            rcases Int.lt_or_eq_of_le (show r ≤ p by omega) with h4 | h4
            · exact hr r h2 h4 hd
            · subst h4; exact c2 (Int.tmod_eq_zero_of_dvd hd)) q hq
    · rw [if_neg c] at hq
      by_cases c2 : n > 1
      · rw [if_pos c2] at hq
        have h := List.mem_singleton.1 hq
        subst h
        refine ⟨Int.dvd_refl _, by omega, fun r h2 hd => ?_⟩
        have hle := Int.le_of_dvd hn hd
        have hrp : p ≤ r := by
          rcases Int.lt_or_le r p with h | h
          · exact absurd hd (hr r h2 h)
          · exact h
        obtain ⟨s, hs⟩ := hd
        have hs1 : 1 ≤ s := by
          rcases Int.lt_or_le 0 s with h | h
          · omega
          · have := Int.mul_nonneg (show 0 ≤ r by omega) (show 0 ≤ -s by omega); rw [Int.mul_neg] at this; omega
        rcases Int.lt_or_eq_of_le hs1 with h | h
        · have hsp : p ≤ s := by
            rcases Int.lt_or_le s p with h3 | h3
            · exact absurd ⟨r, by rw [Int.mul_comm]; exact hs⟩ (hr s (by omega) h3)
            · exact h3
          have := Int.mul_le_mul hrp hsp (by omega) (by omega)
          omega
        · subst h; omega
      · rw [if_neg c2] at hq; simp at hq
theorem prime_pow {q p : Int} (hq : PrimeL q) : ∀ k : Nat, q ∣ p ^ k → q ∣ p
  | 0, h => by
    rw [Int.pow_zero] at h
    have := Int.le_of_dvd (by omega) h; have := hq.1; omega
  | k + 1, h => by
    rw [Int.pow_succ] at h
    rcases prime_mul hq h with h | h
    · exact prime_pow hq k h
    · exact h
theorem least_prime {n p : Int} (hp : 2 ≤ p) (hr : ∀ r : Int, 2 ≤ r → r < p → ¬ r ∣ n) (hpn : p ∣ n) : PrimeL p := by
  refine ⟨hp, fun r h2 hd => ?_⟩
  have hle := Int.le_of_dvd (by omega) hd
  rcases Int.lt_or_eq_of_le hle with h | h
  · exact absurd (Int.dvd_trans hd hpn) (hr r h2 h)
  · exact h
theorem no_small {n p : Int} (hn : 1 < n) (hp : 2 ≤ p) (hpp : ¬ p * p ≤ n) (hr : ∀ r : Int, 2 ≤ r → r < p → ¬ r ∣ n) : PrimeL n := by
  rw [prime_iff (by omega)]
  intro r r1 r2
  exact hr r r1 (lt_of_sq (by omega) (by omega))
theorem pl_all : ∀ (d : Nat) (n p : Int), 2 ≤ p → 0 < n → n.natAbs < 2 ^ 63 → n + 2 - p ≤ d → 1 ≤ d → (∀ r : Int, 2 ≤ r → r < p → ¬ r ∣ n) →
    (∀ q, PrimeL q → q ∣ n → q ∈ pl d n p) ∧ (pl d n p).Pairwise (· < ·) ∧ ∀ q ∈ pl d n p, p ≤ q := by
  intro d
  induction d with
  | zero => intro n p _ _ _ _ h1; omega
  | succ d ih =>
    intro n p hp hn hN hd h1 hr
    simp only [pl]
    by_cases c : p * p ≤ n
    · have hpn : 2 * p ≤ n := by have := Int.mul_le_mul_of_nonneg_right hp (show 0 ≤ p by omega); omega
      rw [if_pos c]
      by_cases c2 : n.tmod p = 0
      · have hpd := Int.dvd_of_tmod_eq_zero c2
        have hpP := least_prime hp hr hpd
        obtain ⟨v1, v2, v3, v4, v5, v6, v7⟩ := val_spec hp (show n ≠ 0 by omega) hN
        have hud : unit p n ∣ n := ⟨p ^ (val p n).toNat, by rw [Int.mul_comm]; exact v1⟩
        have hr2 : ∀ r : Int, 2 ≤ r → r < p + 1 → ¬ r ∣ unit p n := by
          intro r h2 h3 hd
          rcases Int.lt_or_eq_of_le (show r ≤ p by omega) with h4 | h4
          · exact hr r h2 h4 (Int.dvd_trans hd hud)
          · subst h4; exact v2 (Int.tmod_eq_zero_of_dvd hd)
        obtain ⟨i1, i2, i3⟩ := ih (unit p n) (p + 1) (by omega) (v7 hn) (by omega) (by omega) (by omega) hr2
        rw [if_pos c2]
        refine ⟨fun q hq hqd => ?_, ?_, ?_⟩
        · rw [v1] at hqd
          rcases prime_mul hq hqd with h | h
          · have := hpP.2 q hq.1 (prime_pow hq _ h)
            rw [this]; exact List.mem_cons_self
          · exact List.mem_cons_of_mem _ (i1 q hq h)
        · rw [List.pairwise_cons]
          exact ⟨fun q hq => by have := i3 q hq; omega, i2⟩
        · intro q hq
          rcases List.mem_cons.1 hq with h | h
          · omega
          · have := i3 q h; omega
      · rw [if_neg c2]
        obtain ⟨i1, i2, i3⟩ := ih n (p + 1) (by omega) hn hN (by omega) (by omega) (fun r h2 h3 he => by
          rcases Int.lt_or_eq_of_le (show r ≤ p by omega) with h4 | h4
          · exact hr r h2 h4 he
          · exact c2 (Int.tmod_eq_zero_of_dvd (h4 ▸ he)))
        exact ⟨i1, i2, fun q hq => by have := i3 q hq; omega⟩
    · rw [if_neg c]
      by_cases c2 : n > 1
      · rw [if_pos c2]
        have hnP := no_small c2 hp c hr
        refine ⟨fun q hq hqd => ?_, by simp, ?_⟩
        · rw [hnP.2 q hq.1 hqd]; simp
        · intro q hq
          obtain rfl := List.mem_singleton.1 hq
          rcases Int.lt_or_le q p with h | h
          · exact absurd (Int.dvd_refl q) (hr q (by omega) h)
          · exact h
      · rw [if_neg c2]
        refine ⟨fun q hq hqd => ?_, by simp, by simp⟩
        have := Int.le_of_dvd hn hqd; have := hq.1; omega
theorem absI_dvd {q n : Int} : q ∣ absI n ↔ q ∣ n := by unfold absI; exact Int.dvd_natAbs
theorem primes_iff {n q : Int} (hn : n ≠ 0) (h : n.natAbs < 2 ^ 63) : q ∈ primes n ↔ PrimeL q ∧ q ∣ n := by
  have ha : 0 < absI n ∧ (absI n).natAbs < 2 ^ 63 ∧ absI n + 2 - 2 ≤ ((n.natAbs + 2 : Nat) : Int) := by unfold absI; omega
  constructor
  · intro hq
    have := pl_prime (n.natAbs + 2) (absI n) 2 (by omega) ha.1 ha.2.1 (fun r h2 h3 => by omega) q hq
    exact ⟨this.2, absI_dvd.1 this.1⟩
  · rintro ⟨h1, h2⟩
    exact (pl_all (n.natAbs + 2) (absI n) 2 (by omega) ha.1 ha.2.1 ha.2.2 (by omega) (fun r h2 h3 => by omega)).1 q h1 (absI_dvd.2 h2)
/-- Two ascending lists with the same numbers are one. -/
theorem sorted_ext : ∀ {a b : List Int}, a.Pairwise (· < ·) → b.Pairwise (· < ·) → (∀ x, x ∈ a ↔ x ∈ b) → a = b
  | [], [], _, _, _ => rfl
  | [], y :: b, _, _, h => by have := (h y).2 (by simp); simp at this
  | x :: a, [], _, _, h => by have := (h x).1 (by simp); simp at this
  | x :: a, y :: b, ha, hb, h => by
    rw [List.pairwise_cons] at ha hb
    have hxy : x = y := by
      have h1 := (h x).1 (by simp)
      have h2 := (h y).2 (by simp)
      rcases List.mem_cons.1 h1 with e | e
      · exact e
      · rcases List.mem_cons.1 h2 with e2 | e2
        · exact e2.symm
        · have := hb.1 x e; have := ha.1 y e2; omega
    subst hxy
    rw [sorted_ext ha.2 hb.2 (fun z => ?_)]
    constructor
    · intro hz
      rcases List.mem_cons.1 ((h z).1 (List.mem_cons_of_mem _ hz)) with e | e
      · have := ha.1 z hz; omega
      · exact e
    · intro hz
      rcases List.mem_cons.1 ((h z).2 (List.mem_cons_of_mem _ hz)) with e | e
      · have := hb.1 z hz; omega
      · exact e
def PP : List Int := [0, 2, 3, 5, 7, 11, 13, 17, 19, 23, 29]
def plOf (xs : List Int) (p : Int) : Bool := p == 0 || (p == 2 || xs.any (fun x => x % p == 0))
/-- The places of a list of small numbers. -/
def plc (xs : List Int) : List Int := PP.filter (plOf xs)
theorem PP_sorted : PP.Pairwise (· < ·) := by unfold PP; decide
theorem PP_plc {p : Int} (h : p ∈ PP) : Plc p := by
  have : ∀ p ∈ PP, placeOk p = true := by decide +kernel
  exact placeOk_iff.1 (this p h)
theorem PP_prime {p : Int} (h : PrimeL p) (h30 : p ≤ 30) : p ∈ PP := by
  have t : ∀ p ∈ List.range 31, 2 ≤ p → placeOk (p : Int) = true → (p : Int) ∈ PP := by decide +kernel
  have h2 := h.1
  have hp : Plc p := by
    rcases Int.lt_or_eq_of_le h2 with h3 | h3
    · exact Or.inr (Or.inr ⟨h, by omega, by omega⟩)
    · exact Or.inr (Or.inl h3.symm)
  have := t p.toNat (by rw [List.mem_range]; omega) (by omega) (by rw [Int.toNat_of_nonneg (by omega)]; exact placeOk_iff.2 hp)
  rwa [Int.toNat_of_nonneg (by omega)] at this
theorem plc_mem {xs : List Int} {p : Int} : p ∈ plc xs ↔ p ∈ PP ∧ (p = 0 ∨ p = 2 ∨ ∃ x ∈ xs, p ∣ x) := by
  unfold plc plOf
  rw [List.mem_filter]
  simp only [Bool.or_eq_true, beq_iff_eq, List.any_eq_true]
  simp only [Int.dvd_iff_emod_eq_zero]
theorem plc_plc {xs : List Int} {p : Int} (h : p ∈ plc xs) : Plc p := PP_plc (plc_mem.1 h).1
theorem plc_sorted (xs : List Int) : (plc xs).Pairwise (· < ·) := PP_sorted.filter _
theorem prime_sm {q x : Int} (hq : PrimeL q) (hx : Sm x) (h : q ∣ x) : q ∈ PP ∧ 2 ≤ q := by
  have : q.natAbs ≤ x.natAbs := Nat.le_of_dvd (by have := hx.1; omega) (Int.natAbs_dvd_natAbs.2 h)
  have := hx.2; have := hq.1
  exact ⟨PP_prime hq (by omega), hq.1⟩
/-- The program's places: primes one behind the other, sorted. -/
def addP : List Int → List Int → List Int
  | out, [] => out
  | out, q :: qs => addP (if out.contains q then out else out ++ [q]) qs
def addAll : List Int → List Int → List Int
  | out, [] => out
  | out, x :: xs => addAll (addP out (primes x)) xs
theorem addP_spec : ∀ (qs out : List Int), out.Nodup → (addP out qs).Nodup ∧ (∀ y, y ∈ addP out qs ↔ y ∈ out ∨ y ∈ qs) ∧ (addP out qs).length ≤ out.length + qs.length
  | [], out, h => ⟨h, by simp [addP], by simp [addP]⟩
  | q :: qs, out, h => by
    simp only [addP]
    by_cases c : out.contains q = true
    · rw [if_pos c]
      obtain ⟨h1, h2, h3⟩ := addP_spec qs out h
      refine ⟨h1, fun y => ?_, by simp only [List.length_cons]; omega⟩
      rw [h2, List.mem_cons]
      have hq : q ∈ out := by simpa using c
      constructor
      · rintro (e | e)
        · exact Or.inl e
        · exact Or.inr (Or.inr e)
      · rintro (e | e | e)
        · exact Or.inl e
        · exact Or.inl (e ▸ hq)
        · exact Or.inr e
    · rw [if_neg c]
      have hq : q ∉ out := by simpa using c
      obtain ⟨h1, h2, h3⟩ := addP_spec qs (out ++ [q]) (by rw [List.nodup_append]; exact ⟨h, by simp, fun a ha b hb => by rw [List.mem_singleton.1 hb]; intro e; subst e; exact hq ha⟩)
      refine ⟨h1, fun y => ?_, by rw [List.length_append] at h3; simp only [List.length_cons, List.length_nil] at h3 ⊢; omega⟩
      rw [h2, List.mem_append, List.mem_singleton, List.mem_cons, or_assoc]
theorem addAll_spec : ∀ (xs out : List Int), out.Nodup → (addAll out xs).Nodup ∧ (∀ y, y ∈ addAll out xs ↔ y ∈ out ∨ ∃ x ∈ xs, y ∈ primes x)
  | [], out, h => ⟨h, by simp [addAll]⟩
  | x :: xs, out, h => by
    simp only [addAll]
    obtain ⟨h1, h2, _⟩ := addP_spec (primes x) out h
    obtain ⟨h3, h4⟩ := addAll_spec xs (addP out (primes x)) h1
    refine ⟨h3, fun y => ?_⟩
    rw [h4, h2]
    simp only [List.mem_cons, exists_eq_or_imp, or_assoc]
def sortI (l : List Int) : List Int := l.mergeSort fun x y => decide (x ≤ y)
theorem sortI_plc {xs : List Int} (hx : ∀ x ∈ xs, Sm x) : sortI (addAll [0, 2] xs) = plc xs := by
  obtain ⟨h1, h2⟩ := addAll_spec xs [0, 2] (by decide)
  have hperm := List.mergeSort_perm (addAll [0, 2] xs) (fun x y => decide (x ≤ y))
  have hs := List.pairwise_mergeSort (le := fun x y : Int => decide (x ≤ y)) (by intro a b c; simp only [decide_eq_true_eq]; omega) (by intro a b; simp only [Bool.or_eq_true, decide_eq_true_eq]; omega) (addAll [0, 2] xs)
  have hn : (sortI (addAll [0, 2] xs)).Nodup := hperm.nodup_iff.2 h1
  refine sorted_ext ?_ (plc_sorted xs) (fun q => ?_)
  · have := hs.and hn
    refine this.imp ?_
    intro a b h
    have h5 : a ≤ b := by simpa using h.1
    have := h.2; omega
  · show q ∈ List.mergeSort _ _ ↔ _
    rw [hperm.mem_iff, h2, plc_mem]
    constructor
    · rintro (e | ⟨x, hm, e⟩)
      · simp only [List.mem_cons, List.not_mem_nil, or_false] at e
        rcases e with e | e
        · exact ⟨by rw [e]; decide, Or.inl e⟩
        · exact ⟨by rw [e]; decide, Or.inr (Or.inl e)⟩
      · have hsx := hx x hm
        rw [primes_iff hsx.1 (sm_i hsx)] at e
        exact ⟨(prime_sm e.1 hsx e.2).1, Or.inr (Or.inr ⟨x, hm, e.2⟩)⟩
    · rintro ⟨h1, e | e | ⟨x, hm, hd2⟩⟩
      · exact Or.inl (by rw [e]; simp)
      · exact Or.inl (by rw [e]; simp)
      · have hsx := hx x hm
        rcases PP_plc h1 with e | e | e
        · exact Or.inl (by rw [e]; simp)
        · exact Or.inl (by rw [e]; simp)
        · exact Or.inr ⟨x, hm, (primes_iff hsx.1 (sm_i hsx)).2 ⟨e.1, hd2⟩⟩

end Locg

namespace Locg
open Go.RowKit Go.Proofs.YtihadpckmcebgaaW.PrintWords Go.Proofs.YtihadpckmcebgaaW.PrintMore

/-- No square but 1 divides. -/
def SqFree (c : Int) : Prop := c ≠ 0 ∧ ∀ d : Int, 2 ≤ d → ¬ d * d ∣ c
end Locg

namespace Locg
open Go.RowKit Go.Proofs.YtihadpckmcebgaaW.PrintWords Go.Proofs.YtihadpckmcebgaaW.PrintMore

end Locg

namespace Locg
open Go.RowKit Go.Proofs.YtihadpckmcebgaaW.PrintWords Go.Proofs.YtihadpckmcebgaaW.PrintMore

def bad (xs : List Int) : List Int := (plc xs).filter (fun p => !van xs p)
def vbad (xs : List Int) (t : Int) : List Int := (plc (xs ++ [t])).filter (fun p => !rep xs t p)
theorem qv_app : ∀ (xs vs : List Int) (t d : Int), xs.length = vs.length → qv (xs ++ [t]) (vs ++ [d]) = qv xs vs + t * d * d
  | [], [], t, d, _ => by simp [qv]
  | x :: xs, v :: vs, t, d, h => by
    simp only [List.cons_append, qv, qv_app xs vs t d (by simpa using h)]; omega
/-- What a form represents, it represents at each place. -/
theorem rep_zero {xs vs : List Int} {t d p : Int} (h : Plc p) (hl : xs.length = vs.length) (h4 : xs.length ≤ 4) (hx : ∀ x ∈ xs, Sm x) (ht : Sm t) (hb : ∀ v ∈ vs, v.natAbs ≤ 100000000) (hd : d.natAbs ≤ 100000000) (hd0 : d ≠ 0) (hz : qv xs vs = t * d * d) : rep xs t p = true := by
  have hz2 : qv (xs ++ [-t]) (vs ++ [d]) = 0 := by rw [qv_app xs vs (-t) d hl, hz, Int.neg_mul, Int.neg_mul]; omega
  have hv : ∃ v ∈ vs ++ [d], v ≠ 0 := ⟨d, by simp, hd0⟩
  have hl2 : (xs ++ [-t]).length = (vs ++ [d]).length := by simp [hl]
  have hx2 := sm_app hx (sm_opp ht)
  unfold rep
  by_cases c : (xs.length : Int) = 4 ∧ p ≠ 0
  · rw [if_pos c]
  · rw [if_neg c]
    by_cases c0 : p = 0
    · subst c0; exact zero_van0 hl2 hx2 hz2 hv
    · exact zero_van h hl2 (by simp; omega) hx2 (by intro v hv; rcases List.mem_append.1 hv with e | e; exact hb v e; rw [List.mem_singleton.1 e]; exact hd) hz2 hv
theorem vbad_nil {xs : List Int} {t : Int} (h : ∀ p, Plc p → rep xs t p = true) : vbad xs t = [] := by
  unfold vbad
  rw [List.filter_eq_nil_iff]
  intro p hp
  rw [h p (plc_plc hp)]; simp
end Locg

namespace Locg
open Go.RowKit Go.Proofs.YtihadpckmcebgaaW.PrintWords

/-! ### what divides all -/
def gI (a b : Int) : Int := ((Int.gcd a b : Nat) : Int)
def gcdL : List Int → Int → Int
  | [], g => g
  | x :: xs, g => gcdL xs (gI g x)
def gcdF (xs : List Int) : Int := gcdL xs 0
theorem gI_dvd (a b : Int) : gI a b ∣ a ∧ gI a b ∣ b := ⟨Int.gcd_dvd_left .., Int.gcd_dvd_right ..⟩
theorem gI_nonneg (a b : Int) : 0 ≤ gI a b := Int.natCast_nonneg _
theorem dvd_gI {c a b : Int} (ha : c ∣ a) (hb : c ∣ b) : c ∣ gI a b := Int.dvd_coe_gcd ha hb
theorem gcdL_spec : ∀ (xs : List Int) (g : Int), 0 ≤ g → 0 ≤ gcdL xs g ∧ gcdL xs g ∣ g ∧ (∀ x ∈ xs, gcdL xs g ∣ x) ∧ ∀ c : Int, c ∣ g → (∀ x ∈ xs, c ∣ x) → c ∣ gcdL xs g
  | [], g, hg => ⟨hg, Int.dvd_refl _, by simp, fun c h _ => h⟩
  | x :: xs, g, hg => by
    obtain ⟨h1, h2, h3, h4⟩ := gcdL_spec xs (gI g x) (gI_nonneg _ _)
    simp only [gcdL]
    refine ⟨h1, Int.dvd_trans h2 (gI_dvd _ _).1, ?_, ?_⟩
    · intro y hy
      rcases List.mem_cons.1 hy with rfl | hy
      · exact Int.dvd_trans h2 (gI_dvd _ _).2
      · exact h3 y hy
    · intro c hc hx
      exact h4 c (dvd_gI hc (hx x (by simp))) (fun y hy => hx y (by simp [hy]))
theorem gcdF_spec (xs : List Int) : 0 ≤ gcdF xs ∧ (∀ x ∈ xs, gcdF xs ∣ x) ∧ ∀ c : Int, (∀ x ∈ xs, c ∣ x) → c ∣ gcdF xs := by
  obtain ⟨h1, _, h3, h4⟩ := gcdL_spec xs 0 (by omega)
  exact ⟨h1, h3, fun c h => h4 c (Int.dvd_zero _) h⟩
theorem gcdF_ne {xs : List Int} (h : ∃ x ∈ xs, x ≠ 0) : gcdF xs ≠ 0 := by
  obtain ⟨x, hx, h0⟩ := h
  intro e
  have := (gcdF_spec xs).2.1 x hx
  rw [e] at this
  exact h0 (Int.zero_dvd.1 this)
theorem dvd_anti {a b : Int} (ha : 0 ≤ a) (hb : 0 ≤ b) (h : a ∣ b) (h' : b ∣ a) : a = b := by
  have := Int.natAbs_dvd_natAbs.2 h
  have := Int.natAbs_dvd_natAbs.2 h'
  have := Nat.dvd_antisymm ‹a.natAbs ∣ b.natAbs› ‹_›
  omega
/-! ### plain vectors -/
def signF : List Int → Int → Int
  | [], d => d
  | x :: xs, d => if x = 0 then signF xs d else if x < 0 then -d else d
def plainF (xs : List Int) : List Int := xs.map fun x => x.tdiv (signF xs (gcdF xs))
theorem signF_or : ∀ (xs : List Int) (d : Int), signF xs d = d ∨ signF xs d = -d
  | [], d => .inl rfl
  | x :: xs, d => by
    simp only [signF]
    split
    · exact signF_or xs d
    · split
      · exact .inr rfl
      · exact .inl rfl
theorem signF_ne {xs : List Int} (h : ∃ x ∈ xs, x ≠ 0) : signF xs (gcdF xs) ≠ 0 := by
  have := gcdF_ne h
  rcases signF_or xs (gcdF xs) with e | e <;> rw [e] <;> omega
theorem plain_len (xs : List Int) : (plainF xs).length = xs.length := by simp [plainF]
theorem tdiv_small {x d : Int} : (x.tdiv d).natAbs ≤ x.natAbs := by
  rw [Int.natAbs_tdiv]; exact Nat.div_le_self _ _
/-! ### normal terms -/
structure NI (A B C : Int) (M : Nat) (l a b c x y z : Int) : Prop where
  sa : SqFree a
  sb : SqFree b
  sc : SqFree c
  hx : 1 ≤ x
  hy : 1 ≤ y
  hz : 1 ≤ z
  hl : 1 ≤ l
  ea : A * (x * x) = l * a
  eb : B * (y * y) = l * b
  ec : C * (z * z) = l * c
  hm : (l * (a * b * c)).natAbs ≤ M
theorem NI.swap {A B C l a b c x y z : Int} {M : Nat} (h : NI A B C M l a b c x y z) : NI A C B M l a c b x z y :=
  ⟨h.sa, h.sc, h.sb, h.hx, h.hz, h.hy, h.hl, h.ea, h.ec, h.eb, by have := h.hm; rw [show a * c * b = a * b * c by grind]; exact this⟩
theorem NI.turn {A B C l a b c x y z : Int} {M : Nat} (h : NI A B C M l a b c x y z) : NI B C A M l b c a y z x :=
  ⟨h.sb, h.sc, h.sa, h.hy, h.hz, h.hx, h.hl, h.eb, h.ec, h.ea, by have := h.hm; rw [show b * c * a = a * b * c by grind]; exact this⟩
theorem NI.bd {A B C l a b c x y z : Int} {M : Nat} (h : NI A B C M l a b c x y z) : a.natAbs ≤ M ∧ x * x ≤ (M : Int) ∧ (a * b * c).natAbs ≤ M ∧ (b * c).natAbs ≤ M ∧ (a * c).natAbs ≤ M := by
  have hm := h.hm
  have l1 := h.hl
  have a0 := h.sa.1
  have b0 := h.sb.1
  have c0 := h.sc.1
  have e1 : (l * (a * b * c)).natAbs = (l * a).natAbs * (b * c).natAbs := by rw [← Int.natAbs_mul]; congr 1; grind
  have bc : 1 ≤ (b * c).natAbs := by have := Int.mul_ne_zero b0 c0; omega
  have la : (l * a).natAbs ≤ M := Nat.le_trans (Nat.le_mul_of_pos_right (l * a).natAbs bc) (by rw [← e1]; exact hm)
  have e2 : (l * a).natAbs = l.natAbs * a.natAbs := Int.natAbs_mul _ _
  have ha : a.natAbs ≤ (l * a).natAbs := by rw [e2]; exact Nat.le_mul_of_pos_left _ (by omega)
  have hA : A ≠ 0 := fun e => by
    have := h.ea
    rw [e, Int.zero_mul] at this
    exact absurd this.symm (Int.mul_ne_zero (by omega) a0)
  have hx : (x * x).natAbs ≤ (l * a).natAbs := by
    rw [← h.ea, Int.natAbs_mul A]; exact Nat.le_mul_of_pos_left _ (by omega)
  have hq := sq_nonneg x
  have e3 : (l * (a * b * c)).natAbs = l.natAbs * (a * b * c).natAbs := Int.natAbs_mul _ _
  have h3 : (a * b * c).natAbs ≤ M := by have := Nat.le_mul_of_pos_left (a * b * c).natAbs (show 0 < l.natAbs by omega); omega
  refine ⟨by omega, by omega, h3, ?_, ?_⟩
  · have : (a * b * c).natAbs = a.natAbs * (b * c).natAbs := by rw [← Int.natAbs_mul]; congr 1; grind
    have := Nat.le_mul_of_pos_left (b * c).natAbs (show 0 < a.natAbs by omega)
    omega
  · have : (a * b * c).natAbs = b.natAbs * (a * c).natAbs := by rw [← Int.natAbs_mul]; congr 1; grind
    have := Nat.le_mul_of_pos_left (a * c).natAbs (show 0 < b.natAbs by omega)
    omega
end Locg
