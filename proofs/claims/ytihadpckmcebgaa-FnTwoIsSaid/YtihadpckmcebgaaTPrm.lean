/- Plain arithmetic: how often a number divides another one and what is left; the primes of a number by trial. -/
import Derived.Test.YtihadpckmcebgaaTNum
set_option linter.unusedVariables false
set_option linter.unusedSimpArgs false
namespace Locg
open Go.RowKit Go.Proofs.YtihadpckmcebgaaW.PrintWords Go.Proofs.YtihadpckmcebgaaW.PrintMore

/-- How often p divides n, and what is left; d: how often at most. -/
def spl (p : Int) : Nat → Int → Int × Int
  | 0, n => (0, n)
  | d + 1, n => if n.tmod p = 0 then ((spl p d (n.tdiv p)).1 + 1, (spl p d (n.tdiv p)).2) else (0, n)
def val (p n : Int) : Int := (spl p 64 n).1
def unit (p n : Int) : Int := (spl p 64 n).2

theorem tdiv_abs {n p : Int} (hp : 2 ≤ p) (hn : n ≠ 0) (h : n.tmod p = 0) : n.tdiv p ≠ 0 ∧ n = p * n.tdiv p ∧ 2 * (n.tdiv p).natAbs ≤ n.natAbs ∧ (0 < n → 0 < n.tdiv p) ∧ (n < 0 → n.tdiv p < 0) := by
  have e : n = p * n.tdiv p := by have := Int.mul_tdiv_add_tmod n p; omega
  generalize n.tdiv p = m at e
  have hm : m ≠ 0 := by intro h0; subst h0; simp at e; exact hn e
  have hk : n.natAbs = p.natAbs * m.natAbs := by rw [e, Int.natAbs_mul]
  have h2 : 2 * m.natAbs ≤ p.natAbs * m.natAbs := Nat.mul_le_mul_right _ (by omega)
  refine ⟨hm, e, by omega, fun h0 => ?_, fun h0 => ?_⟩
  · rcases Int.lt_or_le 0 m with h1 | h1
    · exact h1
    · have := Int.mul_nonneg (a := p) (b := -m) (by omega) (by omega); rw [Int.mul_neg] at this; omega
  · rcases Int.lt_or_le m 0 with h1 | h1
    · exact h1
    · have := Int.mul_nonneg (a := p) (b := m) (by omega) h1; omega

theorem spl_spec {p : Int} (hp : 2 ≤ p) : ∀ (d : Nat) (n : Int), n ≠ 0 → n.natAbs < 2 ^ d →
    n = p ^ (spl p d n).1.toNat * (spl p d n).2 ∧ (spl p d n).2.tmod p ≠ 0 ∧ 0 ≤ (spl p d n).1 ∧ (spl p d n).1 < d ∧ (spl p d n).2 ≠ 0 ∧ (spl p d n).2.natAbs ≤ n.natAbs ∧ (0 < n → 0 < (spl p d n).2) := by
  intro d
  induction d with
  | zero => intro n hn h; simp at h; omega
  | succ d ih =>
    intro n hn h
    by_cases c : n.tmod p = 0
    · obtain ⟨h0, h1, h2, h3, _⟩ := tdiv_abs hp hn c
      obtain ⟨g1, g2, g3, g4, g5, g6, g7⟩ := ih (n.tdiv p) h0 (by rw [Nat.pow_succ] at h; omega)
      simp only [spl, if_pos c]
      refine ⟨?_, g2, by omega, by omega, g5, by omega, fun h => g7 (h3 h)⟩
      rw [show ((spl p d (n.tdiv p)).1 + 1).toNat = (spl p d (n.tdiv p)).1.toNat + 1 from by omega, Int.pow_succ, Int.mul_comm (p ^ _) p, Int.mul_assoc, ← g1]
      exact h1
    · simp only [spl, if_neg c]
      refine ⟨by simp, c, by omega, by omega, hn, by omega, fun h => h⟩
/-- More rounds tell the same. -/
theorem spl_more {p : Int} (hp : 2 ≤ p) : ∀ (d : Nat) (n : Int), n ≠ 0 → n.natAbs < 2 ^ d → spl p (d + 1) n = spl p d n := by
  intro d
  induction d with
  | zero => intro n hn h; simp at h; omega
  | succ d ih =>
    intro n hn h
    by_cases c : n.tmod p = 0
    · obtain ⟨h0, h1, h2, h3, _⟩ := tdiv_abs hp hn c
      have := ih (n.tdiv p) h0 (by rw [Nat.pow_succ] at h; omega)
      simp only [spl, if_pos c] at this ⊢
      rw [this]
    · simp only [spl, if_neg c]
theorem spl_dvd {p n : Int} (d : Nat) (c : n.tmod p = 0) : spl p (d + 1) n = ((spl p d (n.tdiv p)).1 + 1, (spl p d (n.tdiv p)).2) := by simp only [spl, if_pos c]
theorem spl_not {p n : Int} (d : Nat) (c : n.tmod p ≠ 0) : spl p (d + 1) n = (0, n) := by simp only [spl, if_neg c]
theorem val_of_dvd {p n : Int} (hp : 2 ≤ p) (hn : n ≠ 0) (h : n.natAbs < 2 ^ 63) (c : n.tmod p = 0) : val p n = val p (n.tdiv p) + 1 ∧ unit p n = unit p (n.tdiv p) := by
  obtain ⟨h0, h1, h2, h3, _⟩ := tdiv_abs hp hn c
  have e := spl_more hp 63 (n.tdiv p) h0 (by omega)
  have e2 : spl p 64 n = _ := spl_dvd 63 c
  have e3 : spl p 64 (n.tdiv p) = _ := e
  unfold val unit
  rw [e2, e3]
  exact ⟨rfl, rfl⟩
theorem val_of_not {p n : Int} (c : n.tmod p ≠ 0) : val p n = 0 ∧ unit p n = n := by
  have e2 : spl p 64 n = _ := spl_not 63 c
  unfold val unit
  rw [e2]
  exact ⟨rfl, rfl⟩
theorem val_spec {p n : Int} (hp : 2 ≤ p) (hn : n ≠ 0) (h : n.natAbs < 2 ^ 63) :
    n = p ^ (val p n).toNat * unit p n ∧ (unit p n).tmod p ≠ 0 ∧ 0 ≤ val p n ∧ val p n < 64 ∧ unit p n ≠ 0 ∧ (unit p n).natAbs ≤ n.natAbs ∧ (0 < n → 0 < unit p n) :=
  spl_spec hp 64 n hn (by omega)

/-- The primes of n from p on, by trial. -/
def pl : Nat → Int → Int → List Int
  | 0, _, _ => []
  | d + 1, n, p => if p * p ≤ n then (if n.tmod p = 0 then p :: pl d (unit p n) (p + 1) else pl d n (p + 1)) else (if n > 1 then [n] else [])
def absI (n : Int) : Int := (n.natAbs : Nat)
def primes (n : Int) : List Int := pl (n.natAbs + 2) (absI n) 2
theorem pl_len : ∀ (d : Nat) (n p : Int), (pl d n p).length ≤ d
  | 0, _, _ => by simp [pl]
  | d + 1, n, p => by
    simp only [pl]
    have h1 := pl_len d (unit p n) (p + 1)
    have h2 := pl_len d n (p + 1)
    repeat' split
    all_goals simp
    all_goals omega
theorem absI_bd (n : Int) : 0 ≤ absI n := by unfold absI; omega
theorem size_ev {n : Int} (h : -9223372036854775808 < n) (h' : n ≤ 9223372036854775807) : mx n (wrap64 (-n)) = absI n := by
  rw [w64 (by omega) (by omega)]; unfold mx absI; omega
theorem pl_ge : ∀ (d : Nat) (n p : Int), 2 ≤ p → ∀ q ∈ pl d n p, 2 ≤ q
  | 0, _, _, _, q, hq => by simp [pl] at hq
  | d + 1, n, p, hp, q, hq => by
    simp only [pl] at hq
    have h1 := pl_ge d (unit p n) (p + 1) (by omega) q
    have h2 := pl_ge d n (p + 1) (by omega) q
    split at hq
    · split at hq
      · rcases List.mem_cons.1 hq with h | h
        · omega
        · exact h1 h
      · exact h2 hq
    · split at hq
      · simp at hq; omega
      · simp at hq
theorem primes_ge {n q : Int} (h : q ∈ primes n) : 2 ≤ q := pl_ge _ _ _ (by omega) q h
/-- The primes' answer to two squares. -/
def twoIsL (n : Int) : List Int → Bool
  | [] => true
  | p :: ps => if p.tmod 4 = 3 ∧ (val p n).tmod 2 = 1 then false else twoIsL n ps
def twoIs (n : Int) : Bool := if n = 0 then true else twoIsL n (primes n)
theorem primes_len (n : Int) : (primes n).length ≤ n.natAbs + 2 := pl_len _ _ _

end Locg
