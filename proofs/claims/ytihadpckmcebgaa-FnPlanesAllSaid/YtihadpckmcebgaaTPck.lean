/- Plain arithmetic: a mixture of bytes that does not stay at one rest for ever. -/
import Derived.Test.YtihadpckmcebgaaTNum
set_option linter.unusedVariables false
set_option linter.unusedSimpArgs false
namespace Locg
open Go.RowKit Go.Proofs.YtihadpckmcebgaaW.PrintWords

def yx (x : Nat) : Nat := x ^^^ (x / 64)
def v2 : Nat → Nat → Nat
  | 0, _ => 0
  | d + 1, s => if s % 2 = 0 then v2 d (s / 2) + 1 else 0
def stepN (n : Nat) : Nat := 116 * n + 212
def chk (n : Nat) : Bool :=
  let s := stepN n
  let v := v2 20 s
  Nat.ble v 20 && (s == 2 ^ v * (s / 2 ^ v) && ((s / 2 ^ v) % 2 == 1 && (List.range (2 ^ v)).all fun L => (List.range 100).any fun j => Nat.ble (L + s * j + 1) 16777216 && !(yx (L + s * j) % 40 == yx L % 40)))
theorem chk_all : ∀ n ∈ List.range 2001, chk n = true := by decide +kernel
/-- An odd number's multiples reach each rest of a power of 2. -/
theorem odd_hits (o a : Nat) (ho : o % 2 = 1) : ∀ n : Nat, ∃ j, j < 2 ^ n ∧ (a + o * j) % 2 ^ n = 0
  | 0 => ⟨0, by simp, by simp [Nat.mod_one]⟩
  | n + 1 => by
    obtain ⟨j, hj, h⟩ := odd_hits o a ho n
    obtain ⟨c, hc⟩ := Nat.dvd_of_mod_eq_zero h
    have hp : 0 < 2 ^ n := Nat.pow_pos (by omega)
    rcases Nat.mod_two_eq_zero_or_one c with hc2 | hc2
    · refine ⟨j, by rw [Nat.pow_succ]; omega, ?_⟩
      rw [hc, Nat.pow_succ]
      apply Nat.mod_eq_zero_of_dvd
      exact Nat.mul_dvd_mul_left _ (Nat.dvd_of_mod_eq_zero hc2)
    · refine ⟨j + 2 ^ n, by rw [Nat.pow_succ]; omega, ?_⟩
      have e : a + o * (j + 2 ^ n) = 2 ^ n * (c + o) := by rw [Nat.mul_add, ← Nat.add_assoc, hc, Nat.mul_add, Nat.mul_comm o]
      rw [e, Nat.pow_succ]
      apply Nat.mod_eq_zero_of_dvd
      exact Nat.mul_dvd_mul_left _ (Nat.dvd_of_mod_eq_zero (by omega))
theorem xor_split (a b c d i : Nat) (hb : b < 2 ^ i) (hd : d < 2 ^ i) : (2 ^ i * a + b) ^^^ (2 ^ i * c + d) = 2 ^ i * (a ^^^ c) + (b ^^^ d) := by
  apply Nat.eq_of_testBit_eq
  intro j
  rw [Nat.testBit_xor, Nat.testBit_two_pow_mul_add a hb, Nat.testBit_two_pow_mul_add c hd, Nat.testBit_two_pow_mul_add _ (Nat.xor_lt_two_pow hb hd)]
  split
  · rw [Nat.testBit_xor]
  · rw [Nat.testBit_xor]
theorem yx_split (H low : Nat) (h : low < 2 ^ 24) : yx (2 ^ 30 * H + low) = 2 ^ 24 * ((64 * H) ^^^ H) + yx low := by
  unfold yx
  have e1 : 2 ^ 30 * H + low = 2 ^ 24 * (64 * H) + low := by omega
  have e2 : (2 ^ 30 * H + low) / 64 = 2 ^ 24 * H + low / 64 := by omega
  rw [e2, e1]
  exact xor_split _ _ _ _ 24 h (by omega)
/-- Somewhere along the steps the rest is not 1. -/
theorem not_stay (n x0 : Nat) (hn : n ≤ 2000) : ∃ j, j < 2 ^ 31 ∧ yx (x0 + stepN n * j) % 40 ≠ 1 := by
  have hc := chk_all n (by rw [List.mem_range]; omega)
  unfold chk at hc
  simp only [Bool.and_eq_true, beq_iff_eq, List.all_eq_true, List.any_eq_true, List.mem_range, Nat.ble_eq, Bool.not_eq_true', beq_eq_false_iff_ne] at hc
  obtain ⟨hv, hs, ho, hL⟩ := hc
  have hsn : stepN n ≤ 232212 := by unfold stepN; omega
  generalize stepN n = s at *
  generalize v2 20 s = v at *
  generalize s / 2 ^ v = o at *
  have hp : 0 < 2 ^ v := Nat.pow_pos (by omega)
  obtain ⟨j1, hj1, h1⟩ := odd_hits o (x0 / 2 ^ v) ho (30 - v)
  obtain ⟨H, hH⟩ := Nat.dvd_of_mod_eq_zero h1
  have hLlt := Nat.mod_lt x0 hp
  obtain ⟨j0, hj0, hb, hne⟩ := hL (x0 % 2 ^ v) hLlt
  have hpow : 2 ^ v * 2 ^ (30 - v) = 2 ^ 30 := by rw [← Nat.pow_add]; congr 1; omega
  have hj1' : j1 < 2 ^ 30 := Nat.lt_of_lt_of_le hj1 (Nat.pow_le_pow_right (by omega) (by omega))
  have ex : x0 + s * j1 = 2 ^ 30 * H + x0 % 2 ^ v := by
    have hx := Nat.div_add_mod x0 (2 ^ v)
    have : x0 + s * j1 = 2 ^ v * (x0 / 2 ^ v + o * j1) + x0 % 2 ^ v := by
      rw [hs, Nat.mul_add, Nat.mul_assoc]; omega
    rw [this, hH, ← Nat.mul_assoc, hpow]
  have hlow : x0 % 2 ^ v < 2 ^ 24 := by omega
  apply Classical.byContradiction
  intro hno
  have key : ∀ j, j < 2 ^ 31 → yx (x0 + s * j) % 40 = 1 := by
    intro j hj
    apply Classical.byContradiction
    intro h
    exact hno ⟨j, hj, h⟩
  have k1 := key j1 (by omega)
  have k2 := key (j1 + j0) (by omega)
  rw [ex, yx_split _ _ hlow] at k1
  rw [Nat.mul_add, ← Nat.add_assoc, ex, Nat.add_assoc, yx_split _ _ (by omega)] at k2
  omega
end Locg
