/- Plain arithmetic: classes of two numbers and of their sum. -/
import Derived.Test.YtihadpckmcebgaaTRep
set_option linter.unusedVariables false
set_option linter.unusedSimpArgs false
namespace Locg
open Go.RowKit Go.Proofs.YtihadpckmcebgaaW.PrintWords Go.Proofs.YtihadpckmcebgaaW.PrintMore

theorem res_congr {p u v : Int} (h : u % p = v % p) : res p u = res p v := by unfold res; rw [h]
/-- A number near another one, by a great power of the prime, is of its class. -/
theorem code_near {p A C m : Int} (h : p = 2 ∨ OddP p) (hA : A ≠ 0) (hA' : A.natAbs < 2 ^ 63) (hC' : C.natAbs < 2 ^ 63)
    (e : C = A + p ^ ((val p A).toNat + (if p = 2 then 3 else 1)) * m) : code p C = code p A := by
  have hp := P7_bd h
  obtain ⟨a1, a2, a3, a4, a5, _⟩ := val_spec hp hA hA'
  have key : ∀ M : Int, C = p ^ (val p A).toNat * (unit p A + p * M) → val p C = val p A ∧ unit p C = unit p A + p * M := by
    intro M hM
    have hn : (unit p A + p * M).tmod p ≠ 0 := by
      intro h0
      have h1 := Int.dvd_of_tmod_eq_zero h0
      have h2 : p ∣ unit p A := by
        have := Int.dvd_sub h1 (Int.dvd_mul_right p M)
        rwa [Int.add_sub_cancel] at this
      exact a2 (Int.tmod_eq_zero_of_dvd h2)
    have := val_pow hp hn (val p A).toNat (by rw [← hM]; exact hC')
    rw [← hM] at this
    exact ⟨by rw [this.1]; omega, this.2⟩
  rcases h with rfl | h
  · obtain ⟨k1, k2⟩ := key (4 * m) (by rw [e]; simp only [if_true]; rw [Int.pow_add, Int.mul_add, ← a1]; grind)
    unfold code
    simp only [show ¬ (2 : Int) = 0 from by omega, if_false, if_true, k1, k2]
    rw [show (unit 2 A + 2 * (4 * m)) % 8 = unit 2 A % 8 by omega]
  · have h3 := h.2.1
    have c0 : ¬ p = 0 := by omega
    have c2 : ¬ p = 2 := by omega
    obtain ⟨k1, k2⟩ := key m (by rw [e, if_neg c2, Int.pow_add, Int.pow_one, Int.mul_add, ← a1]; grind)
    unfold code
    simp only [if_neg c0, if_neg c2, k1, k2]
    rw [res_congr (u := unit p A + p * m) (v := unit p A) (Int.add_mul_emod_self_left _ _ _)]
theorem xor_in {p : Int} {c d : Nat} (hc : c ∈ List.range (nC p)) (hd : d ∈ List.range (nC p)) : c ^^^ d ∈ List.range (nC p) := by
  unfold nC at hc hd ⊢
  rw [List.mem_range] at hc hd ⊢
  split at hc
  · rw [if_pos ‹_›] at hd ⊢; exact Nat.xor_lt_two_pow (n := 3) hc hd
  · rw [if_neg ‹_›] at hd ⊢; exact Nat.xor_lt_two_pow (n := 2) hc hd
theorem opp_t : ∀ p ∈ K4, p ≠ 0 → ∀ c ∈ List.range (nC p), symC p c (mC p ^^^ c) = 1 := by decide +kernel
theorem opp_tab {p : Int} (h : Plc p) (h0 : p ≠ 0) {c : Nat} (hc : c ∈ List.range (nC p)) : symC p c (mC p ^^^ c) = 1 := by
  rw [nC_kd h] at hc; rw [symC_kd h, mC_kd h]; exact opp_t _ (kd_mem p) (fun e => h0 ((kd_zero h).1 e)) c hc
theorem sum2_t : ∀ i ∈ List.range 2, ∀ u ∈ [1, 3, 5, 7], ∀ v ∈ [1, 3, 5, 7], ∀ d ∈ [1, 2],
    symC 2 ((4 * i + u / 2) ^^^ (4 * i + (u + 2 ^ d * v) % 8 / 2)) ((4 * ((i + d) % 2) + v / 2) ^^^ (4 * i + (u + 2 ^ d * v) % 8 / 2)) = 1 := by decide +kernel
theorem sum2_t' : ∀ i ∈ List.range 2, ∀ u ∈ [1, 3, 5, 7], ∀ w ∈ [1, 3, 5, 7], ∀ d ∈ [1, 2],
    symC 2 ((4 * i + u / 2) ^^^ (4 * ((i + d) % 2) + w / 2)) ((4 * i + (2 ^ d * w + (8 - u)) % 8 / 2) ^^^ (4 * ((i + d) % 2) + w / 2)) = 1 := by decide +kernel
theorem odd_low_t : ∀ p ∈ K4, p ≠ 0 → p ≠ 2 → ∀ c ∈ List.range 2, ∀ d ∈ List.range 2, symC p c d = 1 := by decide +kernel
theorem xor_low : ∀ i ∈ List.range 2, ∀ c ∈ List.range 2, ∀ d ∈ List.range 2, (2 * i + c) ^^^ (2 * i + d) ∈ List.range 2 := by decide +kernel
theorem pow_split {p : Int} {a b : Nat} (h : a ≤ b) : p ^ b = p ^ a * p ^ (b - a) := by rw [← Int.pow_add]; congr 1; omega
/-- Two numbers and their sum, one of the first two much less divisible. -/
theorem add_far {p A B C : Int} (h : p = 2 ∨ OddP p) (hA : A ≠ 0) (hB : B ≠ 0) (hA' : A.natAbs < 2 ^ 63) (hB' : B.natAbs < 2 ^ 63) (hC' : C.natAbs < 2 ^ 63) (e : A + B = C)
    (hv : (val p A).toNat + (if p = 2 then 3 else 1) ≤ (val p B).toNat) : code p C = code p A := by
  have hp := P7_bd h
  obtain ⟨b1, _⟩ := val_spec hp hB hB'
  refine code_near h hA hA' hC' (m := p ^ ((val p B).toNat - ((val p A).toNat + (if p = 2 then 3 else 1))) * unit p B) ?_
  rw [← Int.mul_assoc, ← pow_split hv, ← b1, e]
/-- The lesser power of two equal ones. -/
theorem add_low {p A B C : Int} (h : p = 2 ∨ OddP p) (hA : A ≠ 0) (hB : B ≠ 0) (hC : C ≠ 0) (hA' : A.natAbs < 2 ^ 63) (hB' : B.natAbs < 2 ^ 63) (hC' : C.natAbs < 2 ^ 63) (e : A + B = C)
    (hv : (val p A).toNat = (val p B).toNat) : (val p A).toNat ≤ (val p C).toNat := by
  have hp := P7_bd h
  obtain ⟨a1, a2, _⟩ := val_spec hp hA hA'
  obtain ⟨b1, b2, _⟩ := val_spec hp hB hB'
  obtain ⟨c1, c2, c3, _⟩ := val_spec hp hC hC'
  rcases Nat.lt_or_ge (val p C).toNat (val p A).toNat with hlt | hge
  · exfalso
    generalize (val p C).toNat = k at c1 hlt
    generalize hw : unit p C = w at c1 c2
    have e0 : p ^ (val p A).toNat = p ^ k * p * p ^ ((val p A).toNat - (k + 1)) := by rw [← Int.pow_succ, ← Int.pow_add]; congr 1; omega
    have e1 : p ^ k * w = p ^ k * (p * (p ^ ((val p A).toNat - (k + 1)) * (unit p A + unit p B))) := by
      rw [← c1, ← e]
      conv => lhs; rw [a1, b1, ← hv, ← Int.mul_add, e0]
      simp only [Int.mul_assoc]
    have hpos : p ^ k ≠ 0 := by have := Int.pow_pos (n := p) (m := k) (by omega); omega
    have e2 := Int.eq_of_mul_eq_mul_left hpos e1
    exact c2 (by rw [e2]; exact Int.mul_tmod_right _ _)
  · exact hge
theorem code_bit {p : Int} (h : OddP p) (n : Int) : ∃ b ∈ List.range 2, code p n = 2 * par (val p n) + b := by
  have h3 := h.2.1
  have c2 : ¬ p = 2 := by omega
  have c0 : ¬ p = 0 := by omega
  unfold code
  simp only [if_neg c0, if_neg c2]
  by_cases c : res p (unit p n) = 1
  · exact ⟨0, by simp, by rw [if_pos c]⟩
  · exact ⟨1, by simp, by rw [if_neg c]⟩
theorem add_same {p A B C : Int} (h : OddP p) (eb : val p B = val p A) (ec : val p C = val p A) : symC p (code p A ^^^ code p C) (code p B ^^^ code p C) = 1 := by
  have hP : Plc p := Or.inr (Or.inr h)
  have h3 := h.2.1
  obtain ⟨x, hx, ex⟩ := code_bit h A
  obtain ⟨y, hy, ey⟩ := code_bit h B
  obtain ⟨z, hz, ez⟩ := code_bit h C
  have hpar := par_cases (val p A)
  have hi : par (val p A) ∈ List.range 2 := by rw [List.mem_range]; omega
  rw [eb] at ey
  rw [ec] at ez
  generalize par (val p A) = i at hi ex ey ez
  have q1 := xor_low i hi x hx z hz
  have q2 := xor_low i hi y hy z hz
  rw [ex, ey, ez, symC_kd hP]
  refine odd_low_t (kd p) (kd_mem p) (fun q => ?_) (fun q => ?_) _ q1 _ q2
  · have := (kd_zero hP).1 q; omega
  · have := (kd_two hP).1 q; omega
theorem val_opp {p A : Int} (hp : 2 ≤ p) (hA : A ≠ 0) (hA' : A.natAbs < 2 ^ 63) : val p (-A) = val p A := by
  obtain ⟨a1, a2, a3, _⟩ := val_spec hp hA hA'
  have hu : (-(unit p A)).tmod p ≠ 0 := by rw [Int.neg_tmod]; intro h0; exact a2 (by rw [← Int.neg_neg ((unit p A).tmod p), h0]; rfl)
  have hpe : p ^ (val p A).toNat * -(unit p A) = -A := by rw [Int.mul_neg, ← a1]
  have hm : (-A).natAbs < 2 ^ 63 := by rw [Int.natAbs_neg]; exact hA'
  have := (val_pow hp hu (val p A).toNat (by rw [hpe]; exact hm)).1
  rw [hpe] at this
  rw [this]; exact Int.toNat_of_nonneg a3
/-- The sum is much more divisible: opposite classes. -/
theorem add_opp {p A B C : Int} (h : p = 2 ∨ OddP p) (hA : A ≠ 0) (hB : B ≠ 0) (hC : C ≠ 0) (hA' : A.natAbs < 2 ^ 63) (hB' : B.natAbs < 2 ^ 63) (hC' : C.natAbs < 2 ^ 63) (e : A + B = C)
    (hv : (val p A).toNat + (if p = 2 then 3 else 1) ≤ (val p C).toNat) : code p B = mC p ^^^ code p A := by
  have hP : Plc p := Or.inr h
  have hm : (-A).natAbs < 2 ^ 63 := by rw [Int.natAbs_neg]; exact hA'
  have := add_far h (A := -A) (B := C) (C := B) (by omega) hC hm hC' hB' (by omega) (by rw [val_opp (P7_bd h) hA hA']; exact hv)
  rw [this, code_opp hP hA hA']
theorem toNat_inj {a b : Int} (ha : 0 ≤ a) (hb : 0 ≤ b) (h : a.toNat = b.toNat) : a = b := by omega
theorem lt_succ_lt {a b : Nat} {q : Prop} [Decidable q] (hq : ¬ q) (h : a < b) : a + (if q then 3 else 1) ≤ b := by rw [if_neg hq]; exact h
theorem add_odd {p A B C : Int} (h : OddP p) (hA : A ≠ 0) (hB : B ≠ 0) (hC : C ≠ 0) (hA' : A.natAbs < 2 ^ 63) (hB' : B.natAbs < 2 ^ 63) (hC' : C.natAbs < 2 ^ 63) (e : A + B = C) :
    symC p (code p A ^^^ code p C) (code p B ^^^ code p C) = 1 := by
  have hP : Plc p := Or.inr (Or.inr h)
  have h2 : p = 2 ∨ OddP p := Or.inr h
  have h3 := h.2.1
  have c2 : ¬ p = 2 := by omega
  have c0 : p ≠ 0 := by omega
  have iA := code_in (p := p) hA hA'
  have iB := code_in (p := p) hB hB'
  have iC := code_in (p := p) hC hC'
  rcases Nat.lt_trichotomy (val p A).toNat (val p B).toNat with hlt | heq | hgt
  · have := add_far h2 hA hB hA' hB' hC' e (lt_succ_lt c2 (by assumption))
    rw [this, Nat.xor_self]; exact (symC_one hP (xor_in iB iA)).1
  · have hlow := add_low h2 hA hB hC hA' hB' hC' e heq
    rcases Nat.lt_or_ge (val p A).toNat (val p C).toNat with hk | hk
    · have e2 := add_opp h2 hA hB hC hA' hB' hC' e (lt_succ_lt c2 hk)
      rw [e2, Nat.xor_assoc]
      exact opp_tab hP c0 (xor_in iA iC)
    · obtain ⟨_, a2, a3, _⟩ := val_spec (p := p) (by omega) hA hA'
      obtain ⟨_, b2, b3, _⟩ := val_spec (p := p) (by omega) hB hB'
      obtain ⟨_, d2, d3, _⟩ := val_spec (p := p) (by omega) hC hC'
      exact add_same h (toNat_inj b3 a3 heq.symm) (toNat_inj d3 a3 (Nat.le_antisymm hk hlow))
  · have := add_far h2 hB hA hB' hA' hC' (by rw [Int.add_comm]; exact e) (lt_succ_lt c2 (by assumption))
    rw [this, Nat.xor_self]; exact (symC_one hP (xor_in iA iB)).2

theorem code_two (n : Int) : code 2 n = 4 * par (val 2 n) + (unit 2 n % 8).toNat / 2 := by unfold code; simp
theorem par_nat {x : Int} (h : 0 ≤ x) : par x = x.toNat % 2 := by unfold par; omega
theorem mod8_in {u : Int} (h : u % 8 = 1 ∨ u % 8 = 3 ∨ u % 8 = 5 ∨ u % 8 = 7) : (u % 8).toNat ∈ [1, 3, 5, 7] := by
  rcases h with h | h | h | h <;> rw [h] <;> decide
theorem two_units {i j : Nat} {u v w : Int} (h : 2 ^ i * u + 2 ^ j * v = 2 ^ i * w) (hij : i ≤ j) : w = u + 2 ^ (j - i) * v := by
  have hpos : (2 : Int) ^ i ≠ 0 := by have := Int.pow_pos (n := 2) (m := i) (by omega); omega
  have e : (2 : Int) ^ j = 2 ^ i * 2 ^ (j - i) := pow_split hij
  rw [e, Int.mul_assoc, ← Int.mul_add] at h
  exact (Int.eq_of_mul_eq_mul_left hpos h).symm
/-- The valuation of a sum of two of different valuations. -/
theorem val_sum {A B C : Int} (hA : A ≠ 0) (hB : B ≠ 0) (hC : C ≠ 0) (hA' : A.natAbs < 2 ^ 63) (hB' : B.natAbs < 2 ^ 63) (hC' : C.natAbs < 2 ^ 63) (e : A + B = C) (hlt : (val 2 A).toNat < (val 2 B).toNat) :
    val 2 C = val 2 A ∧ unit 2 C = unit 2 A + 2 ^ ((val 2 B).toNat - (val 2 A).toNat) * unit 2 B := by
  obtain ⟨a1, a2, a3, _⟩ := val_spec (p := 2) (by omega) hA hA'
  obtain ⟨b1, b2, b3, _⟩ := val_spec (p := 2) (by omega) hB hB'
  generalize hi : (val 2 A).toNat = i at a1 hlt
  generalize hj : (val 2 B).toNat = j at b1 hlt
  generalize unit 2 A = u at a1 a2
  generalize unit 2 B = v at b1
  have e1 : C = 2 ^ i * (u + 2 ^ (j - i) * v) := by
    rw [Int.mul_add, ← Int.mul_assoc, ← pow_split (by omega), ← a1, ← b1]; exact e.symm
  have hn : (u + 2 ^ (j - i) * v).tmod 2 ≠ 0 := by
    intro h0
    have h1 := Int.dvd_of_tmod_eq_zero h0
    have h2 : (2 : Int) ∣ 2 ^ (j - i) * v := by
      obtain ⟨m, hm⟩ : ∃ m, j - i = m + 1 := ⟨j - i - 1, by omega⟩
      rw [hm, Int.pow_succ, Int.mul_comm (2 ^ m) 2, Int.mul_assoc]; exact Int.dvd_mul_right _ _
    have := Int.dvd_sub h1 h2
    rw [Int.add_sub_cancel] at this
    exact a2 (Int.tmod_eq_zero_of_dvd this)
  have := val_pow (p := 2) (by omega) hn i (by rw [← e1]; exact hC')
  rw [← e1] at this
  refine ⟨?_, this.2⟩
  rw [this.1, ← hi]; exact Int.toNat_of_nonneg a3
theorem pow12 {d : Nat} (h : d = 1 ∨ d = 2) {u v : Int} (hu : u % 8 = 1 ∨ u % 8 = 3 ∨ u % 8 = 5 ∨ u % 8 = 7) (hv : v % 8 = 1 ∨ v % 8 = 3 ∨ v % 8 = 5 ∨ v % 8 = 7) :
    ((u + 2 ^ d * v) % 8).toNat = ((u % 8).toNat + 2 ^ d * (v % 8).toNat) % 8 ∧ ((2 ^ d * v - u) % 8).toNat = (2 ^ d * (v % 8).toNat + (8 - (u % 8).toNat)) % 8 := by
  rcases h with rfl | rfl
  · have : (2 : Int) ^ 1 = 2 := rfl
    rw [this]
    rcases hu with h | h | h | h <;> rcases hv with h' | h' | h' | h' <;> omega
  · have : (2 : Int) ^ 2 = 4 := rfl
    rw [this]
    rcases hu with h | h | h | h <;> rcases hv with h' | h' | h' | h' <;> omega
theorem add_two_lt {A B C : Int} (hA : A ≠ 0) (hB : B ≠ 0) (hC : C ≠ 0) (hA' : A.natAbs < 2 ^ 63) (hB' : B.natAbs < 2 ^ 63) (hC' : C.natAbs < 2 ^ 63) (e : A + B = C) (hlt : (val 2 A).toNat < (val 2 B).toNat) :
    symC 2 (code 2 A ^^^ code 2 C) (code 2 B ^^^ code 2 C) = 1 := by
  have hP : Plc 2 := Or.inr (Or.inl rfl)
  have iA := code_in (p := 2) hA hA'
  have iB := code_in (p := 2) hB hB'
  by_cases far : (val 2 A).toNat + 3 ≤ (val 2 B).toNat
  · have := add_far (p := 2) (Or.inl rfl) hA hB hA' hB' hC' e (by rw [if_pos rfl]; exact far)
    rw [this, Nat.xor_self]; exact (symC_one hP (xor_in iB iA)).1
  · obtain ⟨v1, v2⟩ := val_sum hA hB hC hA' hB' hC' e hlt
    obtain ⟨_, _, a3, _⟩ := val_spec (p := 2) (by omega) hA hA'
    obtain ⟨_, _, b3, _⟩ := val_spec (p := 2) (by omega) hB hB'
    have uA := unit2 hA hA'
    have uB := unit2 hB hB'
    rw [code_two A, code_two B, code_two C, v1, v2, par_nat a3, par_nat b3]
    generalize (val 2 A).toNat = i at hlt far
    generalize (val 2 B).toNat = j at hlt far
    generalize unit 2 A = u at uA
    generalize unit 2 B = v at uB
    have hd : j - i = 1 ∨ j - i = 2 := by omega
    rw [(pow12 hd uA uB).1]
    have t := sum2_t (i % 2) (by rw [List.mem_range]; omega) _ (mod8_in uA) _ (mod8_in uB) (j - i) (by rcases hd with h | h <;> rw [h] <;> decide)
    rw [show (i % 2 + (j - i)) % 2 = j % 2 by omega] at t
    exact t
theorem add_two {A B C : Int} (hA : A ≠ 0) (hB : B ≠ 0) (hC : C ≠ 0) (hA' : A.natAbs < 2 ^ 63) (hB' : B.natAbs < 2 ^ 63) (hC' : C.natAbs < 2 ^ 63) (e : A + B = C) :
    symC 2 (code 2 A ^^^ code 2 C) (code 2 B ^^^ code 2 C) = 1 := by
  have hP : Plc 2 := Or.inr (Or.inl rfl)
  rcases Nat.lt_trichotomy (val 2 A).toNat (val 2 B).toNat with hlt | heq | hgt
  · exact add_two_lt hA hB hC hA' hB' hC' e hlt
  · have iA := code_in (p := 2) hA hA'
    have iC := code_in (p := 2) hC hC'
    by_cases far : (val 2 A).toNat + 3 ≤ (val 2 C).toNat
    · have e2 := add_opp (p := 2) (Or.inl rfl) hA hB hC hA' hB' hC' e (by rw [if_pos rfl]; exact far)
      rw [e2, Nat.xor_assoc]
      exact opp_tab hP (by omega) (xor_in iA iC)
    · obtain ⟨a1, a2, a3, _⟩ := val_spec (p := 2) (by omega) hA hA'
      obtain ⟨b1, b2, b3, _⟩ := val_spec (p := 2) (by omega) hB hB'
      obtain ⟨c1, c2, c3, _⟩ := val_spec (p := 2) (by omega) hC hC'
      have uA := unit2 hA hA'
      have uB := unit2 hB hB'
      have uC := unit2 hC hC'
      have hlow := add_low (p := 2) (Or.inl rfl) hA hB hC hA' hB' hC' e heq
      rw [code_two A, code_two B, code_two C, par_nat a3, par_nat b3, par_nat c3]
      rw [← heq] at b1 ⊢
      generalize (val 2 A).toNat = i at a1 b1 far hlow
      generalize (val 2 C).toNat = k at c1 far hlow
      generalize unit 2 A = u at a1 uA
      generalize unit 2 B = v at b1 uB
      generalize unit 2 C = w at c1 uC
      have e1 : u + v = 2 ^ (k - i) * w := by
        have hpos : (2 : Int) ^ i ≠ 0 := by have := Int.pow_pos (n := 2) (m := i) (by omega); omega
        apply Int.eq_of_mul_eq_mul_left hpos
        rw [Int.mul_add, ← a1, ← b1, ← Int.mul_assoc, ← pow_split hlow, ← c1]; exact e
      have hne : k ≠ i := by
        intro h; rw [h, Nat.sub_self, Int.pow_zero, Int.one_mul] at e1; omega
      have hd : k - i = 1 ∨ k - i = 2 := by omega
      have ev : v = 2 ^ (k - i) * w - u := by omega
      rw [ev, (pow12 hd uA uC).2]
      have t := sum2_t' (i % 2) (by rw [List.mem_range]; omega) _ (mod8_in uA) _ (mod8_in uC) (k - i) (by rcases hd with h | h <;> rw [h] <;> decide)
      rw [show (i % 2 + (k - i)) % 2 = k % 2 by omega] at t
      exact t
  · rw [symC_comm]
    exact add_two_lt hB hA hC hB' hA' hC' (by rw [Int.add_comm]; exact e) hgt
/-- Two numbers and their sum. -/
theorem add_code {p A B C : Int} (h : Plc p) (hA : A ≠ 0) (hB : B ≠ 0) (hC : C ≠ 0) (hA' : A.natAbs < 2 ^ 63) (hB' : B.natAbs < 2 ^ 63) (hC' : C.natAbs < 2 ^ 63) (e : A + B = C) :
    symC p (code p A ^^^ code p C) (code p B ^^^ code p C) = 1 := by
  rcases h with rfl | rfl | h
  · unfold symC code
    simp only [if_true]
    by_cases a : A < 0 <;> by_cases b : B < 0 <;> by_cases c : C < 0 <;> simp [a, b, c] <;> omega
  · exact add_two hA hB hC hA' hB' hC' e
  · exact add_odd h hA hB hC hA' hB' hC' e

end Locg
