/- Valuations and primes. -/
import Derived.Test.YtfhehcgefbknbaaPFnExactTwoIsx2
import Derived.Test.YtfhehcgefbknbaaPrm
set_option linter.unusedVariables false
set_option linter.unusedSimpArgs false
namespace Go.Proofs.Ytfhehcgefbknbaa.QFnExactTwoIs
open Go.RowKit Go.Proofs.Ytfhehcgefbknbaa.PFnExactTwoIs Go.Proofs.YtfhehcgefbknbaaW.PrintWords Go.Proofs.YtfhehcgefbknbaaW.PrintLast Locg

/-! ### split -/
theorem split_l {p : Int} (hp : 2 ≤ p) : ∀ (d : Nat) (n j : Int), n ≠ 0 → n.natAbs < 2 ^ d → d ≤ 63 → 0 ≤ j → j + d ≤ 1000 →
    ∀ k, d < k → impl_split.l0 k n p j = some (j + (spl p d n).1, (spl p d n).2) := by
  intro d
  induction d with
  | zero => intro n j hn h; simp at h; omega
  | succ d ih =>
    intro n j hn h hd hj hJ k hk
    obtain ⟨k, rfl⟩ : ∃ m, k = m + 1 := ⟨k - 1, by omega⟩
    simp only [impl_split.l0]
    rw [if_neg (by omega)]
    by_cases c : n.tmod p = 0
    · obtain ⟨h0, h1, h2, h3, _⟩ := tdiv_abs hp hn c
      have hlt : n.natAbs < 2 ^ 63 := Nat.lt_of_lt_of_le h (Nat.pow_le_pow_right (by omega) hd)
      rw [if_pos c, w64 (x := n.tdiv p) (by omega) (by omega), spl_dvd d c, w64 (x := j + 1) (by omega) (by omega),
        ih (n.tdiv p) (j + 1) h0 (by rw [Nat.pow_succ] at h; omega) (by omega) (by omega) (by omega) k (by omega)]
      simp only [Option.some.injEq, Prod.mk.injEq, and_true]; omega
    · rw [if_neg c, spl_not d c]
      simp
theorem split_at {n p : Int} (hp : 2 ≤ p) (hn : n ≠ 0) (h : n.natAbs < 2 ^ 63) (k : Nat) (hk : 63 < k) : impl_split.f k n p = some (val p n, unit p n) := by
  unfold impl_split.f val unit
  rw [split_l hp 63 n 0 hn h (by omega) (by omega) (by omega) k hk, ← spl_more hp 63 n hn h]
  simp
theorem split_ev {n p : Int} (hp : 2 ≤ p) (hn : n ≠ 0) (h : n.natAbs < 2 ^ 63) : Ev (fun k => impl_split.f k n p) (val p n, unit p n) := ⟨64, fun k hk => split_at hp hn h k (by omega)⟩

/-! ### valuations -/
theorem valuation_l {p : Int} (hp : 2 ≤ p) : ∀ (d : Nat) (n j : Int), n ≠ 0 → n.natAbs < 2 ^ d → d ≤ 63 → 0 ≤ j → j + d ≤ 1000 →
    ∀ k, d < k → spec_l1Valuation.l0 k n p j = some (j + (spl p d n).1, (spl p d n).2) := by
  intro d
  induction d with
  | zero => intro n j hn h; simp at h; omega
  | succ d ih =>
    intro n j hn h hd hj hJ k hk
    obtain ⟨k, rfl⟩ : ∃ m, k = m + 1 := ⟨k - 1, by omega⟩
    simp only [spec_l1Valuation.l0]
    rw [if_neg (by omega)]
    by_cases c : n.tmod p = 0
    · obtain ⟨h0, h1, h2, h3, _⟩ := tdiv_abs hp hn c
      have hlt : n.natAbs < 2 ^ 63 := Nat.lt_of_lt_of_le h (Nat.pow_le_pow_right (by omega) hd)
      rw [if_pos c, w64 (x := n.tdiv p) (by omega) (by omega), spl_dvd d c, w64 (x := j + 1) (by omega) (by omega),
        ih (n.tdiv p) (j + 1) h0 (by rw [Nat.pow_succ] at h; omega) (by omega) (by omega) (by omega) k (by omega)]
      simp only [Option.some.injEq, Prod.mk.injEq, and_true]; omega
    · rw [if_neg c, spl_not d c]
      simp
theorem valuation_at {n p : Int} (hp : 2 ≤ p) (hn : n ≠ 0) (h : n.natAbs < 2 ^ 63) (k : Nat) (hk : 63 < k) : spec_l1Valuation.f k n p = some (val p n, unit p n) := by
  unfold spec_l1Valuation.f val unit
  rw [valuation_l hp 63 n 0 hn h (by omega) (by omega) (by omega) k hk, ← spl_more hp 63 n hn h]
  simp
theorem valuation_ev {n p : Int} (hp : 2 ≤ p) (hn : n ≠ 0) (h : n.natAbs < 2 ^ 63) : Ev (fun k => spec_l1Valuation.f k n p) (val p n, unit p n) := ⟨64, fun k hk => valuation_at hp hn h k (by omega)⟩

/-! ### primes -/
theorem primesOf_l : ∀ (d : Nat) (n p : Int) (out : List Int), 0 < n → n ≤ 1000000000000 → 2 ≤ p → p ≤ 1000002 → n + 2 - p ≤ d → 1 ≤ d → out.length + d ≤ 17000000000000 →
    ∀ k, d + 64 < k → impl_primesOf.l0 k n out p = some (out ++ pl d n p) := by
  intro d
  induction d with
  | zero => intro n p out hn hN hp hP hd h1; omega
  | succ d ih =>
    intro n p out hn hN hp hP hd h1 hl k hk
    obtain ⟨k, rfl⟩ : ∃ m, k = m + 1 := ⟨k - 1, by omega⟩
    simp only [impl_primesOf.l0, pl]
    rw [wmul (a := p) (b := p) (by omega) (by omega) (by omega) (by omega)]
    by_cases c : p * p ≤ n
    · have hpn : 2 * p ≤ n := by have := Int.mul_le_mul_of_nonneg_right hp (show 0 ≤ p by omega); omega
      have hp6 : p ≤ 1000000 := le_of_sq (by omega) (by omega)
      rw [if_pos c, if_neg (by omega), if_pos c, w64 (x := p + 1) (by omega) (by omega)]
      by_cases c2 : n.tmod p = 0
      · have hv := val_spec hp (show n ≠ 0 by omega) (by omega)
        rw [if_pos c2, if_pos (by omega), split_at hp (by omega) (by omega) k (by omega), if_pos c2]
        simp only [Option.bind_some]
        rw [ih (unit p n) (p + 1) (out ++ [p]) (hv.2.2.2.2.2.2 hn) (by omega) (by omega) (by omega) (by omega) (by omega) (by simp; omega) k (by omega)]
        simp
      · rw [if_neg c2, if_neg c2]
        exact ih n (p + 1) out hn hN (by omega) (by omega) (by omega) (by omega) (by omega) k (by omega)
    · rw [if_neg c, if_neg c]
      by_cases c2 : n > 1
      · rw [if_pos c2, if_pos c2, if_pos (by omega)]
      · rw [if_neg c2, if_neg c2]; simp
theorem primesOf_ev {n : Int} (hn : n ≠ 0) (h : n.natAbs ≤ 1000000000000) : Ev (fun k => impl_primesOf.f k n) (primes n) := by
  refine ⟨n.natAbs + 67, fun k hk => ?_⟩
  simp only [impl_primesOf.f, impl_size.f, Option.bind_some]
  rw [size_ev (by omega) (by omega), primesOf_l (n.natAbs + 2) (absI n) 2 [] (by unfold absI; omega) (by unfold absI; omega) (by omega) (by omega) (by unfold absI; omega) (by omega) (by simp; omega) k (by omega)]
  rfl

/-! ### primes, of the reference -/
theorem l1Primes_in (p : Int) (hp : 2 ≤ p) (hP : p ≤ 1000001) (out : List Int) : ∀ (d : Nat) (n : Int), 0 < n → n.natAbs < 2 ^ d → d ≤ 63 →
    ∀ k, spec_l1Primes.l1 (k + d) n out p = (match k + d - (spl p d n).1.toNat with | 0 => none | m + 1 => spec_l1Primes.l0 m (spl p d n).2 out (p + 1)) := by
  intro d
  induction d with
  | zero => intro n hn h; simp at h; omega
  | succ d ih =>
    intro n hn h hd k
    have hs := spl_spec hp (d + 1) n (by omega) h
    rw [show k + (d + 1) = (k + d) + 1 from by omega]
    simp only [spec_l1Primes.l1]
    rw [if_neg (by omega)]
    by_cases c : n.tmod p = 0
    · obtain ⟨h0, h1, h2, h3, _⟩ := tdiv_abs hp (show n ≠ 0 by omega) c
      have hlt : n.natAbs < 2 ^ 63 := Nat.lt_of_lt_of_le h (Nat.pow_le_pow_right (by omega) hd)
      have h4 : (n.tdiv p).natAbs < 2 ^ d := by rw [Nat.pow_succ] at h; omega
      have hs' := spl_spec hp d (n.tdiv p) h0 h4
      rw [if_pos c, w64 (x := n.tdiv p) (by omega) (by omega), spl_dvd d c, ih (n.tdiv p) (h3 hn) h4 (by omega) k]
      simp only
      rw [show k + d + 1 - ((spl p d (n.tdiv p)).1 + 1).toNat = k + d - (spl p d (n.tdiv p)).1.toNat from by omega]
    · rw [if_neg c, spl_not d c, w64 (x := p + 1) (by omega) (by omega)]
      simp
theorem l1Primes_l : ∀ (d : Nat) (n p : Int) (out : List Int), 0 < n → n ≤ 1000000000000 → 2 ≤ p → p ≤ 1000002 → n + 2 - p ≤ d → 1 ≤ d → out.length + d ≤ 17000000000000 →
    Ev (fun k => spec_l1Primes.l0 k n out p) (out ++ pl d n p) := by
  intro d
  induction d with
  | zero => intro n p out hn hN hp hP hd h1; omega
  | succ d ih =>
    intro n p out hn hN hp hP hd h1 hl
    by_cases c : p * p ≤ n
    · have hpn : 2 * p ≤ n := by have := Int.mul_le_mul_of_nonneg_right hp (show 0 ≤ p by omega); omega
      have hp6 : p ≤ 1000000 := le_of_sq (by omega) (by omega)
      have hv := val_spec hp (show n ≠ 0 by omega) (by omega)
      have inner : ∀ o : List Int, Ev (fun k => spec_l1Primes.l0 k (unit p n) o (p + 1)) (o ++ pl d (unit p n) (p + 1)) → Ev (fun k => spec_l1Primes.j1 k n o p) (o ++ pl d (unit p n) (p + 1)) := by
        intro o ho
        obtain ⟨K, hK⟩ := ho
        refine ⟨K + 200, fun k hk => ?_⟩
        obtain ⟨k, rfl⟩ : ∃ m, k = m + 64 + 1 := ⟨k - 65, by omega⟩
        simp only [spec_l1Primes.j1]
        have e := l1Primes_in p hp (by omega) o 63 n hn (by omega) (by omega) (k + 1)
        rw [show k + 64 = k + 1 + 63 from by omega, e, ← spl_more hp 63 n (by omega) (by omega)]
        change (match k + 1 + 63 - (val p n).toNat with | 0 => none | m + 1 => spec_l1Primes.l0 m (unit p n) o (p + 1)) = _
        have hb := hv.2.2.2.1
        obtain ⟨m, hm⟩ : ∃ m, k + 1 + 63 - (val p n).toNat = m + 1 := ⟨k + 63 - (val p n).toNat, by omega⟩
        rw [hm]
        exact hK m (by omega)
      by_cases c2 : n.tmod p = 0
      · refine Ev.step (f := fun k => spec_l1Primes.j1 k n (out ++ [p]) p) (fun k => ?_) ?_
        · simp only [spec_l1Primes.l0]
          rw [wmul (a := p) (b := p) (by omega) (by omega) (by omega) (by omega), if_pos c, if_neg (by omega), if_pos c2, if_pos (by omega)]
        · have := inner (out ++ [p]) (ih (unit p n) (p + 1) (out ++ [p]) (hv.2.2.2.2.2.2 hn) (by omega) (by omega) (by omega) (by omega) (by omega) (by simp; omega))
          simp only [pl, if_pos c, if_pos c2]
          simpa using this
      · refine Ev.step (f := fun k => spec_l1Primes.j1 k n out p) (fun k => ?_) ?_
        · simp only [spec_l1Primes.l0]
          rw [wmul (a := p) (b := p) (by omega) (by omega) (by omega) (by omega), if_pos c, if_neg (by omega), if_neg c2]
        · have hu := (val_of_not c2).2
          have := inner out (by rw [hu]; exact ih n (p + 1) out hn hN (by omega) (by omega) (by omega) (by omega) (by omega))
          rw [hu] at this
          simp only [pl, if_pos c, if_neg c2]
          exact this
    · refine Ev.step (f := fun _ => some (out ++ pl (d + 1) n p)) (fun k => ?_) (Ev.now _)
      simp only [spec_l1Primes.l0, pl]
      rw [wmul (a := p) (b := p) (by omega) (by omega) (by omega) (by omega), if_neg c, if_neg c]
      by_cases c2 : n > 1
      · rw [if_pos c2, if_pos c2, if_pos (by omega)]
      · rw [if_neg c2, if_neg c2]; simp
theorem l1Primes_ev {n : Int} (hn : n ≠ 0) (h : n.natAbs ≤ 1000000000000) : Ev (fun k => spec_l1Primes.f k n) (primes n) := by
  simp only [spec_l1Primes.f, spec_l1Size.f, Option.bind_some]
  rw [size_ev (by omega) (by omega)]
  have := l1Primes_l (n.natAbs + 2) (absI n) 2 [] (by unfold absI; omega) (by unfold absI; omega) (by omega) (by omega) (by unfold absI; omega) (by omega) (by simp; omega)
  simpa [primes] using this

/-! ### TwoIs -/
theorem specTwoIs_l (n : Int) (h0 : 0 < n) (hn : n ≤ 2000) (xs : List Int) (hx : ∀ q ∈ xs, 2 ≤ q) (hl : xs.length ≤ 10000) : ∀ (d j : Nat), j + d = xs.length →
    Ev (fun k => spec_TwoIs.l0 k n xs j) (twoIsL n (xs.drop j)) := by
  intro d
  induction d with
  | zero =>
    intro j hj
    rw [List.drop_of_length_le (by omega)]
    refine Ev.step (f := fun _ => some true) (fun k => ?_) (Ev.now _)
    simp only [spec_TwoIs.l0]
    rw [if_neg (by omega)]
  | succ d ih =>
    intro j hj
    have hm := hx _ (rd_mem (xs := xs) (j := j) (by omega))
    rw [rd_drop (show j < xs.length by omega)]
    generalize hp : rd xs (j : Int) = p at hm
    refine Ev.step (f := fun k => (spec_l1Valuation.f k n p).bind fun bt => if p.tmod 4 = 3 then (if bt.1.tmod 2 = 1 then some false else spec_TwoIs.l0 k n xs ((j + 1 : Nat) : Int)) else spec_TwoIs.l0 k n xs ((j + 1 : Nat) : Int)) (fun k => ?_) ?_
    · simp only [spec_TwoIs.l0]
      rw [if_pos (by omega), if_pos (by omega), hp, w64 (x := (j : Int) + 1) (by omega) (by omega)]
      rfl
    · refine (valuation_ev hm (by omega) (by omega)).bind ?_
      have := ih (j + 1) (by omega)
      simp only [twoIsL]
      by_cases c : p.tmod 4 = 3
      · by_cases c2 : (val p n).tmod 2 = 1
        · simp only [if_pos c, if_pos c2, c, c2, and_self, if_true]; exact Ev.now _
        · simp only [if_pos c, if_neg c2, c2, and_false, if_false]; exact this
      · simp only [if_neg c, c, false_and, if_false]; exact this
theorem specTwoIs_ev (n : Int) : Ev (fun k => spec_TwoIs.f k n) (if 0 ≤ n ∧ n ≤ 2000 then twoIs n else false) := by
  unfold spec_TwoIs.f spec_l8Sum.f spec_l6In.f
  by_cases h : 0 ≤ n ∧ n ≤ 2000
  · simp only [ge_iff_le, if_pos h.1, Option.bind_some, decide_eq_true h.2, if_true, if_pos h]
    unfold spec_l8Primes.f twoIs
    by_cases c : n = 0
    · simp only [if_pos c, Option.bind_some]
      exact specTwoIs_l 1 (by omega) (by omega) [] (by simp) (by simp) 0 0 rfl |> fun _ => Ev.step (f := fun _ => some true) (fun k => by simp [spec_TwoIs.l0]) (Ev.now _)
    · simp only [if_neg c]
      refine Ev.bind (a := primes n) ((l1Primes_ev c (by omega)).bind (Ev.now _)) ?_
      have := primes_len n
      exact specTwoIs_l n (by omega) h.2 (primes n) (fun q hq => primes_ge hq) (by omega) (primes n).length 0 (by omega)
  · rw [if_neg h]
    by_cases h0 : 0 ≤ n
    · have h2 : ¬ n ≤ 2000 := fun h2 => h ⟨h0, h2⟩
      simp only [ge_iff_le, if_pos h0, Option.bind_some, decide_eq_false h2, Bool.false_eq_true, if_false]
      exact Ev.now _
    · simp only [ge_iff_le, if_neg h0, Option.bind_some, Bool.false_eq_true, if_false]
      exact Ev.now _

theorem implTwoIs_l (n : Int) (h0 : 0 < n) (hn : n ≤ 2000) (xs : List Int) (hx : ∀ q ∈ xs, 2 ≤ q) (hl : xs.length ≤ 10000) : ∀ (d j : Nat), j + d = xs.length →
    Ev (fun k => impl_TwoIs.l0 k n xs (xs.length : Int) j) (twoIsL n (xs.drop j)) := by
  intro d
  induction d with
  | zero =>
    intro j hj
    rw [List.drop_of_length_le (by omega)]
    refine Ev.step (f := fun _ => some true) (fun k => ?_) (Ev.now _)
    simp only [impl_TwoIs.l0]
    rw [if_neg (by omega)]
  | succ d ih =>
    intro j hj
    have hm := hx _ (rd_mem (xs := xs) (j := j) (by omega))
    rw [rd_drop (show j < xs.length by omega)]
    generalize hp : rd xs (j : Int) = p at hm
    refine Ev.step (f := fun k => (impl_split.f k n p).bind fun bt => if p.tmod 4 = 3 then (if bt.1.tmod 2 = 0 then impl_TwoIs.l0 k n xs (xs.length : Int) ((j + 1 : Nat) : Int) else some false) else impl_TwoIs.l0 k n xs (xs.length : Int) ((j + 1 : Nat) : Int)) (fun k => ?_) ?_
    · simp only [impl_TwoIs.l0]
      rw [if_pos (by omega), if_pos (by omega), if_pos (by omega), hp, w64 (x := (j : Int) + 1) (by omega) (by omega)]
      rfl
    · refine (split_ev hm (by omega) (by omega)).bind ?_
      have := ih (j + 1) (by omega)
      have hv := (val_spec hm (show n ≠ 0 by omega) (by omega)).2.2.1
      have e : (val p n).tmod 2 = val p n % 2 := Int.tmod_eq_emod_of_nonneg hv
      simp only [twoIsL]
      by_cases c : p.tmod 4 = 3
      · by_cases c2 : (val p n).tmod 2 = 1
        · simp only [if_pos c, c, c2, and_self, if_true]; exact Ev.now _
        · simp only [if_pos c, c2, and_false, if_false, if_pos (show (val p n).tmod 2 = 0 by omega)]; exact this
      · simp only [if_neg c, c, false_and, if_false]; exact this
theorem implTwoIs_ev (n : Int) : Ev (fun k => impl_TwoIs.f k n) (if 0 ≤ n ∧ n ≤ 2000 then twoIs n else false) := by
  unfold impl_TwoIs.f
  by_cases h : 0 ≤ n ∧ n ≤ 2000
  · simp only [if_neg (show ¬ n < 0 by omega), decide_eq_false (show ¬ n > 2000 by omega), if_pos h]
    unfold twoIs
    by_cases c : n = 0
    · exact Ev.step (f := fun _ => some true) (fun k => by simp [impl_TwoIs.j0, c]) (by simpa [c] using Ev.now true)
    · refine Ev.step (f := fun k => (impl_primesOf.f k n).bind fun t => impl_TwoIs.l0 k n t (t.length : Int) 0) (fun k => by simp [impl_TwoIs.j0, c]) ?_
      simp only [if_neg c]
      have := primes_len n
      exact (primesOf_ev c (by omega)).bind (implTwoIs_l n (by omega) h.2 (primes n) (fun q hq => primes_ge hq) (by omega) (primes n).length 0 (by omega))
  · rw [if_neg h]
    refine Ev.step (f := fun _ => some false) (fun k => ?_) (Ev.now _)
    by_cases h0 : n < 0
    · simp [impl_TwoIs.j0, h0]
    · simp [impl_TwoIs.j0, h0, show n > 2000 by omega]

theorem holds : laws_FnExactTwoIs.Pure := by
  intro n _
  refine Ev.rounds ?_
  unfold laws_FnExactTwoIs.f
  refine (specTwoIs_ev n).bind ((implTwoIs_ev n).bind ?_)
  simp only [bne_self_eq_false, Bool.false_eq_true, if_false]
  exact Ev.now _

end Go.Proofs.Ytfhehcgefbknbaa.QFnExactTwoIs
