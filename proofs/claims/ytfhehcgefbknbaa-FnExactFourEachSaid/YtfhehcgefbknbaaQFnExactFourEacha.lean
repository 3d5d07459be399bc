/- Roots, ways of two and of four squares. -/
import Derived.Test.YtfhehcgefbknbaaPFnExactFourEachx1
import Derived.Test.YtfhehcgefbknbaaNum
set_option linter.unusedVariables false
set_option linter.unusedSimpArgs false
namespace Go.Proofs.Ytfhehcgefbknbaa.QFnExactFourEach
open Go.RowKit Go.Proofs.Ytfhehcgefbknbaa.PFnExactFourEach Go.Proofs.YtfhehcgefbknbaaW.PrintWords Go.Proofs.YtfhehcgefbknbaaW.PrintLast Locg

/-! ### roots -/
theorem l5Root_l (n : Int) (h0 : 0 ≤ n) : ∀ (d : Nat) (lo hi : Int) (k : Nat), 0 ≤ lo → lo ≤ hi → hi ≤ 1048576 → (hi - lo).toNat ≤ d → d < k → n ≤ hi * hi → (lo = 0 ∨ (lo - 1) * (lo - 1) < n) →
    spec_l5Root.l0 k n lo hi = some (if isq n * isq n = n then isq n else -1) := by
  intro d
  induction d with
  | zero =>
    intro k_ hi k hlo hle hhi hd hk hn hl
    obtain ⟨k, rfl⟩ : ∃ m, k = m + 1 := ⟨k - 1, by omega⟩
    obtain rfl : k_ = hi := by omega
    simp only [spec_l5Root.l0]
    rw [if_neg (by omega), wmul hlo (by omega) hlo (by omega)]
    by_cases e : k_ * k_ = n
    · have hq : isq n = k_ := by rw [← e]; exact isq_sq hlo
      rw [if_pos e, hq, if_pos e]
    · rw [if_neg e]
      have h1 : (k_ - 1) * (k_ - 1) < n := by
        rcases hl with h | h
        · subst h; omega
        · exact h
      have hp : 0 < k_ := by
        rcases Int.lt_or_le 0 k_ with h | h
        · exact h
        · obtain rfl : k_ = 0 := by omega
          omega
      have hq : isq n = k_ - 1 := isq_unique (by omega) (by omega) (by rw [show k_ - 1 + 1 = k_ from by omega]; omega)
      rw [hq, if_neg (by omega)]
  | succ d ih =>
    intro lo hi k hlo hle hhi hd hk hn hl
    rcases Int.lt_or_le lo hi with hlt | hge
    · obtain ⟨k, rfl⟩ : ∃ m, k = m + 1 := ⟨k - 1, by omega⟩
      simp only [spec_l5Root.l0]
      rw [if_pos hlt]
      have e1 : wrap64 (lo + hi) = lo + hi := w64 (by omega) (by omega)
      have e2 : Int.tdiv (lo + hi) 2 = (lo + hi) / 2 := tdiv2 (by omega)
      have e3 : wrap64 ((lo + hi) / 2) = (lo + hi) / 2 := w64 (by omega) (by omega)
      rw [e1, e2, e3, wmul (a := (lo + hi) / 2) (b := (lo + hi) / 2) (by omega) (by omega) (by omega) (by omega)]
      by_cases c : (lo + hi) / 2 * ((lo + hi) / 2) < n
      · rw [if_pos c, w64 (x := (lo + hi) / 2 + 1) (by omega) (by omega)]
        exact ih _ _ _ (by omega) (by omega) (by omega) (by omega) (by omega) hn (.inr (by rw [show (lo + hi) / 2 + 1 - 1 = (lo + hi) / 2 from by omega]; exact c))
      · rw [if_neg c]
        exact ih _ _ _ (by omega) (by omega) (by omega) (by omega) (by omega) (by omega) hl
    · exact ih _ _ _ hlo hle hhi (by omega) (by omega) hn hl
theorem l5Root (n : Int) (h0 : 0 ≤ n) (hn : n ≤ 1099511627776) (k : Nat) (hk : 1048577 < k) : spec_l5Root.f k n = some (if isq n * isq n = n then isq n else -1) :=
  l5Root_l n h0 1048576 0 1048576 k (by omega) (by omega) (by omega) (by omega) (by omega) (by omega) (.inl rfl)
theorem l5Root_ev (n : Int) (h0 : 0 ≤ n) (hn : n ≤ 1099511627776) : Ev (fun k => spec_l5Root.f k n) (if isq n * isq n = n then isq n else -1) := ⟨1048578, fun k hk => l5Root n h0 hn k (by omega)⟩

theorem squareRoot_l (n : Int) (h0 : 0 ≤ n) (hn : n < 4611686018427387904) : ∀ (d : Nat) (x bit : Int) (k : Nat), 0 ≤ x → x * x ≤ n → n < (x + 2 * bit) * (x + 2 * bit) → x + 2 * bit ≤ 2147483648 → bit = 2 ^ d → d + 1 < k →
    impl_squareRoot.l0 k n x bit = some (isq n, isq n * isq n == n) := by
  intro d
  have stop : ∀ (x : Int) (k : Nat), 0 ≤ x → x * x ≤ n → n < (x + 1) * (x + 1) → 0 < k → impl_squareRoot.l0 k n x 0 = some (isq n, isq n * isq n == n) := by
    intro x k hx hl hg hk
    obtain ⟨k, rfl⟩ : ∃ m, k = m + 1 := ⟨k - 1, by omega⟩
    simp only [impl_squareRoot.l0]
    have hb : x < 2147483648 := by
      rcases Int.lt_or_le x 2147483648 with h | h
      · exact h
      · have := sq_le (by omega) h; omega
    have hm : wrap64 (x * x) = x * x := w64' (sq_nonneg x) (by omega)
    rw [if_neg (by omega), hm, isq_unique hx hl hg]
  induction d with
  | zero =>
    intro x bit k hx hl hg hB hb hk
    obtain ⟨k, rfl⟩ : ∃ m, k = m + 1 := ⟨k - 1, by omega⟩
    obtain rfl : bit = 1 := by simpa using hb
    simp only [impl_squareRoot.l0]
    have hs := sq_le (a := x + 1) (b := 2147483648) (by omega) (by omega)
    rw [if_pos (by omega), w64 (x := x + 1) (by omega) (by omega), w64' (x := (x + 1) * (x + 1)) (sq_nonneg _) (by omega)]
    have e : wrap64 (Int.tdiv 1 2) = 0 := by decide +kernel
    rw [e]
    by_cases c : (x + 1) * (x + 1) ≤ n
    · rw [if_pos c]
      exact stop _ _ (by omega) c (by rw [show x + 1 + 1 = x + 2 * 1 from by omega]; exact hg) (by omega)
    · rw [if_neg c]
      exact stop _ _ hx hl (by omega) (by omega)
  | succ d ih =>
    intro x bit k hx hl hg hB hb hk
    obtain ⟨k, rfl⟩ : ∃ m, k = m + 1 := ⟨k - 1, by omega⟩
    have hp : (0 : Int) < 2 ^ d := Int.pow_pos (by omega)
    obtain ⟨c2, hc2⟩ : ∃ c2 : Int, c2 = 2 ^ d := ⟨_, rfl⟩
    have hb2 : bit = 2 * c2 := by rw [hb, Int.pow_succ, hc2]; omega
    subst hb2
    simp only [impl_squareRoot.l0]
    have hs := sq_le (a := x + 2 * c2) (b := 2147483648) (by omega) (by omega)
    have e : wrap64 (Int.tdiv (2 * c2) 2) = c2 := by rw [tdiv2 (by omega), w64 (by omega) (by omega)]; omega
    rw [if_pos (by omega), w64 (x := x + 2 * c2) (by omega) (by omega), w64' (x := (x + 2 * c2) * (x + 2 * c2)) (sq_nonneg _) (by omega), e]
    by_cases c : (x + 2 * c2) * (x + 2 * c2) ≤ n
    · rw [if_pos c]
      exact ih _ _ _ (by omega) c (by rw [show x + 2 * c2 + 2 * c2 = x + 2 * (2 * c2) from by omega]; exact hg) (by omega) hc2 (by omega)
    · rw [if_neg c]
      exact ih _ _ _ hx hl (by omega) (by omega) hc2 (by omega)
theorem squareRoot (n : Int) (h0 : 0 ≤ n) (hn : n < 4611686018427387904) (k : Nat) (hk : 31 < k) : impl_squareRoot.f k n = some (isq n, isq n * isq n == n) := by
  unfold impl_squareRoot.f
  rw [if_neg (by omega)]
  exact squareRoot_l n h0 hn 30 0 1073741824 k (by omega) (by omega) (by omega) (by omega) (by decide) (by omega)
theorem squareRoot_ev (n : Int) (h0 : 0 ≤ n) (hn : n < 4611686018427387904) : Ev (fun k => impl_squareRoot.f k n) (isq n, isq n * isq n == n) := ⟨32, fun k hk => squareRoot n h0 hn k (by omega)⟩

/-! ### ways of two squares -/
theorem l8Two_l (n : Int) (h0 : 0 ≤ n) (hn : n ≤ 1000000) : ∀ (d : Nat) (acc x : Int) (k : Nat), 0 ≤ x → x + d = isq n + 1 → 0 ≤ acc → acc ≤ 4 * x → d + 1048578 < k →
    spec_l8Two.l0 k n acc x = some (acc + r2from n d x) := by
  have hq : isq n < 1001 := isq_bound h0 (by omega) (by omega)
  have hq1 := isq_lt h0
  have hq2 := isq_le h0
  intro d
  induction d with
  | zero =>
    intro acc x k hx hd ha hA hk
    obtain ⟨k, rfl⟩ : ∃ m, k = m + 1 := ⟨k - 1, by omega⟩
    have e : x = isq n + 1 := by omega
    simp only [spec_l8Two.l0, r2from]
    rw [wmul hx (by omega) hx (by omega), e, if_neg (by omega)]
    simp
  | succ d ih =>
    intro acc x k hx hd ha hA hk
    obtain ⟨k, rfl⟩ : ∃ m, k = m + 1 := ⟨k - 1, by omega⟩
    have hxq := sq_le hx (show x ≤ isq n by omega)
    have hx0 := sq_nonneg x
    simp only [spec_l8Two.l0, r2from]
    rw [wmul hx (by omega) hx (by omega), if_pos (by omega), w64 (x := n - x * x) (by omega) (by omega), l5Root _ (by omega) (by omega) k (by omega)]
    simp only [Option.bind_some]
    rw [w64 (x := x + 1) (by omega) (by omega)]
    have hw := wayW_bd n x
    rw [← Int.add_assoc]
    unfold wayW at hw ⊢
    have hi := isq_nonneg (n - x * x)
    by_cases c : isq (n - x * x) * isq (n - x * x) = n - x * x
    · simp only [if_pos c] at hw ⊢
      rw [if_pos (by omega)]
      by_cases c1 : x > 0 <;> by_cases c2 : isq (n - x * x) > 0 <;> simp only [if_pos, if_neg, c1, c2, not_false_eq_true] at hw ⊢ <;> rw [w64 (by omega) (by omega)] <;> exact ih _ _ _ (by omega) (by omega) (by omega) (by omega) (by omega)
    · simp only [if_neg c] at hw ⊢
      rw [if_neg (by omega)]
      simpa using ih _ _ _ (by omega) (by omega) (by omega) (by omega) (by omega)
theorem l8Two_ev (n : Int) (h0 : 0 ≤ n) (hn : n ≤ 1000000) : Ev (fun k => spec_l8Two.f k n) (r2 n) := by
  refine ⟨(isq n + 1).toNat + 1048579, fun k hk => ?_⟩
  have := l8Two_l n h0 hn (isq n + 1).toNat 0 0 k (by omega) (by have := isq_nonneg n; omega) (by omega) (by omega) (by omega)
  simpa [spec_l8Two.f, r2] using this
theorem twoWays_l (n : Int) (h0 : 0 ≤ n) (hn : n ≤ 1000000) : ∀ (d : Nat) (acc x : Int) (k : Nat), 0 ≤ x → x + d = isq n + 1 → 0 ≤ acc → acc ≤ 4 * x → d + 32 < k →
    impl_twoWays.l0 k n acc x = some (acc + r2from n d x) := by
  have hq : isq n < 1001 := isq_bound h0 (by omega) (by omega)
  have hq1 := isq_lt h0
  have hq2 := isq_le h0
  intro d
  induction d with
  | zero =>
    intro acc x k hx hd ha hA hk
    obtain ⟨k, rfl⟩ : ∃ m, k = m + 1 := ⟨k - 1, by omega⟩
    have e : x = isq n + 1 := by omega
    simp only [impl_twoWays.l0, r2from]
    rw [wmul hx (by omega) hx (by omega), e, if_neg (by omega)]
    simp
  | succ d ih =>
    intro acc x k hx hd ha hA hk
    obtain ⟨k, rfl⟩ : ∃ m, k = m + 1 := ⟨k - 1, by omega⟩
    have hxq := sq_le hx (show x ≤ isq n by omega)
    have hx0 := sq_nonneg x
    simp only [impl_twoWays.l0, r2from]
    rw [wmul hx (by omega) hx (by omega), if_pos (by omega), w64 (x := n - x * x) (by omega) (by omega), squareRoot _ (by omega) (by omega) k (by omega)]
    simp only [Option.bind_some]
    rw [w64 (x := x + 1) (by omega) (by omega)]
    have hw := wayW_bd n x
    rw [← Int.add_assoc]
    unfold wayW at hw ⊢
    have hi := isq_nonneg (n - x * x)
    by_cases c : isq (n - x * x) * isq (n - x * x) = n - x * x
    · simp only [if_pos c] at hw ⊢
      rw [if_pos (by rw [beq_iff_eq]; exact c)]
      by_cases c1 : x > 0 <;> by_cases c2 : isq (n - x * x) > 0 <;> simp only [if_pos, if_neg, c1, c2, not_false_eq_true] at hw ⊢ <;> rw [w64 (by omega) (by omega)] <;> exact ih _ _ _ (by omega) (by omega) (by omega) (by omega) (by omega)
    · simp only [if_neg c] at hw ⊢
      rw [if_neg (by rw [beq_iff_eq]; exact c)]
      simpa using ih _ _ _ (by omega) (by omega) (by omega) (by omega) (by omega)
theorem twoWays_ev (n : Int) (h0 : 0 ≤ n) (hn : n ≤ 1000000) : Ev (fun k => impl_twoWays.f k n) (r2 n) := by
  refine ⟨(isq n + 1).toNat + 33, fun k hk => ?_⟩
  have := twoWays_l n h0 hn (isq n + 1).toNat 0 0 k (by omega) (by have := isq_nonneg n; omega) (by omega) (by omega) (by omega)
  simpa [impl_twoWays.f, r2] using this

/-! ### FourEach -/
theorem specFour_l (n : Int) (h0 : 0 ≤ n) (hn : n ≤ 300) : ∀ (d : Nat) (acc x : Int), 0 ≤ x → x + d = n + 1 → 0 ≤ acc → acc ≤ 6000 * x →
    Ev (fun k => spec_FourEach.l0 k n acc x) (acc + conv n d x) := by
  intro d
  induction d with
  | zero =>
    intro acc x hx hd ha hA
    refine Ev.step (f := fun _ => some acc) (fun k => ?_) (by simpa [conv] using Ev.now acc)
    simp only [spec_FourEach.l0]
    rw [if_neg (by omega)]
  | succ d ih =>
    intro acc x hx hd ha hA
    have b1 := r2_bd hx
    have b2 := r2_bd (n := n - x) (by omega)
    have q1 : isq x < 18 := isq_bound hx (by omega) (by omega)
    have q2 : isq (n - x) < 18 := isq_bound (by omega) (by omega) (by omega)
    have hm := Int.mul_nonneg b1.1 b2.1
    have hM := mul_le2 b1.1 (show r2 x ≤ 72 by omega) b2.1 (show r2 (n - x) ≤ 72 by omega)
    refine Ev.step (f := fun k => (spec_l8Two.f k x).bind fun t103 => ((spec_l8Two.f k (n - x)).bind fun t104 => (spec_FourEach.l0 k n (wrap64 (acc + (wrap64 (t103 * t104)))) (x + 1)))) (fun k => ?_) ?_
    · simp only [spec_FourEach.l0]
      rw [if_pos (by omega), w64 (x := n - x) (by omega) (by omega), w64 (x := x + 1) (by omega) (by omega)]
    · refine (l8Two_ev x hx (by omega)).bind ((l8Two_ev (n - x) (by omega) (by omega)).bind ?_)
      rw [w64 (x := r2 x * r2 (n - x)) (by omega) (by omega), w64 (x := acc + r2 x * r2 (n - x)) (by omega) (by omega)]
      have := ih (acc + r2 x * r2 (n - x)) (x + 1) (by omega) (by omega) (by omega) (by omega)
      simpa [conv, Int.add_assoc] using this
theorem specFourEach_ev (n : Int) : Ev (fun k => spec_FourEach.f k n) (if 0 ≤ n ∧ n ≤ 300 then r4 n else -1) := by
  unfold spec_FourEach.f spec_l6In.f
  by_cases h : 0 ≤ n ∧ n ≤ 300
  · simp only [ge_iff_le, if_pos h.1, Option.bind_some, decide_eq_true h.2, if_true, if_pos h]
    simpa [r4] using specFour_l n h.1 h.2 (n + 1).toNat 0 0 (by omega) (by omega) (by omega) (by omega)
  · rw [if_neg h]
    by_cases h0 : 0 ≤ n
    · have h2 : ¬ n ≤ 300 := fun h2 => h ⟨h0, h2⟩
      simp only [ge_iff_le, if_pos h0, Option.bind_some, decide_eq_false h2, Bool.false_eq_true, if_false]
      exact Ev.now _
    · simp only [ge_iff_le, if_neg h0, Option.bind_some, Bool.false_eq_true, if_false]
      exact Ev.now _
theorem implFour_l (n : Int) (h0 : 0 ≤ n) (hn : n ≤ 300) : ∀ (d : Nat) (acc x : Int), 0 ≤ x → x + d = n + 1 → 0 ≤ acc → acc ≤ 6000 * x →
    Ev (fun k => impl_FourEach.l0 k n acc x) (acc + conv n d x) := by
  intro d
  induction d with
  | zero =>
    intro acc x hx hd ha hA
    refine Ev.step (f := fun _ => some acc) (fun k => ?_) (by simpa [conv] using Ev.now acc)
    simp only [impl_FourEach.l0]
    rw [if_neg (by omega)]
  | succ d ih =>
    intro acc x hx hd ha hA
    have b1 := r2_bd hx
    have b2 := r2_bd (n := n - x) (by omega)
    have q1 : isq x < 18 := isq_bound hx (by omega) (by omega)
    have q2 : isq (n - x) < 18 := isq_bound (by omega) (by omega) (by omega)
    have hm := Int.mul_nonneg b1.1 b2.1
    have hM := mul_le2 b1.1 (show r2 x ≤ 72 by omega) b2.1 (show r2 (n - x) ≤ 72 by omega)
    refine Ev.step (f := fun k => (impl_twoWays.f k x).bind fun t103 => ((impl_twoWays.f k (n - x)).bind fun t104 => (impl_FourEach.l0 k n (wrap64 (acc + (wrap64 (t103 * t104)))) (x + 1)))) (fun k => ?_) ?_
    · simp only [impl_FourEach.l0]
      rw [if_pos (by omega), w64 (x := n - x) (by omega) (by omega), w64 (x := x + 1) (by omega) (by omega)]
    · refine (twoWays_ev x hx (by omega)).bind ((twoWays_ev (n - x) (by omega) (by omega)).bind ?_)
      rw [w64 (x := r2 x * r2 (n - x)) (by omega) (by omega), w64 (x := acc + r2 x * r2 (n - x)) (by omega) (by omega)]
      have := ih (acc + r2 x * r2 (n - x)) (x + 1) (by omega) (by omega) (by omega) (by omega)
      simpa [conv, Int.add_assoc] using this
theorem implFourEach_ev (n : Int) : Ev (fun k => impl_FourEach.f k n) (if 0 ≤ n ∧ n ≤ 300 then r4 n else -1) := by
  unfold impl_FourEach.f
  by_cases h : 0 ≤ n ∧ n ≤ 300
  · simp only [if_neg (show ¬ n < 0 by omega), decide_eq_false (show ¬ n > 300 by omega), if_pos h]
    refine Ev.step (f := fun k => impl_FourEach.l0 k n 0 0) (fun k => by simp [impl_FourEach.j0]) ?_
    simpa [r4] using implFour_l n h.1 h.2 (n + 1).toNat 0 0 (by omega) (by omega) (by omega) (by omega)
  · rw [if_neg h]
    refine Ev.step (f := fun _ => some (-1)) (fun k => ?_) (Ev.now _)
    by_cases h0 : n < 0
    · simp [impl_FourEach.j0, h0]
    · simp [impl_FourEach.j0, h0, show n > 300 by omega]

theorem holds : laws_FnExactFourEach.Pure := by
  intro n _
  refine Ev.rounds ?_
  unfold laws_FnExactFourEach.f
  refine (specFourEach_ev n).bind ((implFourEach_ev n).bind ?_)
  simp only [if_true]
  exact Ev.now _

end Go.Proofs.Ytfhehcgefbknbaa.QFnExactFourEach
