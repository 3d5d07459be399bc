/- Two squares, found. -/
import Derived.Test.YtfhehcgefbknbaaPFnExactTwoFindx1
import Derived.Test.YtfhehcgefbknbaaPrm
set_option linter.unusedVariables false
set_option linter.unusedSimpArgs false
namespace Go.Proofs.Ytfhehcgefbknbaa.QFnExactTwoFind
open Go.RowKit Go.Proofs.Ytfhehcgefbknbaa.PFnExactTwoFind Go.Proofs.YtfhehcgefbknbaaW.PrintWords Go.Proofs.YtfhehcgefbknbaaW.PrintLast Go.Proofs.YtfhehcgefbknbaaW.PrintMore Locg

/-! ### roots -/
theorem l5Root_l (n : Int) (h0 : 0 ≤ n) : ∀ (d : Nat) (lo hi : Int) (k : Nat), 0 ≤ lo → lo ≤ hi → hi ≤ 1048576 → (hi - lo).toNat ≤ d → d < k → n ≤ hi * hi → (lo = 0 ∨ (lo - 1) * (lo - 1) < n) →
    spec_l5Root.l0 k n lo hi = some (if isq n * isq n = n then isq n else -1) := by
  intro d
  induction d with
  | zero =>
    intro k_ hi k hlo hle hhi hd hk hn hl
    obtain ⟨k, rfl⟩ : ∃ m, k = m + 1 := ⟨k - 1, by omega⟩
    obtain rfl : k_ = hi := by omega
    simp only [spec_l5Root.l0]
    rw [if_neg (by omega), wmul hlo (by omega) hlo (by omega)]
    by_cases e : k_ * k_ = n
    · have hq : isq n = k_ := by rw [← e]; exact isq_sq hlo
      rw [if_pos e, hq, if_pos e]
    · rw [if_neg e]
      have h1 : (k_ - 1) * (k_ - 1) < n := by
        rcases hl with h | h
        · subst h; omega
        · exact h
      have hp : 0 < k_ := by
        rcases Int.lt_or_le 0 k_ with h | h
        · exact h
        · obtain rfl : k_ = 0 := by omega
          omega
      have hq : isq n = k_ - 1 := isq_unique (by omega) (by omega) (by rw [show k_ - 1 + 1 = k_ from by omega]; omega)
      rw [hq, if_neg (by omega)]
  | succ d ih =>
    intro lo hi k hlo hle hhi hd hk hn hl
    rcases Int.lt_or_le lo hi with hlt | hge
    · obtain ⟨k, rfl⟩ : ∃ m, k = m + 1 := ⟨k - 1, by omega⟩
      simp only [spec_l5Root.l0]
      rw [if_pos hlt]
      have e1 : wrap64 (lo + hi) = lo + hi := w64 (by omega) (by omega)
      have e2 : Int.tdiv (lo + hi) 2 = (lo + hi) / 2 := tdiv2 (by omega)
      have e3 : wrap64 ((lo + hi) / 2) = (lo + hi) / 2 := w64 (by omega) (by omega)
      rw [e1, e2, e3, wmul (a := (lo + hi) / 2) (b := (lo + hi) / 2) (by omega) (by omega) (by omega) (by omega)]
      by_cases c : (lo + hi) / 2 * ((lo + hi) / 2) < n
      · rw [if_pos c, w64 (x := (lo + hi) / 2 + 1) (by omega) (by omega)]
        exact ih _ _ _ (by omega) (by omega) (by omega) (by omega) (by omega) hn (.inr (by rw [show (lo + hi) / 2 + 1 - 1 = (lo + hi) / 2 from by omega]; exact c))
      · rw [if_neg c]
        exact ih _ _ _ (by omega) (by omega) (by omega) (by omega) (by omega) (by omega) hl
    · exact ih _ _ _ hlo hle hhi (by omega) (by omega) hn hl
theorem l5Root (n : Int) (h0 : 0 ≤ n) (hn : n ≤ 1099511627776) (k : Nat) (hk : 1048577 < k) : spec_l5Root.f k n = some (if isq n * isq n = n then isq n else -1) :=
  l5Root_l n h0 1048576 0 1048576 k (by omega) (by omega) (by omega) (by omega) (by omega) (by omega) (.inl rfl)
theorem l5Root_ev (n : Int) (h0 : 0 ≤ n) (hn : n ≤ 1099511627776) : Ev (fun k => spec_l5Root.f k n) (if isq n * isq n = n then isq n else -1) := ⟨1048578, fun k hk => l5Root n h0 hn k (by omega)⟩

theorem squareRoot_l (n : Int) (h0 : 0 ≤ n) (hn : n < 4611686018427387904) : ∀ (d : Nat) (x bit : Int) (k : Nat), 0 ≤ x → x * x ≤ n → n < (x + 2 * bit) * (x + 2 * bit) → x + 2 * bit ≤ 2147483648 → bit = 2 ^ d → d + 1 < k →
    impl_squareRoot.l0 k n x bit = some (isq n, isq n * isq n == n) := by
  intro d
  have stop : ∀ (x : Int) (k : Nat), 0 ≤ x → x * x ≤ n → n < (x + 1) * (x + 1) → 0 < k → impl_squareRoot.l0 k n x 0 = some (isq n, isq n * isq n == n) := by
    intro x k hx hl hg hk
    obtain ⟨k, rfl⟩ : ∃ m, k = m + 1 := ⟨k - 1, by omega⟩
    simp only [impl_squareRoot.l0]
    have hb : x < 2147483648 := by
      rcases Int.lt_or_le x 2147483648 with h | h
      · exact h
      · have := sq_le (by omega) h; omega
    have hm : wrap64 (x * x) = x * x := w64' (sq_nonneg x) (by omega)
    rw [if_neg (by omega), hm, isq_unique hx hl hg]
  induction d with
  | zero =>
    intro x bit k hx hl hg hB hb hk
    obtain ⟨k, rfl⟩ : ∃ m, k = m + 1 := ⟨k - 1, by omega⟩
    obtain rfl : bit = 1 := by simpa using hb
    simp only [impl_squareRoot.l0]
    have hs := sq_le (a := x + 1) (b := 2147483648) (by omega) (by omega)
    rw [if_pos (by omega), w64 (x := x + 1) (by omega) (by omega), w64' (x := (x + 1) * (x + 1)) (sq_nonneg _) (by omega)]
    have e : wrap64 (Int.tdiv 1 2) = 0 := by decide +kernel
    rw [e]
    by_cases c : (x + 1) * (x + 1) ≤ n
    · rw [if_pos c]
      exact stop _ _ (by omega) c (by rw [show x + 1 + 1 = x + 2 * 1 from by omega]; exact hg) (by omega)
    · rw [if_neg c]
      exact stop _ _ hx hl (by omega) (by omega)
  | succ d ih =>
    intro x bit k hx hl hg hB hb hk
    obtain ⟨k, rfl⟩ : ∃ m, k = m + 1 := ⟨k - 1, by omega⟩
    have hp : (0 : Int) < 2 ^ d := Int.pow_pos (by omega)
    obtain ⟨c2, hc2⟩ : ∃ c2 : Int, c2 = 2 ^ d := ⟨_, rfl⟩
    have hb2 : bit = 2 * c2 := by rw [hb, Int.pow_succ, hc2]; omega
    subst hb2
    simp only [impl_squareRoot.l0]
    have hs := sq_le (a := x + 2 * c2) (b := 2147483648) (by omega) (by omega)
    have e : wrap64 (Int.tdiv (2 * c2) 2) = c2 := by rw [tdiv2 (by omega), w64 (by omega) (by omega)]; omega
    rw [if_pos (by omega), w64 (x := x + 2 * c2) (by omega) (by omega), w64' (x := (x + 2 * c2) * (x + 2 * c2)) (sq_nonneg _) (by omega), e]
    by_cases c : (x + 2 * c2) * (x + 2 * c2) ≤ n
    · rw [if_pos c]
      exact ih _ _ _ (by omega) c (by rw [show x + 2 * c2 + 2 * c2 = x + 2 * (2 * c2) from by omega]; exact hg) (by omega) hc2 (by omega)
    · rw [if_neg c]
      exact ih _ _ _ hx hl (by omega) (by omega) hc2 (by omega)
theorem squareRoot (n : Int) (h0 : 0 ≤ n) (hn : n < 4611686018427387904) (k : Nat) (hk : 31 < k) : impl_squareRoot.f k n = some (isq n, isq n * isq n == n) := by
  unfold impl_squareRoot.f
  rw [if_neg (by omega)]
  exact squareRoot_l n h0 hn 30 0 1073741824 k (by omega) (by omega) (by omega) (by omega) (by decide) (by omega)
theorem squareRoot_ev (n : Int) (h0 : 0 ≤ n) (hn : n < 4611686018427387904) : Ev (fun k => impl_squareRoot.f k n) (isq n, isq n * isq n == n) := ⟨32, fun k hk => squareRoot n h0 hn k (by omega)⟩


/-! ### TwoFind -/
def pair2 : Option (List Int) → Int × Int × Bool
  | some [a, b] => (a, b, true)
  | _ => (0, 0, false)
theorem sqs0_some {x left : Int} (h : isq left * isq left = left) (h2 : x * x ≤ left) (hx : 0 ≤ x) : sqs 0 x left = some [isq left] := by
  have : x ≤ isq left := le_of_sq (isq_nonneg _) (by omega)
  simp only [sqs]; rw [if_pos ⟨h, this⟩]
theorem sqs0_none {x left : Int} (h : ¬ isq left * isq left = left) : sqs 0 x left = none := by
  simp only [sqs]; rw [if_neg (fun h' => h h'.1)]
theorem specTwoFind_l (n : Int) (h0 : 0 ≤ n) (hn : n ≤ 2000) : ∀ (d : Nat) (x : Int), 0 ≤ x → x ≤ n + 2 → (n + 2 - x).toNat = d →
    Ev (fun k => spec_TwoFind.l0 k n x) (pair2 (sqFrom (fun x => sqs 0 x (n - x * x)) 2 n d x)) := by
  intro d
  induction d with
  | zero =>
    intro x hx hX hd
    have hs := sq_le (show 0 ≤ n + 2 by omega) (show n + 2 ≤ x by omega)
    have hs2 := sq_bound (c := 1) (left := x * x) (x := x) (by omega) hx (by omega)
    have e1 : wrap64 (2 * x) = 2 * x := w64 (by omega) (by omega)
    have hxx := sq_le hx hX
    have hb := sq_le (show 0 ≤ n + 2 by omega) (show n + 2 ≤ 2002 by omega)
    have e2 : wrap64 (2 * x * x) = 2 * x * x := w64 (by rw [Int.mul_assoc]; omega) (by rw [Int.mul_assoc]; omega)
    refine Ev.step (f := fun k => spec_TwoFind.j1 k n x false) (fun k => ?_) (Ev.step (f := fun _ => some (0, 0, false)) (fun k => ?_) (Ev.now _))
    · simp only [spec_TwoFind.l0]
      rw [e1, e2, if_neg (by rw [Int.mul_assoc]; omega)]
    · simp [spec_TwoFind.j1]
  | succ d ih =>
    intro x hx hX hd
    have e1 : wrap64 (2 * x) = 2 * x := w64 (by omega) (by omega)
    have hxx := sq_le hx hX
    have hb := sq_le (show 0 ≤ n + 2 by omega) (show n + 2 ≤ 2002 by omega)
    have hsq := sq_nonneg x
    have e2 : wrap64 (2 * x * x) = 2 * x * x := w64 (by rw [Int.mul_assoc]; omega) (by rw [Int.mul_assoc]; omega)
    have e3 : wrap64 (x * x) = x * x := w64 (by omega) (by omega)
    by_cases c : x * x * 2 ≤ n
    · have hbd := sq_bound (c := 2) (by omega) hx c
      refine Ev.step (f := fun k => spec_TwoFind.j1 k n x true) (fun k => ?_) ?_
      · simp only [spec_TwoFind.l0, spec_l8Sum.f, spec_l6In.f]
        rw [e1, e2, if_pos (by rw [Int.mul_assoc]; omega), if_pos h0, decide_eq_true hn]
        simp only [Option.bind_some]
      · refine Ev.step (f := fun k => (spec_l5Root.f k (n - x * x)).bind fun t => if t ≥ 0 then some (x, t, true) else spec_TwoFind.l0 k n (x + 1)) (fun k => ?_) ?_
        · simp only [spec_TwoFind.j1]
          rw [if_pos trivial, e3, w64 (x := n - x * x) (by omega) (by omega), w64 (x := x + 1) (by omega) (by omega)]
        · refine (l5Root_ev (n - x * x) (by omega) (by omega)).bind ?_
          have hi := isq_nonneg (n - x * x)
          by_cases c2 : isq (n - x * x) * isq (n - x * x) = n - x * x
          · simp only [if_pos c2, if_pos (show isq (n - x * x) ≥ 0 from hi)]
            simp only [sqFrom, if_pos c, sqs0_some c2 (by omega) hx, pair2]
            exact Ev.now _
          · simp only [if_neg c2, if_neg (show ¬ (-1 : Int) ≥ 0 by decide)]
            have := ih (x + 1) (by omega) (by omega) (by omega)
            simp only [sqFrom, if_pos c, sqs0_none c2]
            exact this
    · refine Ev.step (f := fun k => spec_TwoFind.j1 k n x false) (fun k => ?_) (Ev.step (f := fun _ => some (0, 0, false)) (fun k => ?_) ?_)
      · simp only [spec_TwoFind.l0]
        rw [e1, e2, if_neg (by rw [Int.mul_assoc]; omega)]
      · simp [spec_TwoFind.j1]
      · simp only [sqFrom, if_neg c, pair2]; exact Ev.now _
theorem specTwoFind_ev (n : Int) (hw : -9223372036854775808 ≤ n) : Ev (fun k => spec_TwoFind.f k n) (if 0 ≤ n ∧ n ≤ 2000 then pair2 (sqs 1 0 n) else (0, 0, false)) := by
  unfold spec_TwoFind.f
  by_cases h : 0 ≤ n ∧ n ≤ 2000
  · rw [if_pos h]
    have := specTwoFind_l n h.1 h.2 (n + 2).toNat 0 (by omega) (by omega) (by simp)
    simpa [sqs] using this
  · rw [if_neg h]
    refine Ev.step (f := fun k => spec_TwoFind.j1 k n 0 false) (fun k => ?_) (Ev.step (f := fun _ => some (0, 0, false)) (fun k => ?_) (Ev.now _))
    · simp only [spec_TwoFind.l0, spec_l8Sum.f, spec_l6In.f]
      have e : wrap64 (wrap64 (2 * 0) * 0) = 0 := by decide +kernel
      rw [e]
      by_cases h0 : 0 ≤ n
      · rw [if_pos h0, if_pos h0, decide_eq_false (by omega)]; simp
      · rw [if_neg h0]
    · simp [spec_TwoFind.j1]
theorem sqFrom_len {f : Int → Option (List Int)} {c left : Int} {m : Nat} (hf : ∀ x r, f x = some r → r.length = m) : ∀ (d : Nat) (x : Int) (r : List Int), sqFrom f c left d x = some r → r.length = m + 1
  | 0, _, _, h => by simp [sqFrom] at h
  | d + 1, x, r, h => by
    simp only [sqFrom] at h
    split at h
    · split at h
      · rename_i r' hr
        injection h with h
        rw [← h, List.length_cons, hf x r' hr]
      · exact sqFrom_len hf d (x + 1) r h
    · cases h
theorem sqs_len : ∀ (m : Nat) (low left : Int) (r : List Int), sqs m low left = some r → r.length = m + 1
  | 0, low, left, r, h => by
    simp only [sqs] at h
    split at h
    · injection h with h; rw [← h]; rfl
    · cases h
  | m + 1, low, left, r, h => by
    simp only [sqs] at h
    exact sqFrom_len (fun x r hr => sqs_len m _ _ r hr) _ _ _ h
theorem implTwoFind_eq (n : Int) : impl_TwoFind.f n = some (if 0 ≤ n ∧ n ≤ 2000 then pair2 (sqs 1 0 n) else (0, 0, false)) := by
  unfold impl_TwoFind.f impl_squaresOf.f
  rw [if_pos (by omega)]
  by_cases h : 0 ≤ n ∧ n ≤ 2000
  · rw [if_neg (by omega), if_pos h]
    rw [show ((2 : Int) - 1).toNat = 1 from rfl]
    cases hq : sqs 1 0 n with
    | none => simp [pair2]
    | some r =>
      have hl := sqs_len 1 0 n r hq
      match r, hl with
      | [a, b], _ => simp [pair2, rd]
  · rw [if_pos (by omega), if_neg h]; simp


theorem holds : laws_FnExactTwoFind.Pure := by
  intro n hw
  have hw' : -9223372036854775808 ≤ n := by
    simp only [Lit.wf, Bool.and_eq_true, decide_eq_true_eq] at hw
    have : IntKind.i64.min = -9223372036854775808 := by decide
    omega
  refine Ev.rounds ?_
  unfold laws_FnExactTwoFind.f
  simp only [implTwoFind_eq, Option.bind_some]
  refine (specTwoFind_ev n hw').bind ?_
  simp only [if_true, bne_self_eq_false, Bool.false_eq_true, if_false]
  exact Ev.now _

end Go.Proofs.Ytfhehcgefbknbaa.QFnExactTwoFind
