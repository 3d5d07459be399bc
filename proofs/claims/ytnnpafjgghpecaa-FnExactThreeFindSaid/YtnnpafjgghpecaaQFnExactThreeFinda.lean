/- Three and four squares, found. -/
import Derived.Test.YtnnpafjgghpecaaPFnExactThreeFindx2
import Derived.Test.YtnnpafjgghpecaaPrm
set_option linter.unusedVariables false
set_option linter.unusedSimpArgs false
namespace Go.Proofs.Ytnnpafjgghpecaa.QFnExactThreeFind
open Go.RowKit Go.Proofs.Ytnnpafjgghpecaa.PFnExactThreeFind Go.Proofs.YtnnpafjgghpecaaW.PrintWords Go.Proofs.YtnnpafjgghpecaaW.PrintLast Go.Proofs.YtnnpafjgghpecaaW.PrintMore Locg

/-! ### roots -/
theorem l5Root_l (n : Int) (h0 : 0 ≤ n) : ∀ (d : Nat) (lo hi : Int) (k : Nat), 0 ≤ lo → lo ≤ hi → hi ≤ 1048576 → (hi - lo).toNat ≤ d → d < k → n ≤ hi * hi → (lo = 0 ∨ (lo - 1) * (lo - 1) < n) →
    spec_l5Root.l0 k n lo hi = some (if isq n * isq n = n then isq n else -1) := by
  intro d
  induction d with
  | zero =>
    intro k_ hi k hlo hle hhi hd hk hn hl
    obtain ⟨k, rfl⟩ : ∃ m, k = m + 1 := ⟨k - 1, by omega⟩
    obtain rfl : k_ = hi := by omega
    simp only [spec_l5Root.l0]
    rw [if_neg (by omega), wmul hlo (by omega) hlo (by omega)]
    by_cases e : k_ * k_ = n
    · have hq : isq n = k_ := by rw [← e]; exact isq_sq hlo
      rw [if_pos e, hq, if_pos e]
    · rw [if_neg e]
      have h1 : (k_ - 1) * (k_ - 1) < n := by
        rcases hl with h | h
        · subst h; omega
        · exact h
      have hp : 0 < k_ := by
        rcases Int.lt_or_le 0 k_ with h | h
        · exact h
        · obtain rfl : k_ = 0 := by omega
          omega
      have hq : isq n = k_ - 1 := isq_unique (by omega) (by omega) (by rw [show k_ - 1 + 1 = k_ from by omega]; omega)
      rw [hq, if_neg (by omega)]
  | succ d ih =>
    intro lo hi k hlo hle hhi hd hk hn hl
    rcases Int.lt_or_le lo hi with hlt | hge
    · obtain ⟨k, rfl⟩ : ∃ m, k = m + 1 := ⟨k - 1, by omega⟩
      simp only [spec_l5Root.l0]
      rw [if_pos hlt]
      have e1 : wrap64 (lo + hi) = lo + hi := w64 (by omega) (by omega)
      have e2 : Int.tdiv (lo + hi) 2 = (lo + hi) / 2 := tdiv2 (by omega)
      have e3 : wrap64 ((lo + hi) / 2) = (lo + hi) / 2 := w64 (by omega) (by omega)
      rw [e1, e2, e3, wmul (a := (lo + hi) / 2) (b := (lo + hi) / 2) (by omega) (by omega) (by omega) (by omega)]
      by_cases c : (lo + hi) / 2 * ((lo + hi) / 2) < n
      · rw [if_pos c, w64 (x := (lo + hi) / 2 + 1) (by omega) (by omega)]
        exact ih _ _ _ (by omega) (by omega) (by omega) (by omega) (by omega) hn (.inr (by rw [show (lo + hi) / 2 + 1 - 1 = (lo + hi) / 2 from by omega]; exact c))
      · rw [if_neg c]
        exact ih _ _ _ (by omega) (by omega) (by omega) (by omega) (by omega) (by omega) hl
    · exact ih _ _ _ hlo hle hhi (by omega) (by omega) hn hl
theorem l5Root (n : Int) (h0 : 0 ≤ n) (hn : n ≤ 1099511627776) (k : Nat) (hk : 1048577 < k) : spec_l5Root.f k n = some (if isq n * isq n = n then isq n else -1) :=
  l5Root_l n h0 1048576 0 1048576 k (by omega) (by omega) (by omega) (by omega) (by omega) (by omega) (.inl rfl)
theorem l5Root_ev (n : Int) (h0 : 0 ≤ n) (hn : n ≤ 1099511627776) : Ev (fun k => spec_l5Root.f k n) (if isq n * isq n = n then isq n else -1) := ⟨1048578, fun k hk => l5Root n h0 hn k (by omega)⟩

theorem squareRoot_l (n : Int) (h0 : 0 ≤ n) (hn : n < 4611686018427387904) : ∀ (d : Nat) (x bit : Int) (k : Nat), 0 ≤ x → x * x ≤ n → n < (x + 2 * bit) * (x + 2 * bit) → x + 2 * bit ≤ 2147483648 → bit = 2 ^ d → d + 1 < k →
    impl_squareRoot.l0 k n x bit = some (isq n, isq n * isq n == n) := by
  intro d
  have stop : ∀ (x : Int) (k : Nat), 0 ≤ x → x * x ≤ n → n < (x + 1) * (x + 1) → 0 < k → impl_squareRoot.l0 k n x 0 = some (isq n, isq n * isq n == n) := by
    intro x k hx hl hg hk
    obtain ⟨k, rfl⟩ : ∃ m, k = m + 1 := ⟨k - 1, by omega⟩
    simp only [impl_squareRoot.l0]
    have hb : x < 2147483648 := by
      rcases Int.lt_or_le x 2147483648 with h | h
      · exact h
      · have := sq_le (by omega) h; omega
    have hm : wrap64 (x * x) = x * x := w64' (sq_nonneg x) (by omega)
    rw [if_neg (by omega), hm, isq_unique hx hl hg]
  induction d with
  | zero =>
    intro x bit k hx hl hg hB hb hk
    obtain ⟨k, rfl⟩ : ∃ m, k = m + 1 := ⟨k - 1, by omega⟩
    obtain rfl : bit = 1 := by simpa using hb
    simp only [impl_squareRoot.l0]
    have hs := sq_le (a := x + 1) (b := 2147483648) (by omega) (by omega)
    rw [if_pos (by omega), w64 (x := x + 1) (by omega) (by omega), w64' (x := (x + 1) * (x + 1)) (sq_nonneg _) (by omega)]
    have e : wrap64 (Int.tdiv 1 2) = 0 := by decide +kernel
    rw [e]
    by_cases c : (x + 1) * (x + 1) ≤ n
    · rw [if_pos c]
      exact stop _ _ (by omega) c (by rw [show x + 1 + 1 = x + 2 * 1 from by omega]; exact hg) (by omega)
    · rw [if_neg c]
      exact stop _ _ hx hl (by omega) (by omega)
  | succ d ih =>
    intro x bit k hx hl hg hB hb hk
    obtain ⟨k, rfl⟩ : ∃ m, k = m + 1 := ⟨k - 1, by omega⟩
    have hp : (0 : Int) < 2 ^ d := Int.pow_pos (by omega)
    obtain ⟨c2, hc2⟩ : ∃ c2 : Int, c2 = 2 ^ d := ⟨_, rfl⟩
    have hb2 : bit = 2 * c2 := by rw [hb, Int.pow_succ, hc2]; omega
    subst hb2
    simp only [impl_squareRoot.l0]
    have hs := sq_le (a := x + 2 * c2) (b := 2147483648) (by omega) (by omega)
    have e : wrap64 (Int.tdiv (2 * c2) 2) = c2 := by rw [tdiv2 (by omega), w64 (by omega) (by omega)]; omega
    rw [if_pos (by omega), w64 (x := x + 2 * c2) (by omega) (by omega), w64' (x := (x + 2 * c2) * (x + 2 * c2)) (sq_nonneg _) (by omega), e]
    by_cases c : (x + 2 * c2) * (x + 2 * c2) ≤ n
    · rw [if_pos c]
      exact ih _ _ _ (by omega) c (by rw [show x + 2 * c2 + 2 * c2 = x + 2 * (2 * c2) from by omega]; exact hg) (by omega) hc2 (by omega)
    · rw [if_neg c]
      exact ih _ _ _ hx hl (by omega) (by omega) hc2 (by omega)
theorem squareRoot (n : Int) (h0 : 0 ≤ n) (hn : n < 4611686018427387904) (k : Nat) (hk : 31 < k) : impl_squareRoot.f k n = some (isq n, isq n * isq n == n) := by
  unfold impl_squareRoot.f
  rw [if_neg (by omega)]
  exact squareRoot_l n h0 hn 30 0 1073741824 k (by omega) (by omega) (by omega) (by omega) (by decide) (by omega)
theorem squareRoot_ev (n : Int) (h0 : 0 ≤ n) (hn : n < 4611686018427387904) : Ev (fun k => impl_squareRoot.f k n) (isq n, isq n * isq n == n) := ⟨32, fun k hk => squareRoot n h0 hn k (by omega)⟩


/-! ### three and four squares -/
theorem sqs0_some' {x left : Int} (h : isq left * isq left = left) (h2 : x * x ≤ left) (hx : 0 ≤ x) : sqs 0 x left = some [isq left] := by
  have : x ≤ isq left := le_of_sq (isq_nonneg _) (by omega)
  simp only [sqs]; rw [if_pos ⟨h, this⟩]
theorem sqs0_none' {x left : Int} (h : ¬ isq left * isq left = left) : sqs 0 x left = none := by
  simp only [sqs]; rw [if_neg (fun h' => h h'.1)]
def ans (x : Int) (R0 : List Int × Bool) : Option (List Int) → List Int × Bool
  | some r => (x :: r, true)
  | none => R0
def fin (o : Option (List Int)) : List Int × Bool := match o with | some r => (r, true) | none => ([], false)
theorem wc {c x : Int} (hc : 0 ≤ c) (hC : c ≤ 4) (hx : 0 ≤ x) (hX : x ≤ 3000) : wrap64 (wrap64 (c * x) * x) = x * x * c := by
  have h1 := mul_le2 hc hC hx hX
  have h0 := Int.mul_nonneg hc hx
  have h2 := mul_le2 h0 h1 hx hX
  have h3 := Int.mul_nonneg h0 hx
  rw [w64 (x := c * x) (by omega) (by omega), w64 (by omega) (by omega)]
  rw [Int.mul_assoc, Int.mul_comm]
theorem sq3000 {x : Int} (hx : 0 ≤ x) (hX : x ≤ 3000) : 0 ≤ x * x ∧ x * x ≤ 9000000 := ⟨sq_nonneg x, by have := sq_le hx hX; omega⟩

theorem three1 (n x : Int) (hn0 : 0 ≤ n) (hn : n ≤ 2000) (hx : 0 ≤ x) (hx2 : x * x ≤ n) (R0 : List Int × Bool) (h : Ev (fun k => spec_ThreeFind.l0 k n (x + 1)) R0) : ∀ (d : Nat) (y : Int), 0 ≤ y → y ≤ 2100 → (n - x * x + 2 - y).toNat = d →
    Ev (fun k => spec_ThreeFind.l1 k n x y) (ans x R0 (sqFrom (fun y => sqs 0 y (n - x * x - y * y)) 2 (n - x * x) (n - x * x + 2 - y).toNat y)) := by
  have hs := sq_nonneg x
  have hxb := (sq_bound (c := 1) (left := n) (x := x) (by omega) hx (by omega)).2
  have ex : wrap64 (x * x) = x * x := w64 (by omega) (by omega)
  have en : wrap64 (n - x * x) = n - x * x := w64 (by omega) (by omega)
  have e1 : wrap64 (x + 1) = x + 1 := w64 (by omega) (by omega)
  intro d
  induction d with
  | zero =>
    intro y hy hY hd
    have : ¬ y * y * 2 ≤ n - x * x := fun c => by have := sq_bound (c := 2) (by omega) hy c; omega
    rw [sqFrom_stop _ this]
    refine Ev.step (fun k => ?_) h
    simp only [spec_ThreeFind.l1]
    rw [wc (by omega) (by omega) hy (by omega), ex, en, if_neg this, e1]
  | succ d ih =>
    intro y hy hY hd
    by_cases c : y * y * 2 ≤ n - x * x
    · have hb := sq_bound (c := 2) (by omega) hy c
      have ey := sq3000 hy (by omega)
      refine Ev.step (f := fun k => (spec_l5Root.f k (n - x * x - y * y)).bind fun t => if t ≥ 0 then some ([x, y, t], true) else spec_ThreeFind.l1 k n x (y + 1)) (fun k => ?_) ?_
      · simp only [spec_ThreeFind.l1]
        rw [wc (by omega) (by omega) hy (by omega), ex, en, if_pos c, w64 (x := y * y) (by omega) (by omega), w64 (x := n - x * x - y * y) (by omega) (by omega), w64 (x := y + 1) (by omega) (by omega)]
      · refine (l5Root_ev (n - x * x - y * y) (by omega) (by omega)).bind ?_
        have hi := isq_nonneg (n - x * x - y * y)
        by_cases c2 : isq (n - x * x - y * y) * isq (n - x * x - y * y) = n - x * x - y * y
        · simp only [if_pos c2, if_pos (show isq (n - x * x - y * y) ≥ 0 from hi)]
          rw [sqFrom_hit (f := fun y => sqs 0 y (n - x * x - y * y)) (by omega) hy c (sqs0_some' c2 (by omega) hy)]
          exact Ev.now _
        · simp only [if_neg c2, if_neg (show ¬ (-1 : Int) ≥ 0 by decide)]
          rw [sqFrom_next (f := fun y => sqs 0 y (n - x * x - y * y)) (by omega) hy c (sqs0_none' c2)]
          exact ih (y + 1) (by omega) (by omega) (by omega)
    · rw [sqFrom_stop _ c]
      refine Ev.step (fun k => ?_) h
      simp only [spec_ThreeFind.l1]
      rw [wc (by omega) (by omega) hy (by omega), ex, en, if_neg c, e1]
theorem three0 (n : Int) (hn0 : 0 ≤ n) (hn : n ≤ 2000) : ∀ (d : Nat) (x : Int), 0 ≤ x → x ≤ 2100 → (n + 2 - x).toNat = d →
    Ev (fun k => spec_ThreeFind.l0 k n x) (fin (sqFrom (fun x => sqs 1 x (n - x * x)) 3 n (n + 2 - x).toNat x)) := by
  have stop : ∀ x : Int, 0 ≤ x → x ≤ 2100 → ¬ x * x * 3 ≤ n → Ev (fun k => spec_ThreeFind.l0 k n x) ([], false) := by
    intro x hx hX c
    refine Ev.step (f := fun k => spec_ThreeFind.j1 k n x false) (fun k => ?_) (Ev.step (f := fun _ => some ([], false)) (fun k => ?_) (Ev.now _))
    · simp only [spec_ThreeFind.l0]
      rw [wc (by omega) (by omega) hx (by omega), if_neg c]
    · simp [spec_ThreeFind.j1]
  intro d
  induction d with
  | zero =>
    intro x hx hX hd
    have : ¬ x * x * 3 ≤ n := fun c => by have := sq_bound (c := 3) (by omega) hx c; omega
    rw [sqFrom_stop _ this]
    exact stop x hx hX this
  | succ d ih =>
    intro x hx hX hd
    by_cases c : x * x * 3 ≤ n
    · have hb := sq_bound (c := 3) (by omega) hx c
      have IH := ih (x + 1) (by omega) (by omega) (by omega)
      have h1 := three1 n x hn0 hn hx hb.1 _ IH (n - x * x + 2 - x).toNat x hx (by omega) rfl
      have e : sqFrom (fun y => sqs 0 y (n - x * x - y * y)) 2 (n - x * x) (n - x * x + 2 - x).toNat x = sqs 1 x (n - x * x) := by simp only [sqs]; rfl
      rw [e] at h1
      refine Ev.step (f := fun k => spec_ThreeFind.j1 k n x true) (fun k => ?_) (Ev.step (f := fun k => spec_ThreeFind.l1 k n x x) (fun k => ?_) ?_)
      · simp only [spec_ThreeFind.l0, spec_l8Sum.f, spec_l6In.f]
        rw [wc (by omega) (by omega) hx (by omega), if_pos c, if_pos hn0, decide_eq_true hn]
        simp
      · simp [spec_ThreeFind.j1]
      · cases hq : sqs 1 x (n - x * x) with
        | some r => rw [sqFrom_hit (f := fun x => sqs 1 x (n - x * x)) (by omega) hx c hq]; rw [hq] at h1; exact h1
        | none => rw [sqFrom_next (f := fun x => sqs 1 x (n - x * x)) (by omega) hx c hq]; rw [hq] at h1; exact h1
    · rw [sqFrom_stop _ c]
      exact stop x hx hX c
theorem specThreeFind_ev (n : Int) (hw : -9223372036854775808 ≤ n) : Ev (fun k => spec_ThreeFind.f k n) (if 0 ≤ n ∧ n ≤ 2000 then fin (sqs 2 0 n) else ([], false)) := by
  unfold spec_ThreeFind.f
  by_cases h : 0 ≤ n ∧ n ≤ 2000
  · rw [if_pos h]
    have := three0 n h.1 h.2 (n + 2).toNat 0 (by omega) (by omega) (by simp)
    simpa [sqs] using this
  · rw [if_neg h]
    refine Ev.step (f := fun k => spec_ThreeFind.j1 k n 0 false) (fun k => ?_) (Ev.step (f := fun _ => some ([], false)) (fun k => ?_) (Ev.now _))
    · simp only [spec_ThreeFind.l0, spec_l8Sum.f, spec_l6In.f]
      have e : wrap64 (wrap64 (3 * 0) * 0) = 0 := by decide +kernel
      rw [e]
      by_cases h0 : 0 ≤ n
      · rw [if_pos h0, if_pos h0, decide_eq_false (by omega)]; simp
      · rw [if_neg h0]
    · simp [spec_ThreeFind.j1]
theorem implThreeFind_eq (n : Int) : impl_ThreeFind.f n = some (if 0 ≤ n ∧ n ≤ 2000 then fin (sqs 2 0 n) else ([], false)) := by
  unfold impl_ThreeFind.f impl_squaresOf.f
  rw [if_pos (by omega)]
  by_cases h : 0 ≤ n ∧ n ≤ 2000
  · rw [if_neg (by omega), if_pos h, show ((3 : Int) - 1).toNat = 2 from rfl]
    cases hq : sqs 2 0 n <;> simp [fin]
  · rw [if_pos (by omega), if_neg h]; simp

theorem sqFrom_len {f : Int → Option (List Int)} {c left : Int} {m : Nat} (hf : ∀ x r, f x = some r → r.length = m) : ∀ (d : Nat) (x : Int) (r : List Int), sqFrom f c left d x = some r → r.length = m + 1
  | 0, _, _, h => by simp [sqFrom] at h
  | d + 1, x, r, h => by
    simp only [sqFrom] at h
    split at h
    · split at h
      · rename_i r' hr
        injection h with h
        rw [← h, List.length_cons, hf x r' hr]
      · exact sqFrom_len hf d (x + 1) r h
    · cases h
theorem sqs_len : ∀ (m : Nat) (low left : Int) (r : List Int), sqs m low left = some r → r.length = m + 1
  | 0, low, left, r, h => by
    simp only [sqs] at h
    split at h
    · injection h with h; rw [← h]; rfl
    · cases h
  | m + 1, low, left, r, h => by
    simp only [sqs] at h
    exact sqFrom_len (fun x r hr => sqs_len m _ _ r hr) _ _ _ h
theorem fin_len (m : Nat) (n : Int) : (if 0 ≤ n ∧ n ≤ 2000 then fin (sqs m 0 n) else ([], false)).1.length ≤ m + 1 := by
  split
  · cases hq : sqs m 0 n with
    | none => simp [fin]
    | some r => have := sqs_len m 0 n r hq; simp [fin, this]
  · simp


/-! ### copies, marks -/
theorem eqIntS_l (xs ys : List Int) (he : xs.length = ys.length) (hl : xs.length ≤ 9223372036854775806) : ∀ (d j : Nat), j + d = xs.length →
    Ev (fun k => laws_eqIntS.l0 k xs ys j) (decide (xs.drop j = ys.drop j)) := by
  intro d
  induction d with
  | zero =>
    intro j hj
    rw [List.drop_of_length_le (by omega), List.drop_of_length_le (show ys.length ≤ j by omega)]
    refine Ev.step (f := fun _ => some true) (fun k => ?_) (by simpa using Ev.now true)
    simp only [laws_eqIntS.l0]
    rw [if_neg (by omega)]
  | succ d ih =>
    intro j hj
    rw [rd_drop (show j < xs.length by omega), rd_drop (show j < ys.length by omega)]
    have := ih (j + 1) (by omega)
    by_cases c : rd xs (j : Int) = rd ys (j : Int)
    · rw [c]
      simp only [List.cons.injEq, true_and]
      refine Ev.step (fun k => ?_) this
      simp only [laws_eqIntS.l0]
      rw [if_pos (by omega), if_pos (by omega), if_pos (by omega), if_pos c, w64 (x := (j : Int) + 1) (by omega) (by omega)]
      rfl
    · rw [decide_eq_false (fun h => c (List.cons.inj h).1)]
      refine Ev.step (f := fun _ => some false) (fun k => ?_) (Ev.now _)
      simp only [laws_eqIntS.l0]
      rw [if_pos (by omega), if_pos (by omega), if_pos (by omega), if_neg c]
theorem eqIntS_ev {xs ys : List Int} (hl : xs.length ≤ 9223372036854775806) : Ev (fun k => laws_eqIntS.f k xs ys) (decide (xs = ys)) := by
  unfold laws_eqIntS.f
  by_cases c : xs.length = ys.length
  · simp only [if_pos (show (xs.length : Int) = (ys.length : Int) by omega)]
    simpa using eqIntS_l xs ys c hl xs.length 0 (by omega)
  · simp only [if_neg (show ¬ (xs.length : Int) = (ys.length : Int) by omega), decide_eq_false (fun h : xs = ys => c (by rw [h]))]
    exact Ev.now _
theorem eqIntS_same {xs : List Int} (hl : xs.length ≤ 9223372036854775806) : Ev (fun k => laws_eqIntS.f k xs xs) true := by simpa using eqIntS_ev (ys := xs) hl
theorem markIntS_l : ∀ (rest done : List Int) (m : Int), 0 ≤ m → m + rest.length ≤ 4000000 → done.length + rest.length ≤ 1048576 →
    Ev (fun k => laws_markIntS.l0 k (done ++ rest) m (done.length : Int)) (m + rest.length, done ++ marks rest.length m) := by
  intro rest
  induction rest with
  | nil =>
    intro done m hm hM hl
    refine Ev.step (f := fun _ => some _) (fun k => ?_) (Ev.now _)
    simp only [laws_markIntS.l0]
    rw [if_neg (by simp)]
    simp [marks]
  | cons x rest ih =>
    intro done m hm hM hl
    have hlen : (x :: rest).length = rest.length + 1 := rfl
    have := ih (done ++ [m]) (m + 1) (by omega) (by omega) (by simp; omega)
    simp only [List.append_assoc, List.singleton_append] at this
    rw [show m + ((x :: rest).length : Int) = m + 1 + (rest.length : Int) from by rw [hlen]; omega, hlen, marks]
    refine Ev.step (fun k => ?_) this
    simp only [laws_markIntS.l0]
    rw [if_pos (by simp; omega), if_pos (by omega), w64 (x := (done.length : Int) + 1) (by omega) (by omega), w64 (x := m + 1) (by omega) (by omega)]
    rw [show (((done.length : Nat) : Int).toNat) = done.length from rfl, List.set_append_right _ _ (Nat.le_refl _), Nat.sub_self, List.set_cons_zero]
    simp
theorem markIntS_ev {l : List Int} {m : Int} (hm : 0 ≤ m) (hM : m ≤ 2000000) (hl : l.length ≤ 1048576) : Ev (fun k => laws_markIntS.f k l m) (m + l.length, marks l.length m) :=
  markIntS_l l [] m hm (by omega) (by simpa using hl)
theorem heldIntS_l : ∀ (d : Nat) (done : List Int) (m : Int), 0 ≤ m → m + d ≤ 4000000 → done.length + d ≤ 1048576 →
    Ev (fun k => laws_heldIntS.l0 k (done ++ marks d m) m (done.length : Int)) (m + d) := by
  intro d
  induction d with
  | zero =>
    intro done m hm hM hl
    refine Ev.step (f := fun _ => some m) (fun k => ?_) (by simpa using Ev.now m)
    simp only [laws_heldIntS.l0]
    rw [if_neg (by simp [marks])]
  | succ d ih =>
    intro done m hm hM hl
    have := ih (done ++ [m]) (m + 1) (by omega) (by omega) (by simp; omega)
    simp only [List.append_assoc, List.singleton_append] at this
    rw [show m + ((d + 1 : Nat) : Int) = m + 1 + (d : Int) from by omega, marks]
    refine Ev.step (fun k => ?_) this
    simp only [laws_heldIntS.l0]
    rw [if_pos (by simp; omega), if_pos (by omega), if_pos (rd_append _ _ _), w64 (x := (done.length : Int) + 1) (by omega) (by omega), w64 (x := m + 1) (by omega) (by omega)]
    simp
theorem heldIntS_ev {d : Nat} {m : Int} (hm : 0 ≤ m) (hM : m ≤ 2000000) (hl : d ≤ 1048576) : Ev (fun k => laws_heldIntS.f k (marks d m) m) (m + d) :=
  heldIntS_l d [] m hm (by omega) (by simpa using hl)


theorem holds : laws_FnExactThreeFind.Pure := by
  intro n hw
  have hw' : -9223372036854775808 ≤ n := by
    simp only [Lit.wf, Bool.and_eq_true, decide_eq_true_eq] at hw
    have : IntKind.i64.min = -9223372036854775808 := by decide
    omega
  refine Ev.rounds ?_
  unfold laws_FnExactThreeFind.f
  have ms := specThreeFind_ev n hw'
  have mi := implThreeFind_eq n
  have hl := fin_len 2 n
  generalize (if 0 ≤ n ∧ n ≤ 2000 then fin (sqs 2 0 n) else ([], false)) = r at ms mi hl
  obtain ⟨r1, r2⟩ := r
  simp only at hl
  have mk := markIntS_ev (l := r1) (m := 1) (by omega) (by omega) (by omega)
  have hk := heldIntS_ev (d := r1.length) (m := 1) (by omega) (by omega) (by omega)
  refine ms.bind ?_
  simp only [mi, Option.bind_some]
  refine (eqIntS_same (xs := r1) (by omega)).bind ?_
  simp only [if_true, bne_self_eq_false]
  apply Ev.step
  · intro k
    simp only [laws_FnExactThreeFind.j0, Bool.false_eq_true, if_false, mi, Option.bind_some]
    exact rfl
  · refine mk.bind (hk.bind ?_)
    simp only [if_neg (show ¬ (1 + (r1.length : Int)) < 0 by omega), if_true]
    refine (eqIntS_same (xs := r1) (by omega)).bind ?_
    simp only [if_true, bne_self_eq_false]
    apply Ev.step
    · intro k
      simp only [laws_FnExactThreeFind.j1, Bool.false_eq_true, if_false]
      exact rfl
    · refine hk.bind ?_
      simp only [if_neg (show ¬ (1 + (r1.length : Int)) < 0 by omega), if_true]
      exact Ev.now _

end Go.Proofs.Ytnnpafjgghpecaa.QFnExactThreeFind
