/- Four squares, found. -/
import Derived.Test.YtnnpafjgghpecaaPFnFourFindx3
import Derived.Test.YtnnpafjgghpecaaSqFast
set_option linter.unusedVariables false
set_option linter.unusedSimpArgs false
namespace Go.Proofs.Ytnnpafjgghpecaa.QFnFourFind
open Go.RowKit Go.Proofs.Ytnnpafjgghpecaa.PFnFourFind Go.Proofs.YtnnpafjgghpecaaW.PrintWords Go.Proofs.YtnnpafjgghpecaaW.PrintLast Go.Proofs.YtnnpafjgghpecaaW.PrintMore Locg

/-! ### draws -/
theorem xor_i64_nat (a b : Nat) (ha : a < 9223372036854775808) (hb : b < 9223372036854775808) : Go.bits .xor .i64 (a : Int) (b : Int) = ((a ^^^ b : Nat) : Int) := by
  have hx : a ^^^ b < 2 ^ 63 := Nat.xor_lt_two_pow (by omega) (by omega)
  have h1 : (BitVec.ofInt 64 (a : Int)).toNat = a := by
    rw [BitVec.ofInt_natCast, BitVec.toNat_ofNat]; exact Nat.mod_eq_of_lt (by omega)
  have h2 : (BitVec.ofInt 64 (b : Int)).toNat = b := by
    rw [BitVec.ofInt_natCast, BitVec.toNat_ofNat]; exact Nat.mod_eq_of_lt (by omega)
  show IntKind.i64.wrap ((BitVec.ofInt 64 (a : Int) ^^^ BitVec.ofInt 64 (b : Int)).toNat : Int) = _
  rw [BitVec.toNat_xor, h1, h2]
  have hw : ∀ n : Int, IntKind.i64.wrap n = wrap64 n := fun n => by simp [IntKind.wrap, wrap64, IntKind.bits, IntKind.signed]; omega
  rw [hw]
  exact w64' (by omega) (by omega)
theorem xor_nonneg (a b : Int) (ha : 0 ≤ a) (hA : a < 9223372036854775808) (hb : 0 ≤ b) (hB : b < 9223372036854775808) : 0 ≤ Go.bits .xor .i64 a b := by
  obtain ⟨a, rfl⟩ := Int.eq_ofNat_of_zero_le ha
  obtain ⟨b, rfl⟩ := Int.eq_ofNat_of_zero_le hb
  rw [xor_i64_nat a b (by omega) (by omega)]
  exact Int.natCast_nonneg _
theorem tmod_range {x n : Int} (hx : 0 ≤ x) (hn : 1 ≤ n) : 0 ≤ x.tmod n ∧ x.tmod n < n := by
  rw [Int.tmod_eq_emod_of_nonneg hx]; exact ⟨Int.emod_nonneg _ (by omega), Int.emod_lt_of_pos _ (by omega)⟩
def BytesB (b : List Int) : Prop := (∀ x ∈ b, 0 ≤ x ∧ x ≤ 255) ∧ b.length ≤ 2000
theorem BytesB.rd_ {b : List Int} (h : BytesB b) (i : Int) : 0 ≤ rd b i ∧ rd b i ≤ 255 := by
  unfold rd
  by_cases c : i.toNat < b.length
  · have := h.1 (b[i.toNat]) (by simp)
    simpa [List.getElem?_eq_getElem c] using this
  · simp [List.getElem?_eq_none (show b.length ≤ i.toNat by omega)]
theorem pick_ev {b : List Int} (hb : BytesB b) {p : Int} (hp : 0 ≤ p) (hP : p ≤ 1000000) {n : Int} (hn : 1 ≤ n) :
    ∃ v, 0 ≤ v ∧ v < n ∧ Ev (fun k => spec_l6Rd_pick.f k b p n) (v, p + 1) := by
  have hl := hb.2
  rcases Nat.eq_zero_or_pos b.length with h0 | h0
  · refine ⟨0, by omega, by omega, Ev.step (f := fun _ => some (0, p + 1)) (fun k => ?_) (Ev.now _)⟩
    simp only [spec_l6Rd_pick.f, spec_l6Rd_pick.j0]
    rw [if_neg (by omega), w64 (x := p + 1) (by omega) (by omega), if_pos (by simp [h0])]
  · have e : ∀ k, spec_l6Rd_pick.f (k + 1) b p n = spec_l6Rd_pick.j0 (k + 1) n false b (p + 1) := by
      intro k
      simp only [spec_l6Rd_pick.f]
      rw [if_neg (by omega), w64 (x := p + 1) (by omega) (by omega)]
      congr 1
      simp; intro h; rw [h] at h0; simp at h0
    have hq : wrap64 (p + 1 - 1) = p := by rw [w64 (by omega) (by omega)]; omega
    by_cases c : p < b.length
    · refine ⟨(rd b p).tmod n, ?_, ?_, Ev.step (f := fun _ => some ((rd b p).tmod n, p + 1)) (fun k => ?_) (Ev.now _)⟩
      · exact (tmod_range (hb.rd_ p).1 hn).1
      · exact (tmod_range (hb.rd_ p).1 hn).2
      · have := hb.rd_ p
        rw [e]
        simp only [spec_l6Rd_pick.j0, hq]
        rw [if_neg (by simp), if_pos c, if_pos hp, if_neg (by omega), w64 (x := rd b p) (by omega) (by omega)]
    · have hm := tmod_range hp (n := b.length) (by omega)
      have e7 : wrap64 (p * 7) = p * 7 := w64 (by omega) (by omega)
      have e73 : wrap64 (p * 7 + 3) = p * 7 + 3 := w64 (by omega) (by omega)
      have e29 : wrap64 (p * 29) = p * 29 := w64 (by omega) (by omega)
      have hm2 := tmod_range (x := p * 7 + 3) (by omega) (n := b.length) (by omega)
      have hA := hb.rd_ (p.tmod b.length)
      have hB := hb.rd_ ((p * 7 + 3).tmod b.length)
      have hd : 0 ≤ p.tdiv b.length ∧ p.tdiv b.length ≤ p := by
        rw [Int.tdiv_eq_ediv_of_nonneg hp]; exact ⟨Int.ediv_nonneg hp (by omega), Int.ediv_le_self _ hp⟩
      generalize hAe : rd b (p.tmod b.length) = A at hA
      generalize hBe : rd b ((p * 7 + 3).tmod b.length) = B at hB
      generalize hDe : p.tdiv b.length = D at hd
      have hx64 : 0 ≤ (A * 131 + B * 1117 + p * 29 + D * 53).tdiv 64 ∧ (A * 131 + B * 1117 + p * 29 + D * 53).tdiv 64 ≤ A * 131 + B * 1117 + p * 29 + D * 53 := by
        rw [Int.tdiv_eq_ediv_of_nonneg (by omega)]; omega
      have hx := xor_nonneg (A * 131 + B * 1117 + p * 29 + D * 53) ((A * 131 + B * 1117 + p * 29 + D * 53).tdiv 64) (by omega) (by omega) (by omega) (by omega)
      refine ⟨(Go.bits .xor .i64 (A * 131 + B * 1117 + p * 29 + D * 53) ((A * 131 + B * 1117 + p * 29 + D * 53).tdiv 64)).tmod n, (tmod_range hx hn).1, (tmod_range hx hn).2, Ev.step (f := fun _ => some (_, p + 1)) (fun k => ?_) (Ev.now _)⟩
      rw [e]
      simp only [spec_l6Rd_pick.j0, hq, e7, e73, hAe, hBe, hDe, e29]
      rw [if_neg (by simp), if_neg c, if_neg (by omega), if_pos hm.1, if_pos hm.2, if_pos hm2.1, if_pos hm2.2, if_neg (by omega)]
      rw [w64 (x := A) (by omega) (by omega), w64 (x := B) (by omega) (by omega), w64 (x := D) (by omega) (by omega), w64 (x := A * 131) (by omega) (by omega), w64 (x := B * 1117) (by omega) (by omega),
        w64 (x := A * 131 + B * 1117) (by omega) (by omega), w64 (x := A * 131 + B * 1117 + p * 29) (by omega) (by omega), w64 (x := D * 53) (by omega) (by omega),
        w64 (x := A * 131 + B * 1117 + p * 29 + D * 53) (by omega) (by omega), w64 (x := (A * 131 + B * 1117 + p * 29 + D * 53).tdiv 64) (by omega) (by omega)]
theorem open_ev {l : List Int} (h : ∀ x ∈ l, (Lit.int .u8 x).wf = true) : ∃ b, BytesB b ∧ spec_l6Open.f l = some (b, 0) := by
  have h' : ∀ x ∈ l, 0 ≤ x ∧ x ≤ 255 := fun x hx => by
    have := h x hx
    simp only [Lit.wf, Bool.and_eq_true, decide_eq_true_eq] at this
    have e1 : IntKind.u8.min = 0 := by decide
    have e2 : IntKind.u8.max = 255 := by decide
    omega
  unfold spec_l6Open.f
  by_cases c : (l.length : Int) > 2000
  · refine ⟨l.take 2000, ⟨fun x hx => h' x (List.mem_of_mem_take hx), by simp; omega⟩, ?_⟩
    rw [if_pos c, if_pos (by omega)]
  · exact ⟨l, ⟨h', by omega⟩, by rw [if_neg c]⟩


/-! ### roots -/
theorem l5Root_l (n : Int) (h0 : 0 ≤ n) : ∀ (d : Nat) (lo hi : Int) (k : Nat), 0 ≤ lo → lo ≤ hi → hi ≤ 1048576 → (hi - lo).toNat ≤ d → d < k → n ≤ hi * hi → (lo = 0 ∨ (lo - 1) * (lo - 1) < n) →
    spec_l5Root.l0 k n lo hi = some (if isq n * isq n = n then isq n else -1) := by
  intro d
  induction d with
  | zero =>
    intro k_ hi k hlo hle hhi hd hk hn hl
    obtain ⟨k, rfl⟩ : ∃ m, k = m + 1 := ⟨k - 1, by omega⟩
    obtain rfl : k_ = hi := by omega
    simp only [spec_l5Root.l0]
    rw [if_neg (by omega), wmul hlo (by omega) hlo (by omega)]
    by_cases e : k_ * k_ = n
    · have hq : isq n = k_ := by rw [← e]; exact isq_sq hlo
      rw [if_pos e, hq, if_pos e]
    · rw [if_neg e]
      have h1 : (k_ - 1) * (k_ - 1) < n := by
        rcases hl with h | h
        · subst h; omega
        · exact h
      have hp : 0 < k_ := by
        rcases Int.lt_or_le 0 k_ with h | h
        · exact h
        · obtain rfl : k_ = 0 := by omega
          omega
      have hq : isq n = k_ - 1 := isq_unique (by omega) (by omega) (by rw [show k_ - 1 + 1 = k_ from by omega]; omega)
      rw [hq, if_neg (by omega)]
  | succ d ih =>
    intro lo hi k hlo hle hhi hd hk hn hl
    rcases Int.lt_or_le lo hi with hlt | hge
    · obtain ⟨k, rfl⟩ : ∃ m, k = m + 1 := ⟨k - 1, by omega⟩
      simp only [spec_l5Root.l0]
      rw [if_pos hlt]
      have e1 : wrap64 (lo + hi) = lo + hi := w64 (by omega) (by omega)
      have e2 : Int.tdiv (lo + hi) 2 = (lo + hi) / 2 := tdiv2 (by omega)
      have e3 : wrap64 ((lo + hi) / 2) = (lo + hi) / 2 := w64 (by omega) (by omega)
      rw [e1, e2, e3, wmul (a := (lo + hi) / 2) (b := (lo + hi) / 2) (by omega) (by omega) (by omega) (by omega)]
      by_cases c : (lo + hi) / 2 * ((lo + hi) / 2) < n
      · rw [if_pos c, w64 (x := (lo + hi) / 2 + 1) (by omega) (by omega)]
        exact ih _ _ _ (by omega) (by omega) (by omega) (by omega) (by omega) hn (.inr (by rw [show (lo + hi) / 2 + 1 - 1 = (lo + hi) / 2 from by omega]; exact c))
      · rw [if_neg c]
        exact ih _ _ _ (by omega) (by omega) (by omega) (by omega) (by omega) (by omega) hl
    · exact ih _ _ _ hlo hle hhi (by omega) (by omega) hn hl
theorem l5Root (n : Int) (h0 : 0 ≤ n) (hn : n ≤ 1099511627776) (k : Nat) (hk : 1048577 < k) : spec_l5Root.f k n = some (if isq n * isq n = n then isq n else -1) :=
  l5Root_l n h0 1048576 0 1048576 k (by omega) (by omega) (by omega) (by omega) (by omega) (by omega) (.inl rfl)
theorem l5Root_ev (n : Int) (h0 : 0 ≤ n) (hn : n ≤ 1099511627776) : Ev (fun k => spec_l5Root.f k n) (if isq n * isq n = n then isq n else -1) := ⟨1048578, fun k hk => l5Root n h0 hn k (by omega)⟩

theorem squareRoot_l (n : Int) (h0 : 0 ≤ n) (hn : n < 4611686018427387904) : ∀ (d : Nat) (x bit : Int) (k : Nat), 0 ≤ x → x * x ≤ n → n < (x + 2 * bit) * (x + 2 * bit) → x + 2 * bit ≤ 2147483648 → bit = 2 ^ d → d + 1 < k →
    impl_squareRoot.l0 k n x bit = some (isq n, isq n * isq n == n) := by
  intro d
  have stop : ∀ (x : Int) (k : Nat), 0 ≤ x → x * x ≤ n → n < (x + 1) * (x + 1) → 0 < k → impl_squareRoot.l0 k n x 0 = some (isq n, isq n * isq n == n) := by
    intro x k hx hl hg hk
    obtain ⟨k, rfl⟩ : ∃ m, k = m + 1 := ⟨k - 1, by omega⟩
    simp only [impl_squareRoot.l0]
    have hb : x < 2147483648 := by
      rcases Int.lt_or_le x 2147483648 with h | h
      · exact h
      · have := sq_le (by omega) h; omega
    have hm : wrap64 (x * x) = x * x := w64' (sq_nonneg x) (by omega)
    rw [if_neg (by omega), hm, isq_unique hx hl hg]
  induction d with
  | zero =>
    intro x bit k hx hl hg hB hb hk
    obtain ⟨k, rfl⟩ : ∃ m, k = m + 1 := ⟨k - 1, by omega⟩
    obtain rfl : bit = 1 := by simpa using hb
    simp only [impl_squareRoot.l0]
    have hs := sq_le (a := x + 1) (b := 2147483648) (by omega) (by omega)
    rw [if_pos (by omega), w64 (x := x + 1) (by omega) (by omega), w64' (x := (x + 1) * (x + 1)) (sq_nonneg _) (by omega)]
    have e : wrap64 (Int.tdiv 1 2) = 0 := by decide +kernel
    rw [e]
    by_cases c : (x + 1) * (x + 1) ≤ n
    · rw [if_pos c]
      exact stop _ _ (by omega) c (by rw [show x + 1 + 1 = x + 2 * 1 from by omega]; exact hg) (by omega)
    · rw [if_neg c]
      exact stop _ _ hx hl (by omega) (by omega)
  | succ d ih =>
    intro x bit k hx hl hg hB hb hk
    obtain ⟨k, rfl⟩ : ∃ m, k = m + 1 := ⟨k - 1, by omega⟩
    have hp : (0 : Int) < 2 ^ d := Int.pow_pos (by omega)
    obtain ⟨c2, hc2⟩ : ∃ c2 : Int, c2 = 2 ^ d := ⟨_, rfl⟩
    have hb2 : bit = 2 * c2 := by rw [hb, Int.pow_succ, hc2]; omega
    subst hb2
    simp only [impl_squareRoot.l0]
    have hs := sq_le (a := x + 2 * c2) (b := 2147483648) (by omega) (by omega)
    have e : wrap64 (Int.tdiv (2 * c2) 2) = c2 := by rw [tdiv2 (by omega), w64 (by omega) (by omega)]; omega
    rw [if_pos (by omega), w64 (x := x + 2 * c2) (by omega) (by omega), w64' (x := (x + 2 * c2) * (x + 2 * c2)) (sq_nonneg _) (by omega), e]
    by_cases c : (x + 2 * c2) * (x + 2 * c2) ≤ n
    · rw [if_pos c]
      exact ih _ _ _ (by omega) c (by rw [show x + 2 * c2 + 2 * c2 = x + 2 * (2 * c2) from by omega]; exact hg) (by omega) hc2 (by omega)
    · rw [if_neg c]
      exact ih _ _ _ hx hl (by omega) (by omega) hc2 (by omega)
theorem squareRoot (n : Int) (h0 : 0 ≤ n) (hn : n < 4611686018427387904) (k : Nat) (hk : 31 < k) : impl_squareRoot.f k n = some (isq n, isq n * isq n == n) := by
  unfold impl_squareRoot.f
  rw [if_neg (by omega)]
  exact squareRoot_l n h0 hn 30 0 1073741824 k (by omega) (by omega) (by omega) (by omega) (by decide) (by omega)
theorem squareRoot_ev (n : Int) (h0 : 0 ≤ n) (hn : n < 4611686018427387904) : Ev (fun k => impl_squareRoot.f k n) (isq n, isq n * isq n == n) := ⟨32, fun k hk => squareRoot n h0 hn k (by omega)⟩


/-! ### three and four squares -/
theorem sqs0_some' {x left : Int} (h : isq left * isq left = left) (h2 : x * x ≤ left) (hx : 0 ≤ x) : sqs 0 x left = some [isq left] := by
  have : x ≤ isq left := le_of_sq (isq_nonneg _) (by omega)
  simp only [sqs]; rw [if_pos ⟨h, this⟩]
theorem sqs0_none' {x left : Int} (h : ¬ isq left * isq left = left) : sqs 0 x left = none := by
  simp only [sqs]; rw [if_neg (fun h' => h h'.1)]
def ans (x : Int) (R0 : List Int × Bool) : Option (List Int) → List Int × Bool
  | some r => (x :: r, true)
  | none => R0
def fin (o : Option (List Int)) : List Int × Bool := match o with | some r => (r, true) | none => ([], false)
theorem wc {c x : Int} (hc : 0 ≤ c) (hC : c ≤ 4) (hx : 0 ≤ x) (hX : x ≤ 3000) : wrap64 (wrap64 (c * x) * x) = x * x * c := by
  have h1 := mul_le2 hc hC hx hX
  have h0 := Int.mul_nonneg hc hx
  have h2 := mul_le2 h0 h1 hx hX
  have h3 := Int.mul_nonneg h0 hx
  rw [w64 (x := c * x) (by omega) (by omega), w64 (by omega) (by omega)]
  rw [Int.mul_assoc, Int.mul_comm]
theorem sq3000 {x : Int} (hx : 0 ≤ x) (hX : x ≤ 3000) : 0 ≤ x * x ∧ x * x ≤ 9000000 := ⟨sq_nonneg x, by have := sq_le hx hX; omega⟩

theorem four2 (n w x : Int) (hn0 : 0 ≤ n) (hn : n ≤ 2000) (hw : 0 ≤ w) (hw2 : w * w ≤ n) (hx : 0 ≤ x) (hx2 : x * x ≤ n - w * w) (R0 : List Int × Bool) (h : Ev (fun k => spec_FourFind.l1 k n w (x + 1)) R0) : ∀ (d : Nat) (y : Int), 0 ≤ y → y ≤ 2100 → (n - w * w - x * x + 2 - y).toNat = d →
    Ev (fun k => spec_FourFind.l2 k n w x y) (match sqFrom (fun y => sqs 0 y (n - w * w - x * x - y * y)) 2 (n - w * w - x * x) (n - w * w - x * x + 2 - y).toNat y with | some r => (w :: x :: r, true) | none => R0) := by
  have hs := sq_nonneg x
  have hsw := sq_nonneg w
  have hxb := (sq_bound (c := 1) (left := n) (x := x) (by omega) hx (by omega)).2
  have ex : wrap64 (x * x) = x * x := w64 (by omega) (by omega)
  have ew : wrap64 (w * w) = w * w := w64 (by omega) (by omega)
  have en : wrap64 (n - w * w) = n - w * w := w64 (by omega) (by omega)
  have en2 : wrap64 (n - w * w - x * x) = n - w * w - x * x := w64 (by omega) (by omega)
  have e1 : wrap64 (x + 1) = x + 1 := w64 (by omega) (by omega)
  intro d
  induction d with
  | zero =>
    intro y hy hY hd
    have : ¬ y * y * 2 ≤ n - w * w - x * x := fun c => by have := sq_bound (c := 2) (by omega) hy c; omega
    rw [sqFrom_stop _ this]
    refine Ev.step (fun k => ?_) h
    simp only [spec_FourFind.l2]
    rw [wc (by omega) (by omega) hy (by omega), ew, en, ex, en2, if_neg this, e1]
  | succ d ih =>
    intro y hy hY hd
    by_cases c : y * y * 2 ≤ n - w * w - x * x
    · have hb := sq_bound (c := 2) (by omega) hy c
      have ey := sq3000 hy (by omega)
      refine Ev.step (f := fun k => (spec_l5Root.f k (n - w * w - x * x - y * y)).bind fun t => if t ≥ 0 then some ([w, x, y, t], true) else spec_FourFind.l2 k n w x (y + 1)) (fun k => ?_) ?_
      · simp only [spec_FourFind.l2]
        rw [wc (by omega) (by omega) hy (by omega), ew, en, ex, en2, if_pos c, w64 (x := y * y) (by omega) (by omega), w64 (x := n - w * w - x * x - y * y) (by omega) (by omega), w64 (x := y + 1) (by omega) (by omega)]
      · refine (l5Root_ev (n - w * w - x * x - y * y) (by omega) (by omega)).bind ?_
        have hi := isq_nonneg (n - w * w - x * x - y * y)
        by_cases c2 : isq (n - w * w - x * x - y * y) * isq (n - w * w - x * x - y * y) = n - w * w - x * x - y * y
        · simp only [if_pos c2, if_pos (show isq (n - w * w - x * x - y * y) ≥ 0 from hi)]
          rw [sqFrom_hit (f := fun y => sqs 0 y (n - w * w - x * x - y * y)) (by omega) hy c (sqs0_some' c2 (by omega) hy)]
          exact Ev.now _
        · simp only [if_neg c2, if_neg (show ¬ (-1 : Int) ≥ 0 by decide)]
          rw [sqFrom_next (f := fun y => sqs 0 y (n - w * w - x * x - y * y)) (by omega) hy c (sqs0_none' c2)]
          exact ih (y + 1) (by omega) (by omega) (by omega)
    · rw [sqFrom_stop _ c]
      refine Ev.step (fun k => ?_) h
      simp only [spec_FourFind.l2]
      rw [wc (by omega) (by omega) hy (by omega), ew, en, ex, en2, if_neg c, e1]
theorem four1 (n w : Int) (hn0 : 0 ≤ n) (hn : n ≤ 2000) (hw : 0 ≤ w) (hw2 : w * w ≤ n) (R0 : List Int × Bool) (h : Ev (fun k => spec_FourFind.l0 k n (w + 1)) R0) : ∀ (d : Nat) (x : Int), 0 ≤ x → x ≤ 2100 → (n - w * w + 2 - x).toNat = d →
    Ev (fun k => spec_FourFind.l1 k n w x) (ans w R0 (sqFrom (fun x => sqs 1 x (n - w * w - x * x)) 3 (n - w * w) (n - w * w + 2 - x).toNat x)) := by
  have hsw := sq_nonneg w
  have hwb := (sq_bound (c := 1) (left := n) (x := w) (by omega) hw (by omega)).2
  have ew : wrap64 (w * w) = w * w := w64 (by omega) (by omega)
  have en : wrap64 (n - w * w) = n - w * w := w64 (by omega) (by omega)
  have e1 : wrap64 (w + 1) = w + 1 := w64 (by omega) (by omega)
  have stop : ∀ x : Int, 0 ≤ x → x ≤ 2100 → ¬ x * x * 3 ≤ n - w * w → Ev (fun k => spec_FourFind.l1 k n w x) R0 := by
    intro x hx hX c
    refine Ev.step (fun k => ?_) h
    simp only [spec_FourFind.l1]
    rw [wc (by omega) (by omega) hx (by omega), ew, en, if_neg c, e1]
  intro d
  induction d with
  | zero =>
    intro x hx hX hd
    have : ¬ x * x * 3 ≤ n - w * w := fun c => by have := sq_bound (c := 3) (by omega) hx c; omega
    rw [sqFrom_stop _ this]
    exact stop x hx hX this
  | succ d ih =>
    intro x hx hX hd
    by_cases c : x * x * 3 ≤ n - w * w
    · have hb := sq_bound (c := 3) (by omega) hx c
      have IH := ih (x + 1) (by omega) (by omega) (by omega)
      have h1 := four2 n w x hn0 hn hw hw2 hx hb.1 _ IH (n - w * w - x * x + 2 - x).toNat x hx (by omega) rfl
      have e : sqFrom (fun y => sqs 0 y (n - w * w - x * x - y * y)) 2 (n - w * w - x * x) (n - w * w - x * x + 2 - x).toNat x = sqs 1 x (n - w * w - x * x) := by simp only [sqs]; rfl
      rw [e] at h1
      refine Ev.step (f := fun k => spec_FourFind.l2 k n w x x) (fun k => ?_) ?_
      · simp only [spec_FourFind.l1]
        rw [wc (by omega) (by omega) hx (by omega), ew, en, if_pos c]
      · cases hq : sqs 1 x (n - w * w - x * x) with
        | some r => rw [sqFrom_hit (f := fun x => sqs 1 x (n - w * w - x * x)) (by omega) hx c hq]; rw [hq] at h1; exact h1
        | none => rw [sqFrom_next (f := fun x => sqs 1 x (n - w * w - x * x)) (by omega) hx c hq]; rw [hq] at h1; exact h1
    · rw [sqFrom_stop _ c]
      exact stop x hx hX c
theorem four0 (n : Int) (hn0 : 0 ≤ n) (hn : n ≤ 2000) : ∀ (d : Nat) (x : Int), 0 ≤ x → x ≤ 2100 → (n + 2 - x).toNat = d →
    Ev (fun k => spec_FourFind.l0 k n x) (fin (sqFrom (fun x => sqs 2 x (n - x * x)) 4 n (n + 2 - x).toNat x)) := by
  have stop : ∀ x : Int, 0 ≤ x → x ≤ 2100 → ¬ x * x * 4 ≤ n → Ev (fun k => spec_FourFind.l0 k n x) ([], false) := by
    intro x hx hX c
    refine Ev.step (f := fun k => spec_FourFind.j1 k n x false) (fun k => ?_) (Ev.step (f := fun _ => some ([], false)) (fun k => ?_) (Ev.now _))
    · simp only [spec_FourFind.l0]
      rw [wc (by omega) (by omega) hx (by omega), if_neg c]
    · simp [spec_FourFind.j1]
  intro d
  induction d with
  | zero =>
    intro x hx hX hd
    have : ¬ x * x * 4 ≤ n := fun c => by have := sq_bound (c := 4) (by omega) hx c; omega
    rw [sqFrom_stop _ this]
    exact stop x hx hX this
  | succ d ih =>
    intro x hx hX hd
    by_cases c : x * x * 4 ≤ n
    · have hb := sq_bound (c := 4) (by omega) hx c
      have IH := ih (x + 1) (by omega) (by omega) (by omega)
      have h1 := four1 n x hn0 hn hx hb.1 _ IH (n - x * x + 2 - x).toNat x hx (by omega) rfl
      have e : sqFrom (fun y => sqs 1 y (n - x * x - y * y)) 3 (n - x * x) (n - x * x + 2 - x).toNat x = sqs 2 x (n - x * x) := by simp only [sqs]; rfl
      rw [e] at h1
      refine Ev.step (f := fun k => spec_FourFind.j1 k n x true) (fun k => ?_) (Ev.step (f := fun k => spec_FourFind.l1 k n x x) (fun k => ?_) ?_)
      · simp only [spec_FourFind.l0, spec_l8Sum.f, spec_l6In.f]
        rw [wc (by omega) (by omega) hx (by omega), if_pos c, if_pos hn0, decide_eq_true hn]
        simp
      · simp [spec_FourFind.j1]
      · cases hq : sqs 2 x (n - x * x) with
        | some r => rw [sqFrom_hit (f := fun x => sqs 2 x (n - x * x)) (by omega) hx c hq]; rw [hq] at h1; exact h1
        | none => rw [sqFrom_next (f := fun x => sqs 2 x (n - x * x)) (by omega) hx c hq]; rw [hq] at h1; exact h1
    · rw [sqFrom_stop _ c]
      exact stop x hx hX c
theorem specFourFind_ev (n : Int) (hw : -9223372036854775808 ≤ n) : Ev (fun k => spec_FourFind.f k n) (if 0 ≤ n ∧ n ≤ 2000 then fin (sqs 3 0 n) else ([], false)) := by
  unfold spec_FourFind.f
  by_cases h : 0 ≤ n ∧ n ≤ 2000
  · rw [if_pos h]
    have := four0 n h.1 h.2 (n + 2).toNat 0 (by omega) (by omega) (by simp)
    have e : sqs 3 0 n = sqFrom (fun x => sqs 2 x (n - x * x)) 4 n (n + 2 - 0).toNat 0 := by simp only [sqs]; rfl
    rw [e]; exact this
  · rw [if_neg h]
    refine Ev.step (f := fun k => spec_FourFind.j1 k n 0 false) (fun k => ?_) (Ev.step (f := fun _ => some ([], false)) (fun k => ?_) (Ev.now _))
    · simp only [spec_FourFind.l0, spec_l8Sum.f, spec_l6In.f]
      have e : wrap64 (wrap64 (4 * 0) * 0) = 0 := by decide +kernel
      rw [e]
      by_cases h0 : 0 ≤ n
      · rw [if_pos h0, if_pos h0, decide_eq_false (by omega)]; simp
      · rw [if_neg h0]
    · simp [spec_FourFind.j1]
theorem implFourFind_eq (n : Int) : impl_FourFind.f n = some (if 0 ≤ n ∧ n ≤ 2000 then fin (sqs 3 0 n) else ([], false)) := by
  unfold impl_FourFind.f impl_squaresOf.f
  rw [if_pos (by omega)]
  by_cases h : 0 ≤ n ∧ n ≤ 2000
  · rw [if_neg (by omega), if_pos h, show ((4 : Int) - 1).toNat = 3 from rfl]
    cases hq : sqs 3 0 n <;> simp [fin]
  · rw [if_pos (by omega), if_neg h]; simp
theorem sqFrom_len {f : Int → Option (List Int)} {c left : Int} {m : Nat} (hf : ∀ x r, f x = some r → r.length = m) : ∀ (d : Nat) (x : Int) (r : List Int), sqFrom f c left d x = some r → r.length = m + 1
  | 0, _, _, h => by simp [sqFrom] at h
  | d + 1, x, r, h => by
    simp only [sqFrom] at h
    split at h
    · split at h
      · rename_i r' hr
        injection h with h
        rw [← h, List.length_cons, hf x r' hr]
      · exact sqFrom_len hf d (x + 1) r h
    · cases h
theorem sqs_len : ∀ (m : Nat) (low left : Int) (r : List Int), sqs m low left = some r → r.length = m + 1
  | 0, low, left, r, h => by
    simp only [sqs] at h
    split at h
    · injection h with h; rw [← h]; rfl
    · cases h
  | m + 1, low, left, r, h => by
    simp only [sqs] at h
    exact sqFrom_len (fun x r hr => sqs_len m _ _ r hr) _ _ _ h
theorem fin_len (m : Nat) (n : Int) : (if 0 ≤ n ∧ n ≤ 2000 then fin (sqs m 0 n) else ([], false)).1.length ≤ m + 1 := by
  split
  · cases hq : sqs m 0 n with
    | none => simp [fin]
    | some r => have := sqs_len m 0 n r hq; simp [fin, this]
  · simp


theorem sumDraw_ev' {b : List Int} (hb : BytesB b) (p0 : Int) (hp0 : 0 ≤ p0) (hp1 : p0 ≤ 1000) : ∃ n p, (n = -1 ∨ n = 2000 ∨ n = 2001 ∨ 0 ≤ n ∧ n ≤ 494) ∧ Ev (fun k => spec_l92Sum.f k b p0) (n, p) := by
  obtain ⟨v1, h1, g1, e1⟩ := pick_ev hb (p := p0) (by omega) (by omega) (n := 20) (by omega)
  by_cases c : v1 = 0
  · obtain ⟨v2, h2, g2, e2⟩ := pick_ev hb (p := p0 + 1) (by omega) (by omega) (n := 4) (by omega)
    refine ⟨rd [(-1), 0, 2000, 2001] v2, p0 + 1 + 1, ?_, ?_⟩
    · have : v2 = 0 ∨ v2 = 1 ∨ v2 = 2 ∨ v2 = 3 := by omega
      rcases this with rfl | rfl | rfl | rfl <;> simp [rd]
    · simp only [spec_l92Sum.f]
      refine e1.bind ?_
      simp only [if_pos c, Option.bind_some]
      refine e2.bind ?_
      simp only [if_pos h2, if_pos (show v2 < ((List.length [(-1 : Int), 0, 2000, 2001] : Nat) : Int) from by simp; omega)]
      exact Ev.now _
  · obtain ⟨v2, h2, g2, e2⟩ := pick_ev hb (p := p0 + 1) (by omega) (by omega) (n := 100) (by omega)
    obtain ⟨v3, h3, g3, e3⟩ := pick_ev hb (p := p0 + 1 + 1) (by omega) (by omega) (n := 6) (by omega)
    obtain ⟨v4, h4, g4, e4⟩ := pick_ev hb (p := p0 + 1 + 1 + 1) (by omega) (by omega) (n := 80) (by omega)
    have hm := Int.mul_nonneg h3 h4
    have hM := mul_le2 h3 (show v3 ≤ 5 by omega) h4 (show v4 ≤ 79 by omega)
    refine ⟨v2 + v3 * v4, p0 + 1 + 1 + 1 + 1, .inr (.inr (.inr ⟨by omega, by omega⟩)), ?_⟩
    simp only [spec_l92Sum.f]
    refine e1.bind ?_
    simp only [if_neg c]
    refine e2.bind (e3.bind (e4.bind ?_))
    simp only [w64 (x := v3 * v4) (by omega) (by omega), w64 (x := v2 + v3 * v4) (by omega) (by omega)]
    exact Ev.now _
theorem sumDraw_ev {b : List Int} (hb : BytesB b) : ∃ n p, (n = -1 ∨ n = 2000 ∨ n = 2001 ∨ 0 ≤ n ∧ n ≤ 494) ∧ Ev (fun k => spec_l92Sum.f k b 0) (n, p) := sumDraw_ev' hb 0 (by omega) (by omega)


/-! ### ThreeIs -/
theorem threeN_succ (d n : Nat) : threeN (d + 1) n = if n ≠ 0 ∧ n % 4 = 0 then threeN d (n / 4) else !Nat.beq (n % 8) 7 := by
  have e : threeN (d + 1) n = bif and (!Nat.beq n 0) (Nat.beq (n % 4) 0) then threeN d (n / 4) else !Nat.beq (n % 8) 7 := rfl
  rw [e, beq_iff, beq_iff]
  by_cases c : n = 0 <;> by_cases c2 : n % 4 = 0 <;> simp [c, c2]
theorem implThreeIs_l : ∀ (d n : Nat), n < 4 ^ d → n ≤ 1000000 → Ev (fun k => impl_ThreeIs.l0 k (n : Int)) (threeN d n) := by
  intro d
  induction d with
  | zero =>
    intro n h _
    obtain rfl : n = 0 := by simpa using h
    refine Ev.step (f := fun _ => some true) (fun k => ?_) (Ev.now _)
    simp [impl_ThreeIs.l0]
  | succ d ih =>
    intro n h hM
    rw [threeN_succ]
    have e4 : Int.tmod (n : Int) 4 = ((n % 4 : Nat) : Int) := (Int.ofNat_tmod n 4).symm
    have e8 : Int.tmod (n : Int) 8 = ((n % 8 : Nat) : Int) := (Int.ofNat_tmod n 8).symm
    by_cases c : n ≠ 0 ∧ n % 4 = 0
    · rw [if_pos c]
      have := ih (n / 4) (by rw [Nat.pow_succ] at h; omega) (by omega)
      refine Ev.step (fun k => ?_) this
      simp only [impl_ThreeIs.l0]
      rw [if_pos (by omega), e4, if_pos (by omega), Int.tdiv_eq_ediv_of_nonneg (by omega), w64 (x := (n : Int) / 4) (by omega) (by omega)]
      rfl
    · rw [if_neg c]
      refine Ev.step (f := fun _ => some (!Nat.beq (n % 8) 7)) (fun k => ?_) (Ev.now _)
      have e : ((((n % 8 : Nat) : Int)) != 7) = !Nat.beq (n % 8) 7 := by
        rw [beq_iff, Bool.eq_iff_iff]; simp; omega
      simp only [impl_ThreeIs.l0]
      rw [e4, e8, e]
      by_cases c1 : (n : Int) > 0
      · rw [if_pos c1, if_neg (by omega)]
      · rw [if_neg c1]
theorem implThreeIs_ev (n : Int) : Ev (fun k => impl_ThreeIs.f k n) (if 0 ≤ n ∧ n ≤ 2000 then threeN 6 n.toNat else false) := by
  unfold impl_ThreeIs.f
  by_cases h : 0 ≤ n ∧ n ≤ 2000
  · simp only [if_neg (show ¬ n < 0 by omega), decide_eq_false (show ¬ n > 2000 by omega), if_pos h]
    refine Ev.step (f := fun k => impl_ThreeIs.l0 k n) (fun k => by simp [impl_ThreeIs.j0]) ?_
    have := implThreeIs_l 6 n.toNat (by omega) (by omega)
    rw [show ((n.toNat : Nat) : Int) = n from by omega] at this
    exact this
  · rw [if_neg h]
    refine Ev.step (f := fun _ => some false) (fun k => ?_) (Ev.now _)
    by_cases h0 : n < 0
    · simp [impl_ThreeIs.j0, h0]
    · simp [impl_ThreeIs.j0, h0, show n > 2000 by omega]


/-! ### two lists are the same -/
theorem sameInts_l (xs ys : List Int) (he : xs.length = ys.length) (hl : xs.length ≤ 9223372036854775806) : ∀ (d j : Nat), j + d = xs.length →
    Ev (fun k => laws_sameInts.l0 k xs ys j) (decide (xs.drop j = ys.drop j)) := by
  intro d
  induction d with
  | zero =>
    intro j hj
    rw [List.drop_of_length_le (by omega), List.drop_of_length_le (show ys.length ≤ j by omega)]
    refine Ev.step (f := fun _ => some true) (fun k => ?_) (by simpa using Ev.now true)
    simp only [laws_sameInts.l0]
    rw [if_neg (by omega)]
  | succ d ih =>
    intro j hj
    rw [rd_drop (show j < xs.length by omega), rd_drop (show j < ys.length by omega)]
    have := ih (j + 1) (by omega)
    by_cases c : rd xs (j : Int) = rd ys (j : Int)
    · rw [c]
      simp only [List.cons.injEq, true_and]
      refine Ev.step (fun k => ?_) this
      simp only [laws_sameInts.l0]
      rw [if_pos (by omega), if_pos (by omega), if_pos (by omega), if_pos c, w64 (x := (j : Int) + 1) (by omega) (by omega)]
      rfl
    · rw [decide_eq_false (fun h => c (List.cons.inj h).1)]
      refine Ev.step (f := fun _ => some false) (fun k => ?_) (Ev.now _)
      simp only [laws_sameInts.l0]
      rw [if_pos (by omega), if_pos (by omega), if_pos (by omega), if_neg c]
theorem sameInts_ev {xs ys : List Int} (hl : xs.length ≤ 9223372036854775806) : Ev (fun k => laws_sameInts.f k xs ys) (decide (xs = ys)) := by
  unfold laws_sameInts.f
  by_cases c : xs.length = ys.length
  · simp only [if_pos (show (xs.length : Int) = (ys.length : Int) by omega)]
    simpa using sameInts_l xs ys c hl xs.length 0 (by omega)
  · simp only [if_neg (show ¬ (xs.length : Int) = (ys.length : Int) by omega), decide_eq_false (fun h : xs = ys => c (by rw [h]))]
    exact Ev.now _


theorem four_good {n : Int} {a b c d : Int} (h : sqs 3 0 n = some [a, b, c, d]) : a * a + b * b + c * c + d * d = n ∧ 0 ≤ a ∧ a ≤ b ∧ b ≤ c ∧ c ≤ d := by
  obtain ⟨h1, h2⟩ := sqs_good 3 0 n _ (by omega) h
  rw [sumSq_cons, sumSq_cons, sumSq_cons, sumSq_cons] at h2
  have : sumSq [] = 0 := rfl
  exact ⟨by omega, h1.1, h1.2.1, h1.2.2.1, h1.2.2.2.1⟩
/-- The first of four is 0 exactly where three are enough. -/
theorem four_three {n : Int} (h0 : 0 ≤ n) {a b c d : Int} (h : sqs 3 0 n = some [a, b, c, d]) : (a == 0) = (sqs 2 0 n).isSome := by
  have e : sqs 3 0 n = sqFrom (fun x => sqs 2 x (n - x * x)) 4 n (n + 2 - 0).toNat 0 := rfl
  obtain ⟨hs, ha, _⟩ := four_good h
  cases hq : sqs 2 0 n with
  | some r =>
    have hz : (fun x => sqs 2 x (n - x * x)) 0 = some r := by simpa using hq
    rw [e, sqFrom_hit (f := fun x => sqs 2 x (n - x * x)) (by omega) (by omega) (by simpa using h0) hz] at h
    injection h with h
    injection h with h
    simp [← h]
  | none =>
    have hz : (fun x => sqs 2 x (n - x * x)) 0 = none := by simpa using hq
    rw [e, sqFrom_next (f := fun x => sqs 2 x (n - x * x)) (by omega) (by omega) (by simpa using h0) hz] at h
    obtain ⟨y, l, hg, hy⟩ := sqFrom_ge (n + 2 - (0 + 1)).toNat (0 + 1) _ h
    have : 1 ≤ a := by injection hg with hg _; omega
    simp; omega
theorem holds : laws_FnFourFind.Pure := by
  intro l0 _ _ hw
  refine Ev.rounds ?_
  unfold laws_FnFourFind.f
  by_cases big : (l0.length : Int) > 1048576
  · simp only [if_pos big]; exact Ev.now _
  obtain ⟨b, hb, ho⟩ := open_ev hw
  obtain ⟨n, p, hn, hd⟩ := sumDraw_ev hb
  simp only [if_neg big, spec_DrawFourFind.f, ho, Option.bind_some]
  refine (hd.bind (Ev.now n)).bind ?_
  have ms := specFourFind_ev n (by omega)
  have mi := implFourFind_eq n
  by_cases h : 0 ≤ n ∧ n ≤ 2000
  · rw [if_pos h] at ms mi
    obtain ⟨m, rfl⟩ := Int.eq_ofNat_of_zero_le h.1
    have ha := four_all (n := m) (by omega)
    have h3 := three_all (n := m) (by omega)
    obtain ⟨r, hq⟩ := Option.isSome_iff_exists.1 ha
    have hl := sqs_len 3 0 m r hq
    match r, hl, hq with
    | [a, b, c, d], _, hq =>
      obtain ⟨g1, g2, g3, g4, g5⟩ := four_good hq
      have g6 := four_three (by omega) hq
      rw [hq] at ms mi
      simp only [fin] at ms mi
      have a1 := sq_nonneg a
      have a2 := sq_nonneg b
      have a3 := sq_nonneg c
      have a4 := sq_nonneg d
      have gi := implThreeIs_ev m
      rw [if_pos h, show ((m : Int)).toNat = m from rfl, ← h3, ← g6] at gi
      simp only [mi, Option.bind_some]
      refine ms.bind ?_
      simp only [bne_self_eq_false, Bool.false_eq_true, if_false]
      have gs := sameInts_ev (xs := [a, b, c, d]) (ys := [a, b, c, d]) (by simp)
      simp only [decide_true] at gs
      refine gs.bind ?_
      have l4 : ((List.length [a, b, c, d] : Nat) : Int) = 4 := rfl
      have r0 : rd [a, b, c, d] 0 = a := rfl
      have r1 : rd [a, b, c, d] 1 = b := rfl
      have r2 : rd [a, b, c, d] 2 = c := rfl
      have r3 : rd [a, b, c, d] 3 = d := rfl
      refine Ev.step (f := fun k => laws_FnFourFind.l0 k (m : Int) [a, b, c, d] 0 0) (fun k => by simp [laws_FnFourFind.j0]) ?_
      refine Ev.step (f := fun k => laws_FnFourFind.l0 k (m : Int) [a, b, c, d] (a * a) 1) (fun k => ?_) ?_
      · simp only [laws_FnFourFind.l0, l4, r0]
        rw [if_pos (by decide), if_pos (by decide), if_pos (by decide), if_neg (by omega), if_neg (by decide), w64 (x := a * a) (by omega) (by omega), w64 (x := 0 + a * a) (by omega) (by omega), w64 (x := (0 : Int) + 1) (by omega) (by omega)]
        simp
      refine Ev.step (f := fun k => laws_FnFourFind.l0 k (m : Int) [a, b, c, d] (a * a + b * b) 2) (fun k => ?_) ?_
      · simp only [laws_FnFourFind.l0, l4, r1]
        rw [w64 (x := (1 : Int) - 1) (by omega) (by omega), show (1 : Int) - 1 = 0 from rfl, r0, w64 (x := b * b) (by omega) (by omega), w64 (x := a * a + b * b) (by omega) (by omega), w64 (x := (1 : Int) + 1) (by omega) (by omega)]
        rw [if_pos (by decide), if_pos (by decide), if_pos (by decide), if_neg (by omega), if_pos (by decide), if_pos (by decide), if_pos (by decide), if_neg (by omega)]
        rfl
      refine Ev.step (f := fun k => laws_FnFourFind.l0 k (m : Int) [a, b, c, d] (a * a + b * b + c * c) 3) (fun k => ?_) ?_
      · simp only [laws_FnFourFind.l0, l4, r2]
        rw [w64 (x := (2 : Int) - 1) (by omega) (by omega), show (2 : Int) - 1 = 1 from rfl, r1, w64 (x := c * c) (by omega) (by omega), w64 (x := a * a + b * b + c * c) (by omega) (by omega), w64 (x := (2 : Int) + 1) (by omega) (by omega)]
        rw [if_pos (by decide), if_pos (by decide), if_pos (by decide), if_neg (by omega), if_pos (by decide), if_pos (by decide), if_pos (by decide), if_neg (by omega)]
        rfl
      refine Ev.step (f := fun k => laws_FnFourFind.l0 k (m : Int) [a, b, c, d] (a * a + b * b + c * c + d * d) 4) (fun k => ?_) ?_
      · simp only [laws_FnFourFind.l0, l4, r3]
        rw [w64 (x := (3 : Int) - 1) (by omega) (by omega), show (3 : Int) - 1 = 2 from rfl, r2, w64 (x := d * d) (by omega) (by omega), w64 (x := a * a + b * b + c * c + d * d) (by omega) (by omega), w64 (x := (3 : Int) + 1) (by omega) (by omega)]
        rw [if_pos (by decide), if_pos (by decide), if_pos (by decide), if_neg (by omega), if_pos (by decide), if_pos (by decide), if_pos (by decide), if_neg (by omega)]
        rfl
      refine Ev.step (f := fun k => (impl_ThreeIs.f k (m : Int)).bind fun t => some ((a == 0) == t)) (fun k => ?_) ?_
      · simp only [laws_FnFourFind.l0, l4, r0]
        rw [if_neg (by decide), if_pos g1, if_pos (by decide)]
      · refine gi.bind ?_
        simp only [beq_self_eq_true]
        exact Ev.now _
  · rw [if_neg h] at ms mi
    simp only [mi, Option.bind_some]
    refine ms.bind ?_
    simp only [bne_self_eq_false, Bool.false_eq_true, if_false]
    have gs := sameInts_ev (xs := []) (ys := []) (by simp)
    simp only [decide_true] at gs
    refine gs.bind ?_
    refine Ev.step (f := fun _ => some true) (fun k => ?_) (Ev.now _)
    simp only [laws_FnFourFind.j0, Bool.not_true, Bool.false_eq_true, if_false]
    by_cases h0 : n < 0
    · rw [if_pos h0]
    · rw [if_neg h0, decide_eq_true (show n > 2000 by omega)]

end Go.Proofs.Ytnnpafjgghpecaa.QFnFourFind
