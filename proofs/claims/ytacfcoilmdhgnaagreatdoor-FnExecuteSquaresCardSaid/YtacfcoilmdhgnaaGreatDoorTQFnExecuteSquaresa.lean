/- A script that asks for four squares. -/
import Derived.Lib.ItoaLen
import Derived.Lib.SplitLaws
import Derived.Test.YtacfcoilmdhgnaaGreatDoorTPFnExecuteSquaresx4
import Derived.Test.YtacfcoilmdhgnaaGreatDoorTPlain
set_option linter.unusedVariables false
set_option linter.unusedSimpArgs false
namespace Go.Proofs.YtacfcoilmdhgnaaGreatDoor.QFnExecuteSquares
open Go.RowKit Go.Proofs.YtacfcoilmdhgnaaGreatDoor.PFnExecuteSquares Go.Proofs.YtacfcoilmdhgnaaGreatDoorW.PrintWords Go.Proofs.YtacfcoilmdhgnaaGreatDoorW.PrintLast Go.Proofs.YtacfcoilmdhgnaaGreatDoorW.PrintMore Locg

/-! ### draws -/
theorem xor_i64_nat (a b : Nat) (ha : a < 9223372036854775808) (hb : b < 9223372036854775808) : Go.bits .xor .i64 (a : Int) (b : Int) = ((a ^^^ b : Nat) : Int) := by
  have hx : a ^^^ b < 2 ^ 63 := Nat.xor_lt_two_pow (by omega) (by omega)
  have h1 : (BitVec.ofInt 64 (a : Int)).toNat = a := by
    rw [BitVec.ofInt_natCast, BitVec.toNat_ofNat]; exact Nat.mod_eq_of_lt (by omega)
  have h2 : (BitVec.ofInt 64 (b : Int)).toNat = b := by
    rw [BitVec.ofInt_natCast, BitVec.toNat_ofNat]; exact Nat.mod_eq_of_lt (by omega)
  show IntKind.i64.wrap ((BitVec.ofInt 64 (a : Int) ^^^ BitVec.ofInt 64 (b : Int)).toNat : Int) = _
  rw [BitVec.toNat_xor, h1, h2]
  have hw : ∀ n : Int, IntKind.i64.wrap n = wrap64 n := fun n => by simp [IntKind.wrap, wrap64, IntKind.bits, IntKind.signed]; omega
  rw [hw]
  exact w64' (by omega) (by omega)
theorem xor_nonneg (a b : Int) (ha : 0 ≤ a) (hA : a < 9223372036854775808) (hb : 0 ≤ b) (hB : b < 9223372036854775808) : 0 ≤ Go.bits .xor .i64 a b := by
  obtain ⟨a, rfl⟩ := Int.eq_ofNat_of_zero_le ha
  obtain ⟨b, rfl⟩ := Int.eq_ofNat_of_zero_le hb
  rw [xor_i64_nat a b (by omega) (by omega)]
  exact Int.natCast_nonneg _
theorem tmod_range {x n : Int} (hx : 0 ≤ x) (hn : 1 ≤ n) : 0 ≤ x.tmod n ∧ x.tmod n < n := by
  rw [Int.tmod_eq_emod_of_nonneg hx]; exact ⟨Int.emod_nonneg _ (by omega), Int.emod_lt_of_pos _ (by omega)⟩
def BytesB (b : List Int) : Prop := (∀ x ∈ b, 0 ≤ x ∧ x ≤ 255) ∧ b.length ≤ 2000
theorem BytesB.rd_ {b : List Int} (h : BytesB b) (i : Int) : 0 ≤ rd b i ∧ rd b i ≤ 255 := by
  unfold rd
  by_cases c : i.toNat < b.length
  · have := h.1 (b[i.toNat]) (by simp)
    simpa [List.getElem?_eq_getElem c] using this
  · simp [List.getElem?_eq_none (show b.length ≤ i.toNat by omega)]
theorem pick_ev {b : List Int} (hb : BytesB b) {p : Int} (hp : 0 ≤ p) (hP : p ≤ 1000000) {n : Int} (hn : 1 ≤ n) :
    ∃ v, 0 ≤ v ∧ v < n ∧ Ev (fun k => spec_l6Rd_pick.f k b p n) (v, p + 1) := by
  have hl := hb.2
  rcases Nat.eq_zero_or_pos b.length with h0 | h0
  · refine ⟨0, by omega, by omega, Ev.step (f := fun _ => some (0, p + 1)) (fun k => ?_) (Ev.now _)⟩
    simp only [spec_l6Rd_pick.f, spec_l6Rd_pick.j0]
    rw [if_neg (by omega), w64 (x := p + 1) (by omega) (by omega), if_pos (by simp [h0])]
  · have e : ∀ k, spec_l6Rd_pick.f (k + 1) b p n = spec_l6Rd_pick.j0 (k + 1) n false b (p + 1) := by
      intro k
      simp only [spec_l6Rd_pick.f]
      rw [if_neg (by omega), w64 (x := p + 1) (by omega) (by omega)]
      congr 1
      simp; intro h; rw [h] at h0; simp at h0
    have hq : wrap64 (p + 1 - 1) = p := by rw [w64 (by omega) (by omega)]; omega
    by_cases c : p < b.length
    · refine ⟨(rd b p).tmod n, ?_, ?_, Ev.step (f := fun _ => some ((rd b p).tmod n, p + 1)) (fun k => ?_) (Ev.now _)⟩
      · exact (tmod_range (hb.rd_ p).1 hn).1
      · exact (tmod_range (hb.rd_ p).1 hn).2
      · have := hb.rd_ p
        rw [e]
        simp only [spec_l6Rd_pick.j0, hq]
        rw [if_neg (by simp), if_pos c, if_pos hp, if_neg (by omega), w64 (x := rd b p) (by omega) (by omega)]
    · have hm := tmod_range hp (n := b.length) (by omega)
      have e7 : wrap64 (p * 7) = p * 7 := w64 (by omega) (by omega)
      have e73 : wrap64 (p * 7 + 3) = p * 7 + 3 := w64 (by omega) (by omega)
      have e29 : wrap64 (p * 29) = p * 29 := w64 (by omega) (by omega)
      have hm2 := tmod_range (x := p * 7 + 3) (by omega) (n := b.length) (by omega)
      have hA := hb.rd_ (p.tmod b.length)
      have hB := hb.rd_ ((p * 7 + 3).tmod b.length)
      have hd : 0 ≤ p.tdiv b.length ∧ p.tdiv b.length ≤ p := by
        rw [Int.tdiv_eq_ediv_of_nonneg hp]; exact ⟨Int.ediv_nonneg hp (by omega), Int.ediv_le_self _ hp⟩
      generalize hAe : rd b (p.tmod b.length) = A at hA
      generalize hBe : rd b ((p * 7 + 3).tmod b.length) = B at hB
      generalize hDe : p.tdiv b.length = D at hd
      have hx64 : 0 ≤ (A * 131 + B * 1117 + p * 29 + D * 53).tdiv 64 ∧ (A * 131 + B * 1117 + p * 29 + D * 53).tdiv 64 ≤ A * 131 + B * 1117 + p * 29 + D * 53 := by
        rw [Int.tdiv_eq_ediv_of_nonneg (by omega)]; omega
      have hx := xor_nonneg (A * 131 + B * 1117 + p * 29 + D * 53) ((A * 131 + B * 1117 + p * 29 + D * 53).tdiv 64) (by omega) (by omega) (by omega) (by omega)
      refine ⟨(Go.bits .xor .i64 (A * 131 + B * 1117 + p * 29 + D * 53) ((A * 131 + B * 1117 + p * 29 + D * 53).tdiv 64)).tmod n, (tmod_range hx hn).1, (tmod_range hx hn).2, Ev.step (f := fun _ => some (_, p + 1)) (fun k => ?_) (Ev.now _)⟩
      rw [e]
      simp only [spec_l6Rd_pick.j0, hq, e7, e73, hAe, hBe, hDe, e29]
      rw [if_neg (by simp), if_neg c, if_neg (by omega), if_pos hm.1, if_pos hm.2, if_pos hm2.1, if_pos hm2.2, if_neg (by omega)]
      rw [w64 (x := A) (by omega) (by omega), w64 (x := B) (by omega) (by omega), w64 (x := D) (by omega) (by omega), w64 (x := A * 131) (by omega) (by omega), w64 (x := B * 1117) (by omega) (by omega),
        w64 (x := A * 131 + B * 1117) (by omega) (by omega), w64 (x := A * 131 + B * 1117 + p * 29) (by omega) (by omega), w64 (x := D * 53) (by omega) (by omega),
        w64 (x := A * 131 + B * 1117 + p * 29 + D * 53) (by omega) (by omega), w64 (x := (A * 131 + B * 1117 + p * 29 + D * 53).tdiv 64) (by omega) (by omega)]
theorem open_ev {l : List Int} (h : ∀ x ∈ l, (Lit.int .u8 x).wf = true) : ∃ b, BytesB b ∧ spec_l6Open.f l = some (b, 0) := by
  have h' : ∀ x ∈ l, 0 ≤ x ∧ x ≤ 255 := fun x hx => by
    have := h x hx
    simp only [Lit.wf, Bool.and_eq_true, decide_eq_true_eq] at this
    have e1 : IntKind.u8.min = 0 := by decide
    have e2 : IntKind.u8.max = 255 := by decide
    omega
  unfold spec_l6Open.f
  by_cases c : (l.length : Int) > 2000
  · refine ⟨l.take 2000, ⟨fun x hx => h' x (List.mem_of_mem_take hx), by simp; omega⟩, ?_⟩
    rw [if_pos c, if_pos (by omega)]
  · exact ⟨l, ⟨h', by omega⟩, by rw [if_neg c]⟩


/-! ### roots -/
theorem l5Root_l (n : Int) (h0 : 0 ≤ n) : ∀ (d : Nat) (lo hi : Int) (k : Nat), 0 ≤ lo → lo ≤ hi → hi ≤ 1048576 → (hi - lo).toNat ≤ d → d < k → n ≤ hi * hi → (lo = 0 ∨ (lo - 1) * (lo - 1) < n) →
    spec_l5Root.l0 k n lo hi = some (if isq n * isq n = n then isq n else -1) := by
  intro d
  induction d with
  | zero =>
    intro k_ hi k hlo hle hhi hd hk hn hl
    obtain ⟨k, rfl⟩ : ∃ m, k = m + 1 := ⟨k - 1, by omega⟩
    obtain rfl : k_ = hi := by omega
    simp only [spec_l5Root.l0]
    rw [if_neg (by omega), wmul hlo (by omega) hlo (by omega)]
    by_cases e : k_ * k_ = n
    · have hq : isq n = k_ := by rw [← e]; exact isq_sq hlo
      rw [if_pos e, hq, if_pos e]
    · rw [if_neg e]
      have h1 : (k_ - 1) * (k_ - 1) < n := by
        rcases hl with h | h
        · subst h; omega
        · exact h
      have hp : 0 < k_ := by
        rcases Int.lt_or_le 0 k_ with h | h
        · exact h
        · obtain rfl : k_ = 0 := by omega
          omega
      have hq : isq n = k_ - 1 := isq_unique (by omega) (by omega) (by rw [show k_ - 1 + 1 = k_ from by omega]; omega)
      rw [hq, if_neg (by omega)]
  | succ d ih =>
    intro lo hi k hlo hle hhi hd hk hn hl
    rcases Int.lt_or_le lo hi with hlt | hge
    · obtain ⟨k, rfl⟩ : ∃ m, k = m + 1 := ⟨k - 1, by omega⟩
      simp only [spec_l5Root.l0]
      rw [if_pos hlt]
      have e1 : wrap64 (lo + hi) = lo + hi := w64 (by omega) (by omega)
      have e2 : Int.tdiv (lo + hi) 2 = (lo + hi) / 2 := tdiv2 (by omega)
      have e3 : wrap64 ((lo + hi) / 2) = (lo + hi) / 2 := w64 (by omega) (by omega)
      rw [e1, e2, e3, wmul (a := (lo + hi) / 2) (b := (lo + hi) / 2) (by omega) (by omega) (by omega) (by omega)]
      by_cases c : (lo + hi) / 2 * ((lo + hi) / 2) < n
      · rw [if_pos c, w64 (x := (lo + hi) / 2 + 1) (by omega) (by omega)]
        exact ih _ _ _ (by omega) (by omega) (by omega) (by omega) (by omega) hn (.inr (by rw [show (lo + hi) / 2 + 1 - 1 = (lo + hi) / 2 from by omega]; exact c))
      · rw [if_neg c]
        exact ih _ _ _ (by omega) (by omega) (by omega) (by omega) (by omega) (by omega) hl
    · exact ih _ _ _ hlo hle hhi (by omega) (by omega) hn hl
theorem l5Root (n : Int) (h0 : 0 ≤ n) (hn : n ≤ 1099511627776) (k : Nat) (hk : 1048577 < k) : spec_l5Root.f k n = some (if isq n * isq n = n then isq n else -1) :=
  l5Root_l n h0 1048576 0 1048576 k (by omega) (by omega) (by omega) (by omega) (by omega) (by omega) (.inl rfl)
theorem l5Root_ev (n : Int) (h0 : 0 ≤ n) (hn : n ≤ 1099511627776) : Ev (fun k => spec_l5Root.f k n) (if isq n * isq n = n then isq n else -1) := ⟨1048578, fun k hk => l5Root n h0 hn k (by omega)⟩

theorem squareRoot_l (n : Int) (h0 : 0 ≤ n) (hn : n < 4611686018427387904) : ∀ (d : Nat) (x bit : Int) (k : Nat), 0 ≤ x → x * x ≤ n → n < (x + 2 * bit) * (x + 2 * bit) → x + 2 * bit ≤ 2147483648 → bit = 2 ^ d → d + 1 < k →
    impl_squareRoot.l0 k n x bit = some (isq n, isq n * isq n == n) := by
  intro d
  have stop : ∀ (x : Int) (k : Nat), 0 ≤ x → x * x ≤ n → n < (x + 1) * (x + 1) → 0 < k → impl_squareRoot.l0 k n x 0 = some (isq n, isq n * isq n == n) := by
    intro x k hx hl hg hk
    obtain ⟨k, rfl⟩ : ∃ m, k = m + 1 := ⟨k - 1, by omega⟩
    simp only [impl_squareRoot.l0]
    have hb : x < 2147483648 := by
      rcases Int.lt_or_le x 2147483648 with h | h
      · exact h
      · have := sq_le (by omega) h; omega
    have hm : wrap64 (x * x) = x * x := w64' (sq_nonneg x) (by omega)
    rw [if_neg (by omega), hm, isq_unique hx hl hg]
  induction d with
  | zero =>
    intro x bit k hx hl hg hB hb hk
    obtain ⟨k, rfl⟩ : ∃ m, k = m + 1 := ⟨k - 1, by omega⟩
    obtain rfl : bit = 1 := by simpa using hb
    simp only [impl_squareRoot.l0]
    have hs := sq_le (a := x + 1) (b := 2147483648) (by omega) (by omega)
    rw [if_pos (by omega), w64 (x := x + 1) (by omega) (by omega), w64' (x := (x + 1) * (x + 1)) (sq_nonneg _) (by omega)]
    have e : wrap64 (Int.tdiv 1 2) = 0 := by decide +kernel
    rw [e]
    by_cases c : (x + 1) * (x + 1) ≤ n
    · rw [if_pos c]
      exact stop _ _ (by omega) c (by rw [show x + 1 + 1 = x + 2 * 1 from by omega]; exact hg) (by omega)
    · rw [if_neg c]
      exact stop _ _ hx hl (by omega) (by omega)
  | succ d ih =>
    intro x bit k hx hl hg hB hb hk
    obtain ⟨k, rfl⟩ : ∃ m, k = m + 1 := ⟨k - 1, by omega⟩
    have hp : (0 : Int) < 2 ^ d := Int.pow_pos (by omega)
    obtain ⟨c2, hc2⟩ : ∃ c2 : Int, c2 = 2 ^ d := ⟨_, rfl⟩
    have hb2 : bit = 2 * c2 := by rw [hb, Int.pow_succ, hc2]; omega
    subst hb2
    simp only [impl_squareRoot.l0]
    have hs := sq_le (a := x + 2 * c2) (b := 2147483648) (by omega) (by omega)
    have e : wrap64 (Int.tdiv (2 * c2) 2) = c2 := by rw [tdiv2 (by omega), w64 (by omega) (by omega)]; omega
    rw [if_pos (by omega), w64 (x := x + 2 * c2) (by omega) (by omega), w64' (x := (x + 2 * c2) * (x + 2 * c2)) (sq_nonneg _) (by omega), e]
    by_cases c : (x + 2 * c2) * (x + 2 * c2) ≤ n
    · rw [if_pos c]
      exact ih _ _ _ (by omega) c (by rw [show x + 2 * c2 + 2 * c2 = x + 2 * (2 * c2) from by omega]; exact hg) (by omega) hc2 (by omega)
    · rw [if_neg c]
      exact ih _ _ _ hx hl (by omega) (by omega) hc2 (by omega)
theorem squareRoot (n : Int) (h0 : 0 ≤ n) (hn : n < 4611686018427387904) (k : Nat) (hk : 31 < k) : impl_squareRoot.f k n = some (isq n, isq n * isq n == n) := by
  unfold impl_squareRoot.f
  rw [if_neg (by omega)]
  exact squareRoot_l n h0 hn 30 0 1073741824 k (by omega) (by omega) (by omega) (by omega) (by decide) (by omega)
/-! ### three and four squares -/
theorem sqs0_some' {x left : Int} (h : isq left * isq left = left) (h2 : x * x ≤ left) (hx : 0 ≤ x) : sqs 0 x left = some [isq left] := by
  have : x ≤ isq left := le_of_sq (isq_nonneg _) (by omega)
  simp only [sqs]; rw [if_pos ⟨h, this⟩]
theorem sqs0_none' {x left : Int} (h : ¬ isq left * isq left = left) : sqs 0 x left = none := by
  simp only [sqs]; rw [if_neg (fun h' => h h'.1)]
def ans (x : Int) (R0 : List Int × Bool) : Option (List Int) → List Int × Bool
  | some r => (x :: r, true)
  | none => R0
def fin (o : Option (List Int)) : List Int × Bool := match o with | some r => (r, true) | none => ([], false)
theorem wc {c x : Int} (hc : 0 ≤ c) (hC : c ≤ 4) (hx : 0 ≤ x) (hX : x ≤ 3000) : wrap64 (wrap64 (c * x) * x) = x * x * c := by
  have h1 := mul_le2 hc hC hx hX
  have h0 := Int.mul_nonneg hc hx
  have h2 := mul_le2 h0 h1 hx hX
  have h3 := Int.mul_nonneg h0 hx
  rw [w64 (x := c * x) (by omega) (by omega), w64 (by omega) (by omega)]
  rw [Int.mul_assoc, Int.mul_comm]
theorem sq3000 {x : Int} (hx : 0 ≤ x) (hX : x ≤ 3000) : 0 ≤ x * x ∧ x * x ≤ 9000000 := ⟨sq_nonneg x, by have := sq_le hx hX; omega⟩

theorem four2 (n w x : Int) (hn0 : 0 ≤ n) (hn : n ≤ 2000) (hw : 0 ≤ w) (hw2 : w * w ≤ n) (hx : 0 ≤ x) (hx2 : x * x ≤ n - w * w) (R0 : List Int × Bool) (h : Ev (fun k => spec_FourFind.l1 k n w (x + 1)) R0) : ∀ (d : Nat) (y : Int), 0 ≤ y → y ≤ 2100 → (n - w * w - x * x + 2 - y).toNat = d →
    Ev (fun k => spec_FourFind.l2 k n w x y) (match sqFrom (fun y => sqs 0 y (n - w * w - x * x - y * y)) 2 (n - w * w - x * x) (n - w * w - x * x + 2 - y).toNat y with | some r => (w :: x :: r, true) | none => R0) := by
  have hs := sq_nonneg x
  have hsw := sq_nonneg w
  have hxb := (sq_bound (c := 1) (left := n) (x := x) (by omega) hx (by omega)).2
  have ex : wrap64 (x * x) = x * x := w64 (by omega) (by omega)
  have ew : wrap64 (w * w) = w * w := w64 (by omega) (by omega)
  have en : wrap64 (n - w * w) = n - w * w := w64 (by omega) (by omega)
  have en2 : wrap64 (n - w * w - x * x) = n - w * w - x * x := w64 (by omega) (by omega)
  have e1 : wrap64 (x + 1) = x + 1 := w64 (by omega) (by omega)
  intro d
  induction d with
  | zero =>
    intro y hy hY hd
    have : ¬ y * y * 2 ≤ n - w * w - x * x := fun c => by have := sq_bound (c := 2) (by omega) hy c; omega
    rw [sqFrom_stop _ this]
    refine Ev.step (fun k => ?_) h
    simp only [spec_FourFind.l2]
    rw [wc (by omega) (by omega) hy (by omega), ew, en, ex, en2, if_neg this, e1]
  | succ d ih =>
    intro y hy hY hd
    by_cases c : y * y * 2 ≤ n - w * w - x * x
    · have hb := sq_bound (c := 2) (by omega) hy c
      have ey := sq3000 hy (by omega)
      refine Ev.step (f := fun k => (spec_l5Root.f k (n - w * w - x * x - y * y)).bind fun t => if t ≥ 0 then some ([w, x, y, t], true) else spec_FourFind.l2 k n w x (y + 1)) (fun k => ?_) ?_
      · simp only [spec_FourFind.l2]
        rw [wc (by omega) (by omega) hy (by omega), ew, en, ex, en2, if_pos c, w64 (x := y * y) (by omega) (by omega), w64 (x := n - w * w - x * x - y * y) (by omega) (by omega), w64 (x := y + 1) (by omega) (by omega)]
      · refine (l5Root_ev (n - w * w - x * x - y * y) (by omega) (by omega)).bind ?_
        have hi := isq_nonneg (n - w * w - x * x - y * y)
        by_cases c2 : isq (n - w * w - x * x - y * y) * isq (n - w * w - x * x - y * y) = n - w * w - x * x - y * y
        · simp only [if_pos c2, if_pos (show isq (n - w * w - x * x - y * y) ≥ 0 from hi)]
          rw [sqFrom_hit (f := fun y => sqs 0 y (n - w * w - x * x - y * y)) (by omega) hy c (sqs0_some' c2 (by omega) hy)]
          exact Ev.now _
        · simp only [if_neg c2, if_neg (show ¬ (-1 : Int) ≥ 0 by decide)]
          rw [sqFrom_next (f := fun y => sqs 0 y (n - w * w - x * x - y * y)) (by omega) hy c (sqs0_none' c2)]
          exact ih (y + 1) (by omega) (by omega) (by omega)
    · rw [sqFrom_stop _ c]
      refine Ev.step (fun k => ?_) h
      simp only [spec_FourFind.l2]
      rw [wc (by omega) (by omega) hy (by omega), ew, en, ex, en2, if_neg c, e1]
theorem four1 (n w : Int) (hn0 : 0 ≤ n) (hn : n ≤ 2000) (hw : 0 ≤ w) (hw2 : w * w ≤ n) (R0 : List Int × Bool) (h : Ev (fun k => spec_FourFind.l0 k n (w + 1)) R0) : ∀ (d : Nat) (x : Int), 0 ≤ x → x ≤ 2100 → (n - w * w + 2 - x).toNat = d →
    Ev (fun k => spec_FourFind.l1 k n w x) (ans w R0 (sqFrom (fun x => sqs 1 x (n - w * w - x * x)) 3 (n - w * w) (n - w * w + 2 - x).toNat x)) := by
  have hsw := sq_nonneg w
  have hwb := (sq_bound (c := 1) (left := n) (x := w) (by omega) hw (by omega)).2
  have ew : wrap64 (w * w) = w * w := w64 (by omega) (by omega)
  have en : wrap64 (n - w * w) = n - w * w := w64 (by omega) (by omega)
  have e1 : wrap64 (w + 1) = w + 1 := w64 (by omega) (by omega)
  have stop : ∀ x : Int, 0 ≤ x → x ≤ 2100 → ¬ x * x * 3 ≤ n - w * w → Ev (fun k => spec_FourFind.l1 k n w x) R0 := by
    intro x hx hX c
    refine Ev.step (fun k => ?_) h
    simp only [spec_FourFind.l1]
    rw [wc (by omega) (by omega) hx (by omega), ew, en, if_neg c, e1]
  intro d
  induction d with
  | zero =>
    intro x hx hX hd
    have : ¬ x * x * 3 ≤ n - w * w := fun c => by have := sq_bound (c := 3) (by omega) hx c; omega
    rw [sqFrom_stop _ this]
    exact stop x hx hX this
  | succ d ih =>
    intro x hx hX hd
    by_cases c : x * x * 3 ≤ n - w * w
    · have hb := sq_bound (c := 3) (by omega) hx c
      have IH := ih (x + 1) (by omega) (by omega) (by omega)
      have h1 := four2 n w x hn0 hn hw hw2 hx hb.1 _ IH (n - w * w - x * x + 2 - x).toNat x hx (by omega) rfl
      have e : sqFrom (fun y => sqs 0 y (n - w * w - x * x - y * y)) 2 (n - w * w - x * x) (n - w * w - x * x + 2 - x).toNat x = sqs 1 x (n - w * w - x * x) := by simp only [sqs]; rfl
      rw [e] at h1
      refine Ev.step (f := fun k => spec_FourFind.l2 k n w x x) (fun k => ?_) ?_
      · simp only [spec_FourFind.l1]
        rw [wc (by omega) (by omega) hx (by omega), ew, en, if_pos c]
      · cases hq : sqs 1 x (n - w * w - x * x) with
        | some r => rw [sqFrom_hit (f := fun x => sqs 1 x (n - w * w - x * x)) (by omega) hx c hq]; rw [hq] at h1; exact h1
        | none => rw [sqFrom_next (f := fun x => sqs 1 x (n - w * w - x * x)) (by omega) hx c hq]; rw [hq] at h1; exact h1
    · rw [sqFrom_stop _ c]
      exact stop x hx hX c
theorem four0 (n : Int) (hn0 : 0 ≤ n) (hn : n ≤ 2000) : ∀ (d : Nat) (x : Int), 0 ≤ x → x ≤ 2100 → (n + 2 - x).toNat = d →
    Ev (fun k => spec_FourFind.l0 k n x) (fin (sqFrom (fun x => sqs 2 x (n - x * x)) 4 n (n + 2 - x).toNat x)) := by
  have stop : ∀ x : Int, 0 ≤ x → x ≤ 2100 → ¬ x * x * 4 ≤ n → Ev (fun k => spec_FourFind.l0 k n x) ([], false) := by
    intro x hx hX c
    refine Ev.step (f := fun k => spec_FourFind.j1 k n x false) (fun k => ?_) (Ev.step (f := fun _ => some ([], false)) (fun k => ?_) (Ev.now _))
    · simp only [spec_FourFind.l0]
      rw [wc (by omega) (by omega) hx (by omega), if_neg c]
    · simp [spec_FourFind.j1]
  intro d
  induction d with
  | zero =>
    intro x hx hX hd
    have : ¬ x * x * 4 ≤ n := fun c => by have := sq_bound (c := 4) (by omega) hx c; omega
    rw [sqFrom_stop _ this]
    exact stop x hx hX this
  | succ d ih =>
    intro x hx hX hd
    by_cases c : x * x * 4 ≤ n
    · have hb := sq_bound (c := 4) (by omega) hx c
      have IH := ih (x + 1) (by omega) (by omega) (by omega)
      have h1 := four1 n x hn0 hn hx hb.1 _ IH (n - x * x + 2 - x).toNat x hx (by omega) rfl
      have e : sqFrom (fun y => sqs 1 y (n - x * x - y * y)) 3 (n - x * x) (n - x * x + 2 - x).toNat x = sqs 2 x (n - x * x) := by simp only [sqs]; rfl
      rw [e] at h1
      refine Ev.step (f := fun k => spec_FourFind.j1 k n x true) (fun k => ?_) (Ev.step (f := fun k => spec_FourFind.l1 k n x x) (fun k => ?_) ?_)
      · simp only [spec_FourFind.l0, spec_l8Sum.f, spec_l6In.f]
        rw [wc (by omega) (by omega) hx (by omega), if_pos c, if_pos hn0, decide_eq_true hn]
        simp
      · simp [spec_FourFind.j1]
      · cases hq : sqs 2 x (n - x * x) with
        | some r => rw [sqFrom_hit (f := fun x => sqs 2 x (n - x * x)) (by omega) hx c hq]; rw [hq] at h1; exact h1
        | none => rw [sqFrom_next (f := fun x => sqs 2 x (n - x * x)) (by omega) hx c hq]; rw [hq] at h1; exact h1
    · rw [sqFrom_stop _ c]
      exact stop x hx hX c
theorem specFourFind_ev (n : Int) (hw : -9223372036854775808 ≤ n) : Ev (fun k => spec_FourFind.f k n) (if 0 ≤ n ∧ n ≤ 2000 then fin (sqs 3 0 n) else ([], false)) := by
  unfold spec_FourFind.f
  by_cases h : 0 ≤ n ∧ n ≤ 2000
  · rw [if_pos h]
    have := four0 n h.1 h.2 (n + 2).toNat 0 (by omega) (by omega) (by simp)
    have e : sqs 3 0 n = sqFrom (fun x => sqs 2 x (n - x * x)) 4 n (n + 2 - 0).toNat 0 := by simp only [sqs]; rfl
    rw [e]; exact this
  · rw [if_neg h]
    refine Ev.step (f := fun k => spec_FourFind.j1 k n 0 false) (fun k => ?_) (Ev.step (f := fun _ => some ([], false)) (fun k => ?_) (Ev.now _))
    · simp only [spec_FourFind.l0, spec_l8Sum.f, spec_l6In.f]
      have e : wrap64 (wrap64 (4 * 0) * 0) = 0 := by decide +kernel
      rw [e]
      by_cases h0 : 0 ≤ n
      · rw [if_pos h0, if_pos h0, decide_eq_false (by omega)]; simp
      · rw [if_neg h0]
    · simp [spec_FourFind.j1]
theorem implFourFind_eq (n : Int) : impl_FourFind.f n = some (if 0 ≤ n ∧ n ≤ 2000 then fin (sqs 3 0 n) else ([], false)) := by
  unfold impl_FourFind.f impl_squaresOf.f
  rw [if_pos (by omega)]
  by_cases h : 0 ≤ n ∧ n ≤ 2000
  · rw [if_neg (by omega), if_pos h, show ((4 : Int) - 1).toNat = 3 from rfl]
    cases hq : sqs 3 0 n <;> simp [fin]
  · rw [if_pos (by omega), if_neg h]; simp
theorem sqFrom_len {f : Int → Option (List Int)} {c left : Int} {m : Nat} (hf : ∀ x r, f x = some r → r.length = m) : ∀ (d : Nat) (x : Int) (r : List Int), sqFrom f c left d x = some r → r.length = m + 1
  | 0, _, _, h => by simp [sqFrom] at h
  | d + 1, x, r, h => by
    simp only [sqFrom] at h
    split at h
    · split at h
      · rename_i r' hr
        injection h with h
        rw [← h, List.length_cons, hf x r' hr]
      · exact sqFrom_len hf d (x + 1) r h
    · cases h
theorem sqs_len : ∀ (m : Nat) (low left : Int) (r : List Int), sqs m low left = some r → r.length = m + 1
  | 0, low, left, r, h => by
    simp only [sqs] at h
    split at h
    · injection h with h; rw [← h]; rfl
    · cases h
  | m + 1, low, left, r, h => by
    simp only [sqs] at h
    exact sqFrom_len (fun x r hr => sqs_len m _ _ r hr) _ _ _ h
theorem sumDraw_ev' {b : List Int} (hb : BytesB b) (p0 : Int) (hp0 : 0 ≤ p0) (hp1 : p0 ≤ 1000) : ∃ n p, (n = -1 ∨ n = 2000 ∨ n = 2001 ∨ 0 ≤ n ∧ n ≤ 494) ∧ Ev (fun k => spec_l92Sum.f k b p0) (n, p) := by
  obtain ⟨v1, h1, g1, e1⟩ := pick_ev hb (p := p0) (by omega) (by omega) (n := 20) (by omega)
  by_cases c : v1 = 0
  · obtain ⟨v2, h2, g2, e2⟩ := pick_ev hb (p := p0 + 1) (by omega) (by omega) (n := 4) (by omega)
    refine ⟨rd [(-1), 0, 2000, 2001] v2, p0 + 1 + 1, ?_, ?_⟩
    · have : v2 = 0 ∨ v2 = 1 ∨ v2 = 2 ∨ v2 = 3 := by omega
      rcases this with rfl | rfl | rfl | rfl <;> simp [rd]
    · simp only [spec_l92Sum.f]
      refine e1.bind ?_
      simp only [if_pos c, Option.bind_some]
      refine e2.bind ?_
      simp only [if_pos h2, if_pos (show v2 < ((List.length [(-1 : Int), 0, 2000, 2001] : Nat) : Int) from by simp; omega)]
      exact Ev.now _
  · obtain ⟨v2, h2, g2, e2⟩ := pick_ev hb (p := p0 + 1) (by omega) (by omega) (n := 100) (by omega)
    obtain ⟨v3, h3, g3, e3⟩ := pick_ev hb (p := p0 + 1 + 1) (by omega) (by omega) (n := 6) (by omega)
    obtain ⟨v4, h4, g4, e4⟩ := pick_ev hb (p := p0 + 1 + 1 + 1) (by omega) (by omega) (n := 80) (by omega)
    have hm := Int.mul_nonneg h3 h4
    have hM := mul_le2 h3 (show v3 ≤ 5 by omega) h4 (show v4 ≤ 79 by omega)
    refine ⟨v2 + v3 * v4, p0 + 1 + 1 + 1 + 1, .inr (.inr (.inr ⟨by omega, by omega⟩)), ?_⟩
    simp only [spec_l92Sum.f]
    refine e1.bind ?_
    simp only [if_neg c]
    refine e2.bind (e3.bind (e4.bind ?_))
    simp only [w64 (x := v3 * v4) (by omega) (by omega), w64 (x := v2 + v3 * v4) (by omega) (by omega)]
    exact Ev.now _
theorem sumDraw_ev {b : List Int} (hb : BytesB b) : ∃ n p, (n = -1 ∨ n = 2000 ∨ n = 2001 ∨ 0 ≤ n ∧ n ≤ 494) ∧ Ev (fun k => spec_l92Sum.f k b 0) (n, p) := sumDraw_ev' hb 0 (by omega) (by omega)


/-! ### two lists are the same -/
theorem sameInts_l (xs ys : List Int) (he : xs.length = ys.length) (hl : xs.length ≤ 9223372036854775806) : ∀ (d j : Nat), j + d = xs.length →
    Ev (fun k => laws_sameInts.l0 k xs ys j) (decide (xs.drop j = ys.drop j)) := by
  intro d
  induction d with
  | zero =>
    intro j hj
    rw [List.drop_of_length_le (by omega), List.drop_of_length_le (show ys.length ≤ j by omega)]
    refine Ev.step (f := fun _ => some true) (fun k => ?_) (by simpa using Ev.now true)
    simp only [laws_sameInts.l0]
    rw [if_neg (by omega)]
  | succ d ih =>
    intro j hj
    rw [rd_drop (show j < xs.length by omega), rd_drop (show j < ys.length by omega)]
    have := ih (j + 1) (by omega)
    by_cases c : rd xs (j : Int) = rd ys (j : Int)
    · rw [c]
      simp only [List.cons.injEq, true_and]
      refine Ev.step (fun k => ?_) this
      simp only [laws_sameInts.l0]
      rw [if_pos (by omega), if_pos (by omega), if_pos (by omega), if_pos c, w64 (x := (j : Int) + 1) (by omega) (by omega)]
      rfl
    · rw [decide_eq_false (fun h => c (List.cons.inj h).1)]
      refine Ev.step (f := fun _ => some false) (fun k => ?_) (Ev.now _)
      simp only [laws_sameInts.l0]
      rw [if_pos (by omega), if_pos (by omega), if_pos (by omega), if_neg c]
theorem sameInts_ev {xs ys : List Int} (hl : xs.length ≤ 9223372036854775806) : Ev (fun k => laws_sameInts.f k xs ys) (decide (xs = ys)) := by
  unfold laws_sameInts.f
  by_cases c : xs.length = ys.length
  · simp only [if_pos (show (xs.length : Int) = (ys.length : Int) by omega)]
    simpa using sameInts_l xs ys c hl xs.length 0 (by omega)
  · simp only [if_neg (show ¬ (xs.length : Int) = (ys.length : Int) by omega), decide_eq_false (fun h : xs = ys => c (by rw [h]))]
    exact Ev.now _


/-! ### texts as lists of bytes -/
def tx (l : List UInt8) : ByteArray := ⟨l.toArray⟩
theorem tx_data (l : List UInt8) : (tx l).data.toList = l := by simp [tx]
theorem tx_size (l : List UInt8) : (tx l).size = l.length := by simp [tx, ByteArray.size]
theorem tx_append (a b : List UInt8) : tx a ++ tx b = tx (a ++ b) := by
  apply ByteArray.ext
  apply Array.ext'
  simp [tx]
theorem tx_toList (l : List UInt8) : (tx l).toList = l := by simp [tx]
theorem tx_extract (l : List UInt8) (a b : Nat) : (tx l).extract a b = tx ((l.drop a).take (b - a)) := by
  rw [Lib.extract_eq, tx_data]; rfl
theorem index_mid {c : UInt8} : ∀ (a b : List UInt8), c ∉ a → Lib.index (a ++ c :: b) [c] = a.length
  | [], b, _ => by simp [Lib.index]
  | x :: a, b, h => by
    have hx : c ≠ x := fun e => h (by simp [e])
    have := index_mid a b (fun (m : c ∈ a) => h (List.mem_cons_of_mem _ m))
    simp only [List.cons_append, Lib.index, this, List.isPrefixOf, Bool.and_true, List.length_cons]
    rw [if_neg (by simpa using hx), if_neg (by simp)]
    omega
theorem index_not {c : UInt8} : ∀ (a : List UInt8), c ∉ a → Lib.index a [c] = -1
  | [], _ => by simp [Lib.index]
  | x :: a, h => by
    have hx : c ≠ x := fun e => h (by simp [e])
    have := index_not a (fun (m : c ∈ a) => h (List.mem_cons_of_mem _ m))
    simp only [Lib.index, this, List.isPrefixOf, Bool.and_true]
    rw [if_neg (by simpa using hx), if_pos (by simp)]
theorem split_not {c : UInt8} {a : List UInt8} (h : c ∉ a) : Lib.split a [c] = [a] := by
  unfold Lib.split
  rw [Lib.count_miss (index_not a h)]
  rfl
theorem split_mid {c : UInt8} {a : List UInt8} (b : List UInt8) (h : c ∉ a) : Lib.split (a ++ c :: b) [c] = a :: Lib.split b [c] := by
  unfold Lib.split
  have hi := index_mid a b h
  rw [Lib.count_hit (by simp) hi, Nat.add_comm 1]
  have hk : Lib.splitK [c] 0 (Lib.count b [c] + 1) (a ++ c :: b) = if Lib.index (a ++ c :: b) [c] == -1 then [a ++ c :: b] else (a ++ c :: b).take ((Lib.index (a ++ c :: b) [c]).toNat + 0) :: Lib.splitK [c] 0 (Lib.count b [c]) ((a ++ c :: b).drop ((Lib.index (a ++ c :: b) [c]).toNat + [c].length)) := rfl
  have e : (a ++ c :: b).drop (a.length + [c].length) = b := by simp
  have e2 : ((a.length : Int)).toNat = a.length := by omega
  rw [e, hk, hi, if_neg (by simp), e2, e, Nat.add_zero, List.take_left]
theorem split_tx {s : List UInt8} {c : UInt8} (hs : s.length < 4294967281) : strings_Split.f (tx s) (tx [c]) = some ((Lib.split s [c]).map tx) := by
  unfold strings_Split.f
  rw [if_pos ⟨by rw [tx_size]; exact hs, by rw [tx_size]; simp⟩]
  have h := Lib.splitB_data (tx [c]) 0 (Lib.countB (tx s) (tx [c])) (tx s)
  rw [tx_data, tx_data] at h
  have e : Lib.countB (tx s) (tx [c]) = Lib.count s [c] := by unfold Lib.countB; rw [tx_data, tx_data]
  rw [e] at h ⊢
  show _ = some ((Lib.splitK [c] 0 (Lib.count s [c]) s).map tx)
  rw [← h, List.map_map]
  have e2 : ∀ l : List ByteArray, l.map (tx ∘ fun x => x.data.toList) = l := by
    intro l
    induction l with
    | nil => rfl
    | cons x l ih => simp only [List.map_cons, ih]; rfl
  rw [e2]
/-! ### numbers as texts -/
theorem dec_step {n : Nat} (h : ¬ n < 10) : Lib.decDigits n = Lib.decDigits (n / 10) ++ [UInt8.ofNat (48 + n % 10)] := by
  rw [Lib.decDigits, dif_neg h]
theorem dec_bytes : ∀ (n : Nat), ∀ b ∈ Lib.decDigits n, 48 ≤ b.toNat ∧ b.toNat ≤ 57 := by
  intro n
  induction n using Nat.strongRecOn with
  | _ n ih =>
    by_cases c : n < 10
    · rw [Lib.decDigits_one c]
      intro b hb
      obtain rfl := List.mem_singleton.1 hb
      rw [UInt8.toNat_ofNat']
      omega
    · rw [dec_step c]
      intro b hb
      rcases List.mem_append.1 hb with hb | hb
      · exact ih _ (by omega) b hb
      · obtain rfl := List.mem_singleton.1 hb
        rw [UInt8.toNat_ofNat']
        omega
/-- The number that digits tell. -/
def valD (l : List UInt8) (n : Int) : Int := l.foldl (fun n b => n * 10 + ((b.toNat : Int) - 48)) n
theorem dec_val : ∀ (n : Nat), valD (Lib.decDigits n) 0 = n := by
  intro n
  induction n using Nat.strongRecOn with
  | _ n ih =>
    by_cases c : n < 10
    · rw [Lib.decDigits_one c]
      simp only [valD, List.foldl_cons, List.foldl_nil, UInt8.toNat_ofNat']
      omega
    · rw [dec_step c]
      have := ih (n / 10) (by omega)
      unfold valD at this ⊢
      rw [List.foldl_append, this]
      simp only [List.foldl_cons, List.foldl_nil, UInt8.toNat_ofNat']
      omega
theorem dec_ne (n : Nat) : 1 ≤ (Lib.decDigits n).length := by
  rw [Lib.decDigits_length]; exact Lib.nDigits_pos n
theorem dec_len4 {n : Nat} (h : n < 10000) : (Lib.decDigits n).length ≤ 4 := by
  rw [Lib.decDigits_length]
  by_cases c0 : n < 10
  · rw [Lib.nDigits_small c0]; omega
  rw [Lib.nDigits_big c0]
  by_cases c1 : n / 10 < 10
  · rw [Lib.nDigits_small c1]; omega
  rw [Lib.nDigits_big c1]
  by_cases c2 : n / 10 / 10 < 10
  · rw [Lib.nDigits_small c2]; omega
  rw [Lib.nDigits_big c2]
  rw [Lib.nDigits_small (by omega)]; omega
theorem digits_nat : ∀ (n : Nat), n ≤ 4611686018427387904 → Ev (fun k => laws_digits.f k (n : Int)) (tx (Lib.decDigits n)) := by
  intro n
  induction n using Nat.strongRecOn with
  | _ n ih =>
    intro hn
    by_cases c : n < 10
    · rw [Lib.decDigits_one c]
      refine Ev.step (f := fun _ => some (tx [UInt8.ofNat (48 + n)])) (fun k => ?_) (Ev.now _)
      simp only [laws_digits.f]
      rw [if_neg (by omega), if_pos (by omega), w64 (by omega) (by omega)]
      congr 1
      have e : ((48 + (n : Int)) % 256).toNat = 48 + n := by omega
      simp [strOfNums, tx, e]
    · rw [dec_step c]
      have e1 : Int.tdiv (n : Int) 10 = ((n / 10 : Nat) : Int) := rfl
      have e2 : Int.tmod (n : Int) 10 = ((n % 10 : Nat) : Int) := rfl
      have hl := Lib.nDigits_le20 (n / 10) (by omega)
      refine Ev.step (f := fun k => (laws_digits.f k ((n / 10 : Nat) : Int)).bind fun t160 => ((some (([(wrap64 (48 + ((n % 10 : Nat) : Int))) % 256] : List Int) : List Int)).bind fun y161 => (if t160.size + (strOfNums y161).size ≤ 9223372036854775807 then (some (t160 ++ (strOfNums y161))) else (none)))) (fun k => ?_) ?_
      · simp only [laws_digits.f]
        rw [if_neg (by omega), if_neg (by omega), e1, e2, w64 (x := ((n / 10 : Nat) : Int)) (by omega) (by omega)]
      refine (ih (n / 10) (by omega) (by omega)).bind ?_
      have e3 : strOfNums [(wrap64 (48 + ((n % 10 : Nat) : Int))) % 256] = tx [UInt8.ofNat (48 + n % 10)] := by
        rw [w64 (by omega) (by omega)]
        have e : ((48 + ((n % 10 : Nat) : Int)) % 256).toNat = 48 + n % 10 := by omega
        simp only [strOfNums, tx, List.map_cons, List.map_nil, e]
      simp only [Option.bind_some, e3, tx_size, tx_append, Lib.decDigits_length, List.length_singleton]
      rw [if_pos (by omega)]
      exact Ev.now _
theorem itoa_of {n : Int} (h : 0 ≤ n) : Lib.itoa n = Lib.decDigits n.toNat := by unfold Lib.itoa; rw [if_neg (by omega)]
theorem digits_ev {n : Int} (h0 : -4611686018427387904 ≤ n) (h1 : n ≤ 4611686018427387904) : Ev (fun k => laws_digits.f k n) (tx (Lib.itoa n)) := by
  by_cases c : n < 0
  · have d := digits_nat n.natAbs (by omega)
    have e : Lib.itoa n = 45 :: Lib.decDigits n.natAbs := by unfold Lib.itoa; rw [if_pos c]
    rw [e]
    refine Ev.step (f := fun k => (laws_digits.f k ((n.natAbs : Nat) : Int)).bind fun t156 => (if 1 + t156.size ≤ 9223372036854775807 then (some ((⟨#[45]⟩ : ByteArray) ++ t156)) else (none))) (fun k => ?_) (d.bind ?_)
    · simp only [laws_digits.f]
      rw [if_pos c, w64 (by omega) (by omega), show -n = ((n.natAbs : Nat) : Int) by omega]
    · have hl := Lib.nDigits_le20 n.natAbs (by omega)
      rw [tx_size, Lib.decDigits_length, if_pos (by omega), show (⟨#[45]⟩ : ByteArray) = tx [45] from rfl, tx_append]
      exact Ev.now _
  · rw [itoa_of (by omega)]
    have := digits_nat n.toNat (by omega)
    rwa [Int.toNat_of_nonneg (by omega)] at this
/-! ### lists of numbers as texts -/
/-- Numbers with a space ahead of each. -/
def spc (xs : List Int) : List UInt8 := xs.flatMap fun x => 32 :: Lib.itoa x
/-- Numbers with spaces between. -/
def jn (xs : List Int) : List UInt8 := Lib.join (xs.map Lib.itoa) [32]
def Mid (xs : List Int) : Prop := ∀ x ∈ xs, -4611686018427387904 ≤ x ∧ x ≤ 4611686018427387904
theorem spc_len {xs : List Int} (h : Mid xs) : (spc xs).length ≤ 22 * xs.length := by
  induction xs with
  | nil => simp [spc]
  | cons x xs ih =>
    have h1 := h x (by simp)
    have := ih (fun y hy => h y (by simp [hy]))
    have hl := Lib.itoa_length_le x (by omega) (by omega)
    simp only [spc, List.flatMap_cons, List.length_append, List.length_cons] at this ⊢
    omega
theorem jn_cons (x : Int) (xs : List Int) : jn (x :: xs) = Lib.itoa x ++ spc xs := by
  induction xs generalizing x with
  | nil => simp [jn, Lib.join, spc, List.intercalate]
  | cons y xs ih =>
    have := ih y
    simp only [jn, Lib.join, List.map_cons, List.intercalate, spc, List.flatMap_cons] at this ⊢
    rw [List.intersperse_cons_cons, List.flatten_cons, List.flatten_cons, this]
    simp
theorem jn_spc (xs : List Int) : (spc xs).drop 1 = jn xs := by
  cases xs with
  | nil => simp [spc, jn, Lib.join, List.intercalate]
  | cons x xs => rw [jn_cons]; simp [spc]
theorem jn_len {xs : List Int} (h : Mid xs) : (jn xs).length ≤ 22 * xs.length := by
  rw [← jn_spc, List.length_drop]
  have := spc_len h
  omega
theorem spaced_l (xs : List Int) (hx : Mid xs) (hl : xs.length ≤ 1000000) : ∀ (d j : Nat) (out : List UInt8), j + d = xs.length → out.length ≤ 22 * j →
    Ev (fun k => laws_spaced.l0 k xs (tx out) (j : Int)) (tx (out ++ spc (xs.drop j))) := by
  intro d
  induction d with
  | zero =>
    intro j out hj _
    rw [List.drop_of_length_le (by omega)]
    refine Ev.step (f := fun _ => some (tx out)) (fun k => ?_) (by simpa [spc] using Ev.now (tx out))
    simp only [laws_spaced.l0]
    rw [if_neg (by omega)]
  | succ d ih =>
    intro j out hj ho
    have hm := hx _ (rd_mem (show j < xs.length by omega))
    have hlen := Lib.itoa_length_le (rd xs (j : Int)) (by omega) (by omega)
    have := ih (j + 1) (out ++ (32 :: Lib.itoa (rd xs (j : Int)))) (by omega) (by simp; omega)
    rw [rd_drop (show j < xs.length by omega)]
    refine Ev.step (f := fun k => (laws_digits.f k (rd xs (j : Int))).bind fun t165 => (if ((tx out) ++ (⟨#[32]⟩ : ByteArray)).size + t165.size ≤ 9223372036854775807 then (laws_spaced.l0 k xs (((tx out) ++ (⟨#[32]⟩ : ByteArray)) ++ t165) ((j + 1 : Nat) : Int)) else (none))) (fun k => ?_) ((digits_ev hm.1 hm.2).bind ?_)
    · simp only [laws_spaced.l0]
      rw [if_pos (by omega), tx_size, if_pos (by omega), if_pos (by omega), w64 (x := (j : Int) + 1) (by omega) (by omega)]
      rfl
    · rw [show (⟨#[32]⟩ : ByteArray) = tx [32] from rfl, tx_append, tx_append, tx_size, tx_size]
      simp only [List.length_append, List.length_singleton]
      simp only [if_pos (show out.length + 1 + (Lib.itoa (rd xs (j : Int))).length ≤ 9223372036854775807 by omega)]
      simpa [spc] using this
theorem spaced_ev {xs : List Int} (hx : Mid xs) (hl : xs.length ≤ 1000000) : Ev (fun k => laws_spaced.f k xs) (tx (spc xs)) := by
  have := spaced_l xs hx hl xs.length 0 [] (by omega) (by simp)
  rw [List.nil_append, List.drop_zero] at this
  exact this
theorem tail_eq (l : List UInt8) : laws_tail.f (tx l) = some (tx (l.drop 1)) := by
  unfold laws_tail.f
  rw [tx_toList]
  cases l with
  | nil => rfl
  | cons x l =>
    rw [if_neg (by simp), if_pos (by rw [tx_size, List.length_cons]; omega), tx_extract, tx_size]
    simp
theorem endLine_ev {n : Int} (h0 : -4611686018427387904 ≤ n) (h1 : n ≤ 4611686018427387904) : Ev (fun k => laws_endLine.f k n) (tx ([116, 101, 114, 109, 115, 32] ++ Lib.itoa n ++ [10])) := by
  have hlen := Lib.itoa_length_le n (by omega) (by omega)
  unfold laws_endLine.f
  refine (digits_ev h0 h1).bind ?_
  rw [show (⟨#[116, 101, 114, 109, 115, 32]⟩ : ByteArray) = tx [116, 101, 114, 109, 115, 32] from rfl, show (⟨#[10]⟩ : ByteArray) = tx [10] from rfl, tx_append, tx_append, tx_size, tx_size, if_pos (by omega), if_pos (by simp; omega)]
  exact Ev.now _
theorem itoa_eq {n : Int} (h0 : -4611686018427387904 ≤ n) (h1 : n ≤ 4611686018427387904) : strconv_Itoa.f n = some (tx (Lib.itoa n)) := by
  unfold strconv_Itoa.f
  rw [if_pos (by omega)]; rfl
theorem join_eq {xs : List Int} (hx : Mid xs) (hl : xs.length ≤ 1000000) : strings_Join.f (xs.map fun x => tx (Lib.itoa x)) (tx [32]) = some (tx (jn xs)) := by
  unfold strings_Join.f
  have e : (xs.map fun x => tx (Lib.itoa x)).map (fun b => b.data.toList) = xs.map Lib.itoa := by
    rw [List.map_map]; congr 1
  have hj := jn_len hx
  rw [e, tx_data, List.length_map, if_pos ⟨by omega, by unfold jn at hj; omega⟩]
  rfl
theorem listText_l (xs : List Int) (hx : Mid xs) (hl : xs.length ≤ 1000000) : ∀ (d j : Nat), j + d = xs.length →
    Ev (fun k => impl_listText.l0 k ((xs.take j).map fun x => tx (Lib.itoa x)) xs (xs.length : Int) (j : Int)) (tx (jn xs)) := by
  intro d
  induction d with
  | zero =>
    intro j hj
    rw [List.take_of_length_le (by omega)]
    refine Ev.step (f := fun _ => some (tx (jn xs))) (fun k => ?_) (Ev.now _)
    simp only [impl_listText.l0]
    rw [if_neg (by omega), show (⟨#[32]⟩ : ByteArray) = tx [32] from rfl, join_eq hx hl]
    rfl
  | succ d ih =>
    intro j hj
    have hm := hx _ (rd_mem (show j < xs.length by omega))
    have := ih (j + 1) (by omega)
    have e : (xs.take (j + 1)).map (fun x => tx (Lib.itoa x)) = (xs.take j).map (fun x => tx (Lib.itoa x)) ++ [tx (Lib.itoa (rd xs (j : Int)))] := by
      have e9 : xs.take (j + 1) = xs.take j ++ [rd xs (j : Int)] := by
        have h9 := rd_drop (show j < xs.length by omega)
        rw [List.take_add_one, ← List.head?_drop, h9]
        simp
      rw [e9]; simp
    rw [e] at this
    refine Ev.step (fun k => ?_) this
    simp only [impl_listText.l0]
    rw [if_pos (by omega), if_pos (by omega), if_pos (by omega), itoa_eq hm.1 hm.2]
    simp only [Option.bind_some]
    rw [if_pos (by simp; omega), w64 (x := (j : Int) + 1) (by omega) (by omega)]
    rfl
theorem listText_ev {xs : List Int} (hx : Mid xs) (hl : xs.length ≤ 1000000) : Ev (fun k => impl_listText.f k xs) (tx (jn xs)) := by
  have := listText_l xs hx hl xs.length 0 (by omega)
  rw [List.take_zero, List.map_nil] at this
  exact this
theorem found_ev {xs : List Int} (hx : Mid xs) (hl : xs.length ≤ 1000000) : Ev (fun k => impl_found.f k xs true) (tx (jn xs)) := by
  unfold impl_found.f
  simp only [if_true]
  exact (listText_ev hx hl).bind (Ev.now _)
/-! ### a number read from its text -/
theorem bt_tx (l : List UInt8) (j : Nat) (h : j < l.length) : bt (tx l) (j : Int) = (l[j].toNat : Int) := by
  unfold bt
  rw [dif_pos (by rw [tx_size]; simpa using h)]
  simp [tx, ByteArray.getElem_eq_getElem_data]
theorem numberOf_l (l : List UInt8) (hl : l.length ≤ 4) (hb : ∀ b ∈ l, 48 ≤ b.toNat ∧ b.toNat ≤ 57) (m : Bool) : ∀ (d j : Nat) (n : Int), j + d = l.length → 0 ≤ n → n < 10 ^ j →
    Ev (fun k => impl_numberOf.l0 k (tx l) m n (l.length : Int) (j : Int)) (if m = true then wrap64 (-(valD (l.drop j) n)) else valD (l.drop j) n) := by
  intro d
  induction d with
  | zero =>
    intro j n hj h0 h1
    rw [List.drop_of_length_le (by omega)]
    refine Ev.step (f := fun _ => some (if m = true then wrap64 (-n) else n)) (fun k => ?_) (Ev.now _)
    simp only [impl_numberOf.l0]
    rw [if_neg (by omega)]
    cases m <;> rfl
  | succ d ih =>
    intro j n hj h0 h1
    have hjl : j < l.length := by omega
    have hp : (10 : Int) ^ j ≤ 1000 := by
      have : j = 0 ∨ j = 1 ∨ j = 2 ∨ j = 3 := by omega
      rcases this with rfl | rfl | rfl | rfl <;> decide
    have hbj := hb l[j] (List.getElem_mem hjl)
    have := ih (j + 1) (n * 10 + ((l[j].toNat : Int) - 48)) (by omega) (by omega) (by rw [Int.pow_succ]; omega)
    rw [List.drop_eq_getElem_cons hjl]
    refine Ev.step (fun k => ?_) this
    simp only [impl_numberOf.l0]
    rw [if_pos (by omega), if_pos (by omega), if_pos (by rw [tx_size]; omega), bt_tx l j hjl, if_neg (by omega), if_neg (by omega), w64 (x := n * 10) (by omega) (by omega), w64 (x := (j : Int) + 1) (by omega) (by omega),
      show ((l[j].toNat : Int) - 48) % 256 = (l[j].toNat : Int) - 48 by omega, w64 (by omega) (by omega)]
    rfl
theorem cutPrefix_not (l : List UInt8) (h : l.head? ≠ some 45) : strings_CutPrefix.f (tx l) (⟨#[45]⟩ : ByteArray) = some (tx l, false) := by
  rw [show (⟨#[45]⟩ : ByteArray) = tx [45] from rfl]
  unfold strings_CutPrefix.f stringslite_CutPrefix.f stringslite_HasPrefix.f
  cases l with
  | nil => simp [tx_size]
  | cons x l =>
    have hx : x ≠ 45 := fun e => h (by simp [e])
    simp only [tx_size, tx_extract, tx_toList, List.length_cons, List.length_nil]
    rw [if_pos (by omega), if_pos (by omega), if_pos (by omega)]
    simp [hx]
theorem cutPrefix_less (l : List UInt8) : strings_CutPrefix.f (tx (45 :: l)) (⟨#[45]⟩ : ByteArray) = some (tx l, true) := by
  rw [show (⟨#[45]⟩ : ByteArray) = tx [45] from rfl]
  unfold strings_CutPrefix.f stringslite_CutPrefix.f stringslite_HasPrefix.f
  simp only [tx_size, tx_extract, tx_toList, List.length_cons, List.length_nil]
  rw [if_pos (by omega), if_pos (by omega), if_pos (by omega)]
  simp only [List.drop_zero, List.take_succ_cons, List.drop_succ_cons]
  simp
  rw [if_pos (by omega)]
  rfl
theorem numberOf_ev {n : Int} (h0 : -10000 < n) (h1 : n < 10000) : Ev (fun k => impl_numberOf.f k (tx (Lib.itoa n))) n := by
  unfold impl_numberOf.f
  by_cases c : n < 0
  · have e : Lib.itoa n = 45 :: Lib.decDigits n.natAbs := by unfold Lib.itoa; rw [if_pos c]
    have h4 := dec_len4 (n := n.natAbs) (by omega)
    have h5 := dec_ne n.natAbs
    rw [e, cutPrefix_less]
    simp only [Option.bind_some, tx_size]
    simp only [if_neg (show ¬ ((Lib.decDigits n.natAbs).length : Int) < 1 by omega), show decide (((Lib.decDigits n.natAbs).length : Int) > 4) = false from decide_eq_false (by omega)]
    have := numberOf_l (Lib.decDigits n.natAbs) h4 (dec_bytes _) true (Lib.decDigits n.natAbs).length 0 0 (by omega) (by omega) (by decide)
    rw [if_pos rfl, List.drop_zero, dec_val, w64 (by omega) (by omega), show -((n.natAbs : Nat) : Int) = n by omega] at this
    refine Ev.step (fun k => ?_) this
    simp only [impl_numberOf.j0, tx_size]
    rfl
  · rw [itoa_of (by omega)]
    have h4 := dec_len4 (n := n.toNat) (by omega)
    have h5 := dec_ne n.toNat
    rw [cutPrefix_not _ (fun e => by
      have := dec_bytes n.toNat 45 (List.mem_of_mem_head? e)
      revert this; decide)]
    simp only [Option.bind_some, tx_size]
    simp only [if_neg (show ¬ ((Lib.decDigits n.toNat).length : Int) < 1 by omega), show decide (((Lib.decDigits n.toNat).length : Int) > 4) = false from decide_eq_false (by omega)]
    have := numberOf_l (Lib.decDigits n.toNat) h4 (dec_bytes _) false (Lib.decDigits n.toNat).length 0 0 (by omega) (by omega) (by decide)
    rw [if_neg (by simp), List.drop_zero, dec_val, Int.toNat_of_nonneg (by omega)] at this
    refine Ev.step (fun k => ?_) this
    simp only [impl_numberOf.j0, tx_size]
    rfl
/-! ### a script -/
theorem runL_one {line : List UInt8} {ls : List ByteArray} {form form' : List Int} {out r : List UInt8} {x : List Int × List UInt8} (hs : line.length ≤ 1000) (hr : r.length ≤ 1000000) (ho : out.length ≤ 1000000000)
    (hc : Ev (fun k => impl_command.f k form ((Lib.split line [32]).map tx)) (form', tx r)) (hn : Ev (fun k => runL k ls form' (out ++ (r ++ [10]))) x) : Ev (fun k => runL k (tx line :: ls) form out) x := by
  simp only [runL]
  rw [show (⟨#[32]⟩ : ByteArray) = tx [32] from rfl, split_tx (by omega)]
  simp only [Option.bind_some]
  refine hc.bind ?_
  rw [tx_size]
  simp only [if_pos (And.intro hr ho)]
  rw [show (⟨#[10]⟩ : ByteArray) = tx [10] from rfl, tx_append, tx_data]
  exact hn
theorem runL_nil (form : List Int) (out : List UInt8) : Ev (fun k => runL k [] form out) (form, out) := by
  simp only [runL]; exact Ev.now _
theorem execute_ev {s out : List UInt8} {ls : List (List UInt8)} {form : List Int} (h5 : s.length ≤ 500) (hs : Lib.split s [10] = ls ++ [[]]) (hr : Ev (fun k => runL k (ls.map tx) [1] []) (form, out)) (hf : form.length ≤ 1000000) (ho : out.length ≤ 1000000000) :
    Ev (fun k => impl_Execute.f k (tx s)) (tx (out ++ ([116, 101, 114, 109, 115, 32] ++ Lib.itoa (form.length : Int) ++ [10]))) := by
  have hl := Lib.itoa_length_le (form.length : Int) (by omega) (by omega)
  unfold impl_Execute.f
  simp only [tx_size, if_neg (show ¬ s.length > 500 by omega), show (⟨#[10]⟩ : ByteArray) = tx [10] from rfl, split_tx (s := s) (c := 10) (by omega), hs]
  simp only [Option.bind_some, List.map_append, List.map_cons, List.map_nil, List.dropLast_concat]
  refine hr.bind ?_
  dsimp only
  rw [itoa_eq (n := (form.length : Int)) (by omega) (by omega)]
  simp only [Option.bind_some]
  rw [if_pos ⟨by rw [tx_size]; omega, ho, hf⟩, show (⟨#[116, 101, 114, 109, 115, 32]⟩ : ByteArray) = tx [116, 101, 114, 109, 115, 32] from rfl, tx_append, tx_append, tx_data]
  exact Ev.now _
/-- The bytes of a number's text are no blank and no end of a line. -/
theorem itoa_no (n : Int) {c : UInt8} (hc : c.toNat < 45) : c ∉ Lib.itoa n := by
  unfold Lib.itoa
  by_cases h : n < 0
  · rw [if_pos h]
    intro m
    rcases List.mem_cons.1 m with e | m
    · subst e; revert hc; decide
    · have := dec_bytes _ _ m; omega
  · rw [if_neg h]
    intro m
    have := dec_bytes _ _ m; omega


theorem four_small {n : Int} (hn : n ≤ 2000) {a b c d : Int} (h : sqs 3 0 n = some [a, b, c, d]) : Mid [a, b, c, d] := by
  obtain ⟨h1, h2⟩ := sqs_good 3 0 n _ (by omega) h
  rw [sumSq_cons, sumSq_cons, sumSq_cons, sumSq_cons] at h2
  have e0 : sumSq [] = 0 := rfl
  have a1 := sq_nonneg a
  have a2 := sq_nonneg b
  have a3 := sq_nonneg c
  have a4 := sq_nonneg d
  have hx : ∀ x : Int, x * x ≤ 2000 → -4611686018427387904 ≤ x ∧ x ≤ 4611686018427387904 := by
    intro x hx
    constructor
    · refine Int.not_lt.1 fun hc => ?_
      have : (50 : Int) * 50 ≤ -x * -x := Int.mul_le_mul (by omega) (by omega) (by omega) (by omega)
      rw [Int.neg_mul_neg] at this
      omega
    · refine Int.not_lt.1 fun hc => ?_
      have : (50 : Int) * 50 ≤ x * x := Int.mul_le_mul (by omega) (by omega) (by omega) (by omega)
      omega
  intro x hm
  simp only [List.mem_cons, List.mem_nil_iff, or_false] at hm
  rcases hm with rfl | rfl | rfl | rfl <;> exact hx _ (by omega)
def sqW : List UInt8 := [115, 113, 117, 97, 114, 101, 115]
theorem cmd_ev {n : Int} {xs : List Int} (h0 : -10000 < n) (h1 : n < 10000) (hf : impl_FourFind.f n = some (xs, true)) (hx : Mid xs) (hl : xs.length ≤ 1000000) (form : List Int) :
    Ev (fun k => impl_command.f k form ((Lib.split (sqW ++ 32 :: Lib.itoa n) [32]).map tx)) (form, tx (jn xs)) := by
  rw [split_mid (a := sqW) _ (by decide), split_not (itoa_no n (by decide))]
  simp only [List.map_cons, List.map_nil, impl_command.f]
  rw [show tx sqW = kSquares from rfl]
  simp only [if_true]
  refine (numberOf_ev h0 h1).bind ?_
  simp only [hf, Option.bind_some]
  exact (found_ev hx hl).bind (Ev.now _)
theorem script_ev {n : Int} {xs : List Int} (h0 : -10000 < n) (h1 : n < 10000) (hf : impl_FourFind.f n = some (xs, true)) (hx : Mid xs) (hl : xs.length ≤ 1000) :
    Ev (fun k => impl_Execute.f k (tx (sqW ++ 32 :: Lib.itoa n ++ [10]))) (tx (jn xs ++ [10] ++ ([116, 101, 114, 109, 115, 32] ++ Lib.itoa 1 ++ [10]))) := by
  have hi := Lib.itoa_length_le n (by omega) (by omega)
  have hj := jn_len hx
  have e7 : sqW.length = 7 := rfl
  have hs : Lib.split (sqW ++ 32 :: Lib.itoa n ++ [10]) [10] = [sqW ++ 32 :: Lib.itoa n] ++ [[]] := by
    rw [show sqW ++ 32 :: Lib.itoa n ++ [10] = (sqW ++ 32 :: Lib.itoa n) ++ 10 :: [] from rfl, split_mid, split_not (a := []) (by simp)]
    · rfl
    · intro m
      rcases List.mem_append.1 m with m | m
      · revert m; decide
      · rcases List.mem_cons.1 m with m | m
        · revert m; decide
        · exact itoa_no n (by decide) m
  refine execute_ev (form := [1]) (by simp; omega) hs ?_ (by simp) (by simp; omega)
  refine runL_one (by simp; omega) (r := jn xs) (by omega) (by simp) (cmd_ev h0 h1 hf hx (by omega) [1]) ?_
  simpa using runL_nil [1] (jn xs ++ [10])
theorem holds : laws_FnExecuteSquares.Pure := by
  intro l0 _ _ hw
  refine Ev.rounds ?_
  unfold laws_FnExecuteSquares.f
  by_cases big : (l0.length : Int) > 1048576
  · simp only [if_pos big]; exact Ev.now _
  obtain ⟨b, hb, ho⟩ := open_ev hw
  obtain ⟨n, p, hn, hd⟩ := sumDraw_ev hb
  simp only [if_neg big, spec_DrawFourFind.f, ho, Option.bind_some]
  refine (hd.bind (Ev.now n)).bind ?_
  have ms := specFourFind_ev n (by omega)
  have mi := implFourFind_eq n
  by_cases h : 0 ≤ n ∧ n ≤ 2000
  · rw [if_pos h] at ms mi
    obtain ⟨m, rfl⟩ := Int.eq_ofNat_of_zero_le h.1
    have ha := four_all (n := m) (by omega)
    obtain ⟨r, hq⟩ := Option.isSome_iff_exists.1 ha
    have hl := sqs_len 3 0 m r hq
    match r, hl, hq with
    | [a, b, c, d], _, hq =>
      have hm := four_small (by omega) hq
      rw [hq] at ms mi
      simp only [fin] at ms mi
      simp only [mi, Option.bind_some]
      refine ms.bind ?_
      simp only [bne_self_eq_false, Bool.false_eq_true, if_false]
      have gs := sameInts_ev (xs := [a, b, c, d]) (ys := [a, b, c, d]) (by simp)
      simp only [decide_true] at gs
      refine gs.bind ?_
      simp only [if_true]
      have hi := Lib.itoa_length_le (m : Int) (by omega) (by omega)
      have hj := jn_len hm
      have hs := spc_len hm
      have l4 : (List.length [a, b, c, d]) = 4 := rfl
      refine Ev.step (f := fun k => (laws_digits.f k (m : Int)).bind fun t178 => (if 8 + t178.size ≤ 9223372036854775807 then (if ((⟨#[115, 113, 117, 97, 114, 101, 115, 32]⟩ : ByteArray) ++ t178).size + 1 ≤ 9223372036854775807 then ((impl_Execute.f k (((⟨#[115, 113, 117, 97, 114, 101, 115, 32]⟩ : ByteArray) ++ t178) ++ (⟨#[10]⟩ : ByteArray))).bind fun t179 => ((laws_spaced.f k [a, b, c, d]).bind fun t180 => ((laws_tail.f t180).bind fun t181 => (if t181.size + 1 ≤ 9223372036854775807 then ((laws_endLine.f k 1).bind fun t182 => (if (t181 ++ (⟨#[10]⟩ : ByteArray)).size + t182.size ≤ 9223372036854775807 then (some (t179.toList == ((t181 ++ (⟨#[10]⟩ : ByteArray)) ++ t182).toList)) else (none))) else (none))))) else (none)) else (none))) (fun k => by simp only [laws_FnExecuteSquares.j0]; rfl) ?_
      refine (digits_ev (n := (m : Int)) (by omega) (by omega)).bind ?_
      rw [show (⟨#[115, 113, 117, 97, 114, 101, 115, 32]⟩ : ByteArray) = tx (sqW ++ [32]) from rfl, show (⟨#[10]⟩ : ByteArray) = tx [10] from rfl]
      simp only [tx_append, tx_size]
      have e7 : (sqW ++ [32]).length = 8 := rfl
      simp only [if_pos (show 8 + (Lib.itoa (m : Int)).length ≤ 9223372036854775807 by omega), if_pos (show (sqW ++ [32] ++ Lib.itoa (m : Int)).length + 1 ≤ 9223372036854775807 by rw [List.length_append]; omega)]
      have he := script_ev (n := (m : Int)) (by omega) (by omega) mi hm (by omega)
      rw [show sqW ++ 32 :: Lib.itoa (m : Int) ++ [10] = sqW ++ [32] ++ Lib.itoa (m : Int) ++ [10] by simp] at he
      refine he.bind ((spaced_ev hm (by omega)).bind ?_)
      rw [tail_eq, jn_spc]
      simp only [Option.bind_some, tx_size]
      simp only [if_pos (show (jn [a, b, c, d]).length + 1 ≤ 9223372036854775807 by omega)]
      refine (endLine_ev (n := 1) (by omega) (by omega)).bind ?_
      have h1 := Lib.itoa_length_le 1 (by omega) (by omega)
      rw [tx_append, tx_append, tx_size, tx_size, tx_toList]
      simp only [if_pos (show (jn [a, b, c, d] ++ [10]).length + ([116, 101, 114, 109, 115, 32] ++ Lib.itoa 1 ++ [10]).length ≤ 9223372036854775807 by simp only [List.length_append, List.length_cons, List.length_nil] at *; omega), beq_self_eq_true]
      exact Ev.now _
  · rw [if_neg h] at ms mi
    simp only [mi, Option.bind_some]
    refine ms.bind ?_
    simp only [bne_self_eq_false, Bool.false_eq_true, if_false]
    have gs := sameInts_ev (xs := []) (ys := []) (by simp)
    simp only [decide_true] at gs
    refine gs.bind ?_
    simp only [if_true]
    refine Ev.step (f := fun k => (laws_sameInts.f k [] []).bind fun t177 => some t177) (fun k => by simp [laws_FnExecuteSquares.j0]) (gs.bind (Ev.now _))

end Go.Proofs.YtacfcoilmdhgnaaGreatDoor.QFnExecuteSquares
