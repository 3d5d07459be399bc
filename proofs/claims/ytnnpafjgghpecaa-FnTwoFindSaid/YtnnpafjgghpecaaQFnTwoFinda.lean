/- Two squares, found. -/
import Derived.Test.YtnnpafjgghpecaaPFnTwoFindx2
import Derived.Test.YtnnpafjgghpecaaSqFast
set_option linter.unusedVariables false
set_option linter.unusedSimpArgs false
namespace Go.Proofs.Ytnnpafjgghpecaa.QFnTwoFind
open Go.RowKit Go.Proofs.Ytnnpafjgghpecaa.PFnTwoFind Go.Proofs.YtnnpafjgghpecaaW.PrintWords Go.Proofs.YtnnpafjgghpecaaW.PrintLast Go.Proofs.YtnnpafjgghpecaaW.PrintMore Locg

/-! ### draws -/
theorem xor_i64_nat (a b : Nat) (ha : a < 9223372036854775808) (hb : b < 9223372036854775808) : Go.bits .xor .i64 (a : Int) (b : Int) = ((a ^^^ b : Nat) : Int) := by
  have hx : a ^^^ b < 2 ^ 63 := Nat.xor_lt_two_pow (by omega) (by omega)
  have h1 : (BitVec.ofInt 64 (a : Int)).toNat = a := by
    rw [BitVec.ofInt_natCast, BitVec.toNat_ofNat]; exact Nat.mod_eq_of_lt (by omega)
  have h2 : (BitVec.ofInt 64 (b : Int)).toNat = b := by
    rw [BitVec.ofInt_natCast, BitVec.toNat_ofNat]; exact Nat.mod_eq_of_lt (by omega)
  show IntKind.i64.wrap ((BitVec.ofInt 64 (a : Int) ^^^ BitVec.ofInt 64 (b : Int)).toNat : Int) = _
  rw [BitVec.toNat_xor, h1, h2]
  have hw : ∀ n : Int, IntKind.i64.wrap n = wrap64 n := fun n => by simp [IntKind.wrap, wrap64, IntKind.bits, IntKind.signed]; omega
  rw [hw]
  exact w64' (by omega) (by omega)
theorem xor_nonneg (a b : Int) (ha : 0 ≤ a) (hA : a < 9223372036854775808) (hb : 0 ≤ b) (hB : b < 9223372036854775808) : 0 ≤ Go.bits .xor .i64 a b := by
  obtain ⟨a, rfl⟩ := Int.eq_ofNat_of_zero_le ha
  obtain ⟨b, rfl⟩ := Int.eq_ofNat_of_zero_le hb
  rw [xor_i64_nat a b (by omega) (by omega)]
  exact Int.natCast_nonneg _
theorem tmod_range {x n : Int} (hx : 0 ≤ x) (hn : 1 ≤ n) : 0 ≤ x.tmod n ∧ x.tmod n < n := by
  rw [Int.tmod_eq_emod_of_nonneg hx]; exact ⟨Int.emod_nonneg _ (by omega), Int.emod_lt_of_pos _ (by omega)⟩
def BytesB (b : List Int) : Prop := (∀ x ∈ b, 0 ≤ x ∧ x ≤ 255) ∧ b.length ≤ 2000
theorem BytesB.rd_ {b : List Int} (h : BytesB b) (i : Int) : 0 ≤ rd b i ∧ rd b i ≤ 255 := by
  unfold rd
  by_cases c : i.toNat < b.length
  · have := h.1 (b[i.toNat]) (by simp)
    simpa [List.getElem?_eq_getElem c] using this
  · simp [List.getElem?_eq_none (show b.length ≤ i.toNat by omega)]
theorem pick_ev {b : List Int} (hb : BytesB b) {p : Int} (hp : 0 ≤ p) (hP : p ≤ 1000000) {n : Int} (hn : 1 ≤ n) :
    ∃ v, 0 ≤ v ∧ v < n ∧ Ev (fun k => spec_l6Rd_pick.f k b p n) (v, p + 1) := by
  have hl := hb.2
  rcases Nat.eq_zero_or_pos b.length with h0 | h0
  · refine ⟨0, by omega, by omega, Ev.step (f := fun _ => some (0, p + 1)) (fun k => ?_) (Ev.now _)⟩
    simp only [spec_l6Rd_pick.f, spec_l6Rd_pick.j0]
    rw [if_neg (by omega), w64 (x := p + 1) (by omega) (by omega), if_pos (by simp [h0])]
  · have e : ∀ k, spec_l6Rd_pick.f (k + 1) b p n = spec_l6Rd_pick.j0 (k + 1) n false b (p + 1) := by
      intro k
      simp only [spec_l6Rd_pick.f]
      rw [if_neg (by omega), w64 (x := p + 1) (by omega) (by omega)]
      congr 1
      simp; intro h; rw [h] at h0; simp at h0
    have hq : wrap64 (p + 1 - 1) = p := by rw [w64 (by omega) (by omega)]; omega
    by_cases c : p < b.length
    · refine ⟨(rd b p).tmod n, ?_, ?_, Ev.step (f := fun _ => some ((rd b p).tmod n, p + 1)) (fun k => ?_) (Ev.now _)⟩
      · exact (tmod_range (hb.rd_ p).1 hn).1
      · exact (tmod_range (hb.rd_ p).1 hn).2
      · have := hb.rd_ p
        rw [e]
        simp only [spec_l6Rd_pick.j0, hq]
        rw [if_neg (by simp), if_pos c, if_pos hp, if_neg (by omega), w64 (x := rd b p) (by omega) (by omega)]
    · have hm := tmod_range hp (n := b.length) (by omega)
      have e7 : wrap64 (p * 7) = p * 7 := w64 (by omega) (by omega)
      have e73 : wrap64 (p * 7 + 3) = p * 7 + 3 := w64 (by omega) (by omega)
      have e29 : wrap64 (p * 29) = p * 29 := w64 (by omega) (by omega)
      have hm2 := tmod_range (x := p * 7 + 3) (by omega) (n := b.length) (by omega)
      have hA := hb.rd_ (p.tmod b.length)
      have hB := hb.rd_ ((p * 7 + 3).tmod b.length)
      have hd : 0 ≤ p.tdiv b.length ∧ p.tdiv b.length ≤ p := by
        rw [Int.tdiv_eq_ediv_of_nonneg hp]; exact ⟨Int.ediv_nonneg hp (by omega), Int.ediv_le_self _ hp⟩
      generalize hAe : rd b (p.tmod b.length) = A at hA
      generalize hBe : rd b ((p * 7 + 3).tmod b.length) = B at hB
      generalize hDe : p.tdiv b.length = D at hd
      have hx64 : 0 ≤ (A * 131 + B * 1117 + p * 29 + D * 53).tdiv 64 ∧ (A * 131 + B * 1117 + p * 29 + D * 53).tdiv 64 ≤ A * 131 + B * 1117 + p * 29 + D * 53 := by
        rw [Int.tdiv_eq_ediv_of_nonneg (by omega)]; omega
      have hx := xor_nonneg (A * 131 + B * 1117 + p * 29 + D * 53) ((A * 131 + B * 1117 + p * 29 + D * 53).tdiv 64) (by omega) (by omega) (by omega) (by omega)
      refine ⟨(Go.bits .xor .i64 (A * 131 + B * 1117 + p * 29 + D * 53) ((A * 131 + B * 1117 + p * 29 + D * 53).tdiv 64)).tmod n, (tmod_range hx hn).1, (tmod_range hx hn).2, Ev.step (f := fun _ => some (_, p + 1)) (fun k => ?_) (Ev.now _)⟩
      rw [e]
      simp only [spec_l6Rd_pick.j0, hq, e7, e73, hAe, hBe, hDe, e29]
      rw [if_neg (by simp), if_neg c, if_neg (by omega), if_pos hm.1, if_pos hm.2, if_pos hm2.1, if_pos hm2.2, if_neg (by omega)]
      rw [w64 (x := A) (by omega) (by omega), w64 (x := B) (by omega) (by omega), w64 (x := D) (by omega) (by omega), w64 (x := A * 131) (by omega) (by omega), w64 (x := B * 1117) (by omega) (by omega),
        w64 (x := A * 131 + B * 1117) (by omega) (by omega), w64 (x := A * 131 + B * 1117 + p * 29) (by omega) (by omega), w64 (x := D * 53) (by omega) (by omega),
        w64 (x := A * 131 + B * 1117 + p * 29 + D * 53) (by omega) (by omega), w64 (x := (A * 131 + B * 1117 + p * 29 + D * 53).tdiv 64) (by omega) (by omega)]
theorem open_ev {l : List Int} (h : ∀ x ∈ l, (Lit.int .u8 x).wf = true) : ∃ b, BytesB b ∧ spec_l6Open.f l = some (b, 0) := by
  have h' : ∀ x ∈ l, 0 ≤ x ∧ x ≤ 255 := fun x hx => by
    have := h x hx
    simp only [Lit.wf, Bool.and_eq_true, decide_eq_true_eq] at this
    have e1 : IntKind.u8.min = 0 := by decide
    have e2 : IntKind.u8.max = 255 := by decide
    omega
  unfold spec_l6Open.f
  by_cases c : (l.length : Int) > 2000
  · refine ⟨l.take 2000, ⟨fun x hx => h' x (List.mem_of_mem_take hx), by simp; omega⟩, ?_⟩
    rw [if_pos c, if_pos (by omega)]
  · exact ⟨l, ⟨h', by omega⟩, by rw [if_neg c]⟩


/-! ### roots -/
theorem l5Root_l (n : Int) (h0 : 0 ≤ n) : ∀ (d : Nat) (lo hi : Int) (k : Nat), 0 ≤ lo → lo ≤ hi → hi ≤ 1048576 → (hi - lo).toNat ≤ d → d < k → n ≤ hi * hi → (lo = 0 ∨ (lo - 1) * (lo - 1) < n) →
    spec_l5Root.l0 k n lo hi = some (if isq n * isq n = n then isq n else -1) := by
  intro d
  induction d with
  | zero =>
    intro k_ hi k hlo hle hhi hd hk hn hl
    obtain ⟨k, rfl⟩ : ∃ m, k = m + 1 := ⟨k - 1, by omega⟩
    obtain rfl : k_ = hi := by omega
    simp only [spec_l5Root.l0]
    rw [if_neg (by omega), wmul hlo (by omega) hlo (by omega)]
    by_cases e : k_ * k_ = n
    · have hq : isq n = k_ := by rw [← e]; exact isq_sq hlo
      rw [if_pos e, hq, if_pos e]
    · rw [if_neg e]
      have h1 : (k_ - 1) * (k_ - 1) < n := by
        rcases hl with h | h
        · subst h; omega
        · exact h
      have hp : 0 < k_ := by
        rcases Int.lt_or_le 0 k_ with h | h
        · exact h
        · obtain rfl : k_ = 0 := by omega
          omega
      have hq : isq n = k_ - 1 := isq_unique (by omega) (by omega) (by rw [show k_ - 1 + 1 = k_ from by omega]; omega)
      rw [hq, if_neg (by omega)]
  | succ d ih =>
    intro lo hi k hlo hle hhi hd hk hn hl
    rcases Int.lt_or_le lo hi with hlt | hge
    · obtain ⟨k, rfl⟩ : ∃ m, k = m + 1 := ⟨k - 1, by omega⟩
      simp only [spec_l5Root.l0]
      rw [if_pos hlt]
      have e1 : wrap64 (lo + hi) = lo + hi := w64 (by omega) (by omega)
      have e2 : Int.tdiv (lo + hi) 2 = (lo + hi) / 2 := tdiv2 (by omega)
      have e3 : wrap64 ((lo + hi) / 2) = (lo + hi) / 2 := w64 (by omega) (by omega)
      rw [e1, e2, e3, wmul (a := (lo + hi) / 2) (b := (lo + hi) / 2) (by omega) (by omega) (by omega) (by omega)]
      by_cases c : (lo + hi) / 2 * ((lo + hi) / 2) < n
      · rw [if_pos c, w64 (x := (lo + hi) / 2 + 1) (by omega) (by omega)]
        exact ih _ _ _ (by omega) (by omega) (by omega) (by omega) (by omega) hn (.inr (by rw [show (lo + hi) / 2 + 1 - 1 = (lo + hi) / 2 from by omega]; exact c))
      · rw [if_neg c]
        exact ih _ _ _ (by omega) (by omega) (by omega) (by omega) (by omega) (by omega) hl
    · exact ih _ _ _ hlo hle hhi (by omega) (by omega) hn hl
theorem l5Root (n : Int) (h0 : 0 ≤ n) (hn : n ≤ 1099511627776) (k : Nat) (hk : 1048577 < k) : spec_l5Root.f k n = some (if isq n * isq n = n then isq n else -1) :=
  l5Root_l n h0 1048576 0 1048576 k (by omega) (by omega) (by omega) (by omega) (by omega) (by omega) (.inl rfl)
theorem l5Root_ev (n : Int) (h0 : 0 ≤ n) (hn : n ≤ 1099511627776) : Ev (fun k => spec_l5Root.f k n) (if isq n * isq n = n then isq n else -1) := ⟨1048578, fun k hk => l5Root n h0 hn k (by omega)⟩

theorem squareRoot_l (n : Int) (h0 : 0 ≤ n) (hn : n < 4611686018427387904) : ∀ (d : Nat) (x bit : Int) (k : Nat), 0 ≤ x → x * x ≤ n → n < (x + 2 * bit) * (x + 2 * bit) → x + 2 * bit ≤ 2147483648 → bit = 2 ^ d → d + 1 < k →
    impl_squareRoot.l0 k n x bit = some (isq n, isq n * isq n == n) := by
  intro d
  have stop : ∀ (x : Int) (k : Nat), 0 ≤ x → x * x ≤ n → n < (x + 1) * (x + 1) → 0 < k → impl_squareRoot.l0 k n x 0 = some (isq n, isq n * isq n == n) := by
    intro x k hx hl hg hk
    obtain ⟨k, rfl⟩ : ∃ m, k = m + 1 := ⟨k - 1, by omega⟩
    simp only [impl_squareRoot.l0]
    have hb : x < 2147483648 := by
      rcases Int.lt_or_le x 2147483648 with h | h
      · exact h
      · have := sq_le (by omega) h; omega
    have hm : wrap64 (x * x) = x * x := w64' (sq_nonneg x) (by omega)
    rw [if_neg (by omega), hm, isq_unique hx hl hg]
  induction d with
  | zero =>
    intro x bit k hx hl hg hB hb hk
    obtain ⟨k, rfl⟩ : ∃ m, k = m + 1 := ⟨k - 1, by omega⟩
    obtain rfl : bit = 1 := by simpa using hb
    simp only [impl_squareRoot.l0]
    have hs := sq_le (a := x + 1) (b := 2147483648) (by omega) (by omega)
    rw [if_pos (by omega), w64 (x := x + 1) (by omega) (by omega), w64' (x := (x + 1) * (x + 1)) (sq_nonneg _) (by omega)]
    have e : wrap64 (Int.tdiv 1 2) = 0 := by decide +kernel
    rw [e]
    by_cases c : (x + 1) * (x + 1) ≤ n
    · rw [if_pos c]
      exact stop _ _ (by omega) c (by rw [show x + 1 + 1 = x + 2 * 1 from by omega]; exact hg) (by omega)
    · rw [if_neg c]
      exact stop _ _ hx hl (by omega) (by omega)
  | succ d ih =>
    intro x bit k hx hl hg hB hb hk
    obtain ⟨k, rfl⟩ : ∃ m, k = m + 1 := ⟨k - 1, by omega⟩
    have hp : (0 : Int) < 2 ^ d := Int.pow_pos (by omega)
    obtain ⟨c2, hc2⟩ : ∃ c2 : Int, c2 = 2 ^ d := ⟨_, rfl⟩
    have hb2 : bit = 2 * c2 := by rw [hb, Int.pow_succ, hc2]; omega
    subst hb2
    simp only [impl_squareRoot.l0]
    have hs := sq_le (a := x + 2 * c2) (b := 2147483648) (by omega) (by omega)
    have e : wrap64 (Int.tdiv (2 * c2) 2) = c2 := by rw [tdiv2 (by omega), w64 (by omega) (by omega)]; omega
    rw [if_pos (by omega), w64 (x := x + 2 * c2) (by omega) (by omega), w64' (x := (x + 2 * c2) * (x + 2 * c2)) (sq_nonneg _) (by omega), e]
    by_cases c : (x + 2 * c2) * (x + 2 * c2) ≤ n
    · rw [if_pos c]
      exact ih _ _ _ (by omega) c (by rw [show x + 2 * c2 + 2 * c2 = x + 2 * (2 * c2) from by omega]; exact hg) (by omega) hc2 (by omega)
    · rw [if_neg c]
      exact ih _ _ _ hx hl (by omega) (by omega) hc2 (by omega)
theorem squareRoot (n : Int) (h0 : 0 ≤ n) (hn : n < 4611686018427387904) (k : Nat) (hk : 31 < k) : impl_squareRoot.f k n = some (isq n, isq n * isq n == n) := by
  unfold impl_squareRoot.f
  rw [if_neg (by omega)]
  exact squareRoot_l n h0 hn 30 0 1073741824 k (by omega) (by omega) (by omega) (by omega) (by decide) (by omega)
theorem squareRoot_ev (n : Int) (h0 : 0 ≤ n) (hn : n < 4611686018427387904) : Ev (fun k => impl_squareRoot.f k n) (isq n, isq n * isq n == n) := ⟨32, fun k hk => squareRoot n h0 hn k (by omega)⟩


/-! ### TwoFind -/
def pair2 : Option (List Int) → Int × Int × Bool
  | some [a, b] => (a, b, true)
  | _ => (0, 0, false)
theorem sqs0_some {x left : Int} (h : isq left * isq left = left) (h2 : x * x ≤ left) (hx : 0 ≤ x) : sqs 0 x left = some [isq left] := by
  have : x ≤ isq left := le_of_sq (isq_nonneg _) (by omega)
  simp only [sqs]; rw [if_pos ⟨h, this⟩]
theorem sqs0_none {x left : Int} (h : ¬ isq left * isq left = left) : sqs 0 x left = none := by
  simp only [sqs]; rw [if_neg (fun h' => h h'.1)]
theorem specTwoFind_l (n : Int) (h0 : 0 ≤ n) (hn : n ≤ 2000) : ∀ (d : Nat) (x : Int), 0 ≤ x → x ≤ n + 2 → (n + 2 - x).toNat = d →
    Ev (fun k => spec_TwoFind.l0 k n x) (pair2 (sqFrom (fun x => sqs 0 x (n - x * x)) 2 n d x)) := by
  intro d
  induction d with
  | zero =>
    intro x hx hX hd
    have hs := sq_le (show 0 ≤ n + 2 by omega) (show n + 2 ≤ x by omega)
    have hs2 := sq_bound (c := 1) (left := x * x) (x := x) (by omega) hx (by omega)
    have e1 : wrap64 (2 * x) = 2 * x := w64 (by omega) (by omega)
    have hxx := sq_le hx hX
    have hb := sq_le (show 0 ≤ n + 2 by omega) (show n + 2 ≤ 2002 by omega)
    have e2 : wrap64 (2 * x * x) = 2 * x * x := w64 (by rw [Int.mul_assoc]; omega) (by rw [Int.mul_assoc]; omega)
    refine Ev.step (f := fun k => spec_TwoFind.j1 k n x false) (fun k => ?_) (Ev.step (f := fun _ => some (0, 0, false)) (fun k => ?_) (Ev.now _))
    · simp only [spec_TwoFind.l0]
      rw [e1, e2, if_neg (by rw [Int.mul_assoc]; omega)]
    · simp [spec_TwoFind.j1]
  | succ d ih =>
    intro x hx hX hd
    have e1 : wrap64 (2 * x) = 2 * x := w64 (by omega) (by omega)
    have hxx := sq_le hx hX
    have hb := sq_le (show 0 ≤ n + 2 by omega) (show n + 2 ≤ 2002 by omega)
    have hsq := sq_nonneg x
    have e2 : wrap64 (2 * x * x) = 2 * x * x := w64 (by rw [Int.mul_assoc]; omega) (by rw [Int.mul_assoc]; omega)
    have e3 : wrap64 (x * x) = x * x := w64 (by omega) (by omega)
    by_cases c : x * x * 2 ≤ n
    · have hbd := sq_bound (c := 2) (by omega) hx c
      refine Ev.step (f := fun k => spec_TwoFind.j1 k n x true) (fun k => ?_) ?_
      · simp only [spec_TwoFind.l0, spec_l8Sum.f, spec_l6In.f]
        rw [e1, e2, if_pos (by rw [Int.mul_assoc]; omega), if_pos h0, decide_eq_true hn]
        simp only [Option.bind_some]
      · refine Ev.step (f := fun k => (spec_l5Root.f k (n - x * x)).bind fun t => if t ≥ 0 then some (x, t, true) else spec_TwoFind.l0 k n (x + 1)) (fun k => ?_) ?_
        · simp only [spec_TwoFind.j1]
          rw [if_pos trivial, e3, w64 (x := n - x * x) (by omega) (by omega), w64 (x := x + 1) (by omega) (by omega)]
        · refine (l5Root_ev (n - x * x) (by omega) (by omega)).bind ?_
          have hi := isq_nonneg (n - x * x)
          by_cases c2 : isq (n - x * x) * isq (n - x * x) = n - x * x
          · simp only [if_pos c2, if_pos (show isq (n - x * x) ≥ 0 from hi)]
            simp only [sqFrom, if_pos c, sqs0_some c2 (by omega) hx, pair2]
            exact Ev.now _
          · simp only [if_neg c2, if_neg (show ¬ (-1 : Int) ≥ 0 by decide)]
            have := ih (x + 1) (by omega) (by omega) (by omega)
            simp only [sqFrom, if_pos c, sqs0_none c2]
            exact this
    · refine Ev.step (f := fun k => spec_TwoFind.j1 k n x false) (fun k => ?_) (Ev.step (f := fun _ => some (0, 0, false)) (fun k => ?_) ?_)
      · simp only [spec_TwoFind.l0]
        rw [e1, e2, if_neg (by rw [Int.mul_assoc]; omega)]
      · simp [spec_TwoFind.j1]
      · simp only [sqFrom, if_neg c, pair2]; exact Ev.now _
theorem specTwoFind_ev (n : Int) (hw : -9223372036854775808 ≤ n) : Ev (fun k => spec_TwoFind.f k n) (if 0 ≤ n ∧ n ≤ 2000 then pair2 (sqs 1 0 n) else (0, 0, false)) := by
  unfold spec_TwoFind.f
  by_cases h : 0 ≤ n ∧ n ≤ 2000
  · rw [if_pos h]
    have := specTwoFind_l n h.1 h.2 (n + 2).toNat 0 (by omega) (by omega) (by simp)
    simpa [sqs] using this
  · rw [if_neg h]
    refine Ev.step (f := fun k => spec_TwoFind.j1 k n 0 false) (fun k => ?_) (Ev.step (f := fun _ => some (0, 0, false)) (fun k => ?_) (Ev.now _))
    · simp only [spec_TwoFind.l0, spec_l8Sum.f, spec_l6In.f]
      have e : wrap64 (wrap64 (2 * 0) * 0) = 0 := by decide +kernel
      rw [e]
      by_cases h0 : 0 ≤ n
      · rw [if_pos h0, if_pos h0, decide_eq_false (by omega)]; simp
      · rw [if_neg h0]
    · simp [spec_TwoFind.j1]
theorem sqFrom_len {f : Int → Option (List Int)} {c left : Int} {m : Nat} (hf : ∀ x r, f x = some r → r.length = m) : ∀ (d : Nat) (x : Int) (r : List Int), sqFrom f c left d x = some r → r.length = m + 1
  | 0, _, _, h => by simp [sqFrom] at h
  | d + 1, x, r, h => by
    simp only [sqFrom] at h
    split at h
    · split at h
      · rename_i r' hr
        injection h with h
        rw [← h, List.length_cons, hf x r' hr]
      · exact sqFrom_len hf d (x + 1) r h
    · cases h
theorem sqs_len : ∀ (m : Nat) (low left : Int) (r : List Int), sqs m low left = some r → r.length = m + 1
  | 0, low, left, r, h => by
    simp only [sqs] at h
    split at h
    · injection h with h; rw [← h]; rfl
    · cases h
  | m + 1, low, left, r, h => by
    simp only [sqs] at h
    exact sqFrom_len (fun x r hr => sqs_len m _ _ r hr) _ _ _ h
theorem implTwoFind_eq (n : Int) : impl_TwoFind.f n = some (if 0 ≤ n ∧ n ≤ 2000 then pair2 (sqs 1 0 n) else (0, 0, false)) := by
  unfold impl_TwoFind.f impl_squaresOf.f
  rw [if_pos (by omega)]
  by_cases h : 0 ≤ n ∧ n ≤ 2000
  · rw [if_neg (by omega), if_pos h]
    rw [show ((2 : Int) - 1).toNat = 1 from rfl]
    cases hq : sqs 1 0 n with
    | none => simp [pair2]
    | some r =>
      have hl := sqs_len 1 0 n r hq
      match r, hl with
      | [a, b], _ => simp [pair2, rd]
  · rw [if_pos (by omega), if_neg h]; simp


theorem sumDraw_ev' {b : List Int} (hb : BytesB b) (p0 : Int) (hp0 : 0 ≤ p0) (hp1 : p0 ≤ 1000) : ∃ n p, (n = -1 ∨ n = 2000 ∨ n = 2001 ∨ 0 ≤ n ∧ n ≤ 494) ∧ Ev (fun k => spec_l92Sum.f k b p0) (n, p) := by
  obtain ⟨v1, h1, g1, e1⟩ := pick_ev hb (p := p0) (by omega) (by omega) (n := 20) (by omega)
  by_cases c : v1 = 0
  · obtain ⟨v2, h2, g2, e2⟩ := pick_ev hb (p := p0 + 1) (by omega) (by omega) (n := 4) (by omega)
    refine ⟨rd [(-1), 0, 2000, 2001] v2, p0 + 1 + 1, ?_, ?_⟩
    · have : v2 = 0 ∨ v2 = 1 ∨ v2 = 2 ∨ v2 = 3 := by omega
      rcases this with rfl | rfl | rfl | rfl <;> simp [rd]
    · simp only [spec_l92Sum.f]
      refine e1.bind ?_
      simp only [if_pos c, Option.bind_some]
      refine e2.bind ?_
      simp only [if_pos h2, if_pos (show v2 < ((List.length [(-1 : Int), 0, 2000, 2001] : Nat) : Int) from by simp; omega)]
      exact Ev.now _
  · obtain ⟨v2, h2, g2, e2⟩ := pick_ev hb (p := p0 + 1) (by omega) (by omega) (n := 100) (by omega)
    obtain ⟨v3, h3, g3, e3⟩ := pick_ev hb (p := p0 + 1 + 1) (by omega) (by omega) (n := 6) (by omega)
    obtain ⟨v4, h4, g4, e4⟩ := pick_ev hb (p := p0 + 1 + 1 + 1) (by omega) (by omega) (n := 80) (by omega)
    have hm := Int.mul_nonneg h3 h4
    have hM := mul_le2 h3 (show v3 ≤ 5 by omega) h4 (show v4 ≤ 79 by omega)
    refine ⟨v2 + v3 * v4, p0 + 1 + 1 + 1 + 1, .inr (.inr (.inr ⟨by omega, by omega⟩)), ?_⟩
    simp only [spec_l92Sum.f]
    refine e1.bind ?_
    simp only [if_neg c]
    refine e2.bind (e3.bind (e4.bind ?_))
    simp only [w64 (x := v3 * v4) (by omega) (by omega), w64 (x := v2 + v3 * v4) (by omega) (by omega)]
    exact Ev.now _
theorem sumDraw_ev {b : List Int} (hb : BytesB b) : ∃ n p, (n = -1 ∨ n = 2000 ∨ n = 2001 ∨ 0 ≤ n ∧ n ≤ 494) ∧ Ev (fun k => spec_l92Sum.f k b 0) (n, p) := sumDraw_ev' hb 0 (by omega) (by omega)


/-! ### split -/
theorem split_l {p : Int} (hp : 2 ≤ p) : ∀ (d : Nat) (n j : Int), n ≠ 0 → n.natAbs < 2 ^ d → d ≤ 63 → 0 ≤ j → j + d ≤ 1000 →
    ∀ k, d < k → impl_split.l0 k n p j = some (j + (spl p d n).1, (spl p d n).2) := by
  intro d
  induction d with
  | zero => intro n j hn h; simp at h; omega
  | succ d ih =>
    intro n j hn h hd hj hJ k hk
    obtain ⟨k, rfl⟩ : ∃ m, k = m + 1 := ⟨k - 1, by omega⟩
    simp only [impl_split.l0]
    rw [if_neg (by omega)]
    by_cases c : n.tmod p = 0
    · obtain ⟨h0, h1, h2, h3, _⟩ := tdiv_abs hp hn c
      have hlt : n.natAbs < 2 ^ 63 := Nat.lt_of_lt_of_le h (Nat.pow_le_pow_right (by omega) hd)
      rw [if_pos c, w64 (x := n.tdiv p) (by omega) (by omega), spl_dvd d c, w64 (x := j + 1) (by omega) (by omega),
        ih (n.tdiv p) (j + 1) h0 (by rw [Nat.pow_succ] at h; omega) (by omega) (by omega) (by omega) k (by omega)]
      simp only [Option.some.injEq, Prod.mk.injEq, and_true]; omega
    · rw [if_neg c, spl_not d c]
      simp
theorem split_at {n p : Int} (hp : 2 ≤ p) (hn : n ≠ 0) (h : n.natAbs < 2 ^ 63) (k : Nat) (hk : 63 < k) : impl_split.f k n p = some (val p n, unit p n) := by
  unfold impl_split.f val unit
  rw [split_l hp 63 n 0 hn h (by omega) (by omega) (by omega) k hk, ← spl_more hp 63 n hn h]
  simp
theorem split_ev {n p : Int} (hp : 2 ≤ p) (hn : n ≠ 0) (h : n.natAbs < 2 ^ 63) : Ev (fun k => impl_split.f k n p) (val p n, unit p n) := ⟨64, fun k hk => split_at hp hn h k (by omega)⟩


/-! ### primes -/
theorem primesOf_l : ∀ (d : Nat) (n p : Int) (out : List Int), 0 < n → n ≤ 1000000000000 → 2 ≤ p → p ≤ 1000002 → n + 2 - p ≤ d → 1 ≤ d → out.length + d ≤ 17000000000000 →
    ∀ k, d + 64 < k → impl_primesOf.l0 k n out p = some (out ++ pl d n p) := by
  intro d
  induction d with
  | zero => intro n p out hn hN hp hP hd h1; omega
  | succ d ih =>
    intro n p out hn hN hp hP hd h1 hl k hk
    obtain ⟨k, rfl⟩ : ∃ m, k = m + 1 := ⟨k - 1, by omega⟩
    simp only [impl_primesOf.l0, pl]
    rw [wmul (a := p) (b := p) (by omega) (by omega) (by omega) (by omega)]
    by_cases c : p * p ≤ n
    · have hpn : 2 * p ≤ n := by have := Int.mul_le_mul_of_nonneg_right hp (show 0 ≤ p by omega); omega
      have hp6 : p ≤ 1000000 := le_of_sq (by omega) (by omega)
      rw [if_pos c, if_neg (by omega), if_pos c, w64 (x := p + 1) (by omega) (by omega)]
      by_cases c2 : n.tmod p = 0
      · have hv := val_spec hp (show n ≠ 0 by omega) (by omega)
        rw [if_pos c2, if_pos (by omega), split_at hp (by omega) (by omega) k (by omega), if_pos c2]
        simp only [Option.bind_some]
        rw [ih (unit p n) (p + 1) (out ++ [p]) (hv.2.2.2.2.2.2 hn) (by omega) (by omega) (by omega) (by omega) (by omega) (by simp; omega) k (by omega)]
        simp
      · rw [if_neg c2, if_neg c2]
        exact ih n (p + 1) out hn hN (by omega) (by omega) (by omega) (by omega) (by omega) k (by omega)
    · rw [if_neg c, if_neg c]
      by_cases c2 : n > 1
      · rw [if_pos c2, if_pos c2, if_pos (by omega)]
      · rw [if_neg c2, if_neg c2]; simp
theorem primesOf_ev {n : Int} (hn : n ≠ 0) (h : n.natAbs ≤ 1000000000000) : Ev (fun k => impl_primesOf.f k n) (primes n) := by
  refine ⟨n.natAbs + 67, fun k hk => ?_⟩
  simp only [impl_primesOf.f, impl_size.f, Option.bind_some]
  rw [size_ev (by omega) (by omega), primesOf_l (n.natAbs + 2) (absI n) 2 [] (by unfold absI; omega) (by unfold absI; omega) (by omega) (by omega) (by unfold absI; omega) (by omega) (by simp; omega) k (by omega)]
  rfl


theorem implTwoIs_l (n : Int) (h0 : 0 < n) (hn : n ≤ 2000) (xs : List Int) (hx : ∀ q ∈ xs, 2 ≤ q) (hl : xs.length ≤ 10000) : ∀ (d j : Nat), j + d = xs.length →
    Ev (fun k => impl_TwoIs.l0 k n xs (xs.length : Int) j) (twoIsL n (xs.drop j)) := by
  intro d
  induction d with
  | zero =>
    intro j hj
    rw [List.drop_of_length_le (by omega)]
    refine Ev.step (f := fun _ => some true) (fun k => ?_) (Ev.now _)
    simp only [impl_TwoIs.l0]
    rw [if_neg (by omega)]
  | succ d ih =>
    intro j hj
    have hm := hx _ (rd_mem (xs := xs) (j := j) (by omega))
    rw [rd_drop (show j < xs.length by omega)]
    generalize hp : rd xs (j : Int) = p at hm
    refine Ev.step (f := fun k => (impl_split.f k n p).bind fun bt => if p.tmod 4 = 3 then (if bt.1.tmod 2 = 0 then impl_TwoIs.l0 k n xs (xs.length : Int) ((j + 1 : Nat) : Int) else some false) else impl_TwoIs.l0 k n xs (xs.length : Int) ((j + 1 : Nat) : Int)) (fun k => ?_) ?_
    · simp only [impl_TwoIs.l0]
      rw [if_pos (by omega), if_pos (by omega), if_pos (by omega), hp, w64 (x := (j : Int) + 1) (by omega) (by omega)]
      rfl
    · refine (split_ev hm (by omega) (by omega)).bind ?_
      have := ih (j + 1) (by omega)
      have hv := (val_spec hm (show n ≠ 0 by omega) (by omega)).2.2.1
      have e : (val p n).tmod 2 = val p n % 2 := Int.tmod_eq_emod_of_nonneg hv
      simp only [twoIsL]
      by_cases c : p.tmod 4 = 3
      · by_cases c2 : (val p n).tmod 2 = 1
        · simp only [if_pos c, c, c2, and_self, if_true]; exact Ev.now _
        · simp only [if_pos c, c2, and_false, if_false, if_pos (show (val p n).tmod 2 = 0 by omega)]; exact this
      · simp only [if_neg c, c, false_and, if_false]; exact this
theorem implTwoIs_ev (n : Int) : Ev (fun k => impl_TwoIs.f k n) (if 0 ≤ n ∧ n ≤ 2000 then twoIs n else false) := by
  unfold impl_TwoIs.f
  by_cases h : 0 ≤ n ∧ n ≤ 2000
  · simp only [if_neg (show ¬ n < 0 by omega), decide_eq_false (show ¬ n > 2000 by omega), if_pos h]
    unfold twoIs
    by_cases c : n = 0
    · exact Ev.step (f := fun _ => some true) (fun k => by simp [impl_TwoIs.j0, c]) (by simpa [c] using Ev.now true)
    · refine Ev.step (f := fun k => (impl_primesOf.f k n).bind fun t => impl_TwoIs.l0 k n t (t.length : Int) 0) (fun k => by simp [impl_TwoIs.j0, c]) ?_
      simp only [if_neg c]
      have := primes_len n
      exact (primesOf_ev c (by omega)).bind (implTwoIs_l n (by omega) h.2 (primes n) (fun q hq => primes_ge hq) (by omega) (primes n).length 0 (by omega))
  · rw [if_neg h]
    refine Ev.step (f := fun _ => some false) (fun k => ?_) (Ev.now _)
    by_cases h0 : n < 0
    · simp [impl_TwoIs.j0, h0]
    · simp [impl_TwoIs.j0, h0, show n > 2000 by omega]


theorem twoDraw_ev {l : List Int} (h : ∀ x ∈ l, (Lit.int .u8 x).wf = true) : ∃ n, (n = -1 ∨ n = 2000 ∨ n = 2001 ∨ 0 ≤ n ∧ n ≤ 722) ∧ Ev (fun k => spec_DrawTwoFind.f k l) n := by
  obtain ⟨b, hb, ho⟩ := open_ev h
  obtain ⟨v1, h1, g1, e1⟩ := pick_ev hb (p := 0) (by omega) (by omega) (n := 2) (by omega)
  by_cases c : v1 = 0
  · obtain ⟨v2, h2, g2, e2⟩ := pick_ev hb (p := 0 + 1) (by omega) (by omega) (n := 20) (by omega)
    obtain ⟨v3, h3, g3, e3⟩ := pick_ev hb (p := 0 + 1 + 1) (by omega) (by omega) (n := 20) (by omega)
    have a2 := sq_le h2 (show v2 ≤ 19 by omega)
    have a3 := sq_le h3 (show v3 ≤ 19 by omega)
    have b2 := sq_nonneg v2
    have b3 := sq_nonneg v3
    refine ⟨v2 * v2 + v3 * v3, .inr (.inr (.inr ⟨by omega, by omega⟩)), ?_⟩
    simp only [spec_DrawTwoFind.f, ho, Option.bind_some]
    refine e1.bind ?_
    simp only [if_pos c]
    refine e2.bind (e3.bind ?_)
    simp only [w64 (x := v2 * v2) (by omega) (by omega), w64 (x := v3 * v3) (by omega) (by omega), w64 (x := v2 * v2 + v3 * v3) (by omega) (by omega)]
    exact Ev.now _
  · obtain ⟨n, p, hn, he⟩ := sumDraw_ev' hb 1 (by omega) (by omega)
    refine ⟨n, by omega, ?_⟩
    simp only [spec_DrawTwoFind.f, ho, Option.bind_some]
    refine e1.bind ?_
    simp only [if_neg c]
    exact he.bind (Ev.now _)
theorem pair2_good {n : Int} {x y : Int} (h : sqs 1 0 n = some [x, y]) : x * x + y * y = n ∧ 0 ≤ x ∧ x ≤ y := by
  obtain ⟨h1, h2⟩ := sqs_good 1 0 n _ (by omega) h
  rw [sumSq_cons, sumSq_cons] at h2
  have : sumSq [] = 0 := rfl
  exact ⟨by omega, h1.1, h1.2.1⟩
theorem holds : laws_FnTwoFind.Pure := by
  intro l0 _ _ hw
  refine Ev.rounds ?_
  unfold laws_FnTwoFind.f
  by_cases big : (l0.length : Int) > 1048576
  · simp only [if_pos big]; exact Ev.now _
  obtain ⟨n, hn, hd⟩ := twoDraw_ev hw
  simp only [if_neg big]
  refine hd.bind ?_
  simp only [implTwoFind_eq, Option.bind_some]
  refine (specTwoFind_ev n (by omega)).bind ?_
  simp only [bne_self_eq_false, Bool.false_eq_true, if_false, if_true]
  refine (implTwoIs_ev n).bind ?_
  by_cases h : 0 ≤ n ∧ n ≤ 2000
  · simp only [if_pos h]
    obtain ⟨m, rfl⟩ := Int.eq_ofNat_of_zero_le h.1
    have ht := two_all (n := m) (by omega)
    rw [← ht]
    cases hq : sqs 1 0 m with
    | none => simp only [pair2, Option.isSome_none, beq_self_eq_true, if_true, Bool.false_eq_true, if_false]; exact Ev.now _
    | some r =>
      have hl := sqs_len 1 0 m r hq
      match r, hl, hq with
      | [x, y], _, hq =>
        obtain ⟨h1, h2, h3⟩ := pair2_good hq
        have a2 := sq_nonneg x
        have a3 := sq_nonneg y
        simp only [pair2, Option.isSome_some, beq_self_eq_true, if_true]
        have q1 : wrap64 (x * x) = x * x := w64 (by omega) (by omega)
        have q2 : wrap64 (y * y) = y * y := w64 (by omega) (by omega)
        have q3 : wrap64 (x * x + y * y) = x * x + y * y := w64 (by omega) (by omega)
        have q4 : wrap64 (m : Int) = m := w64 (by omega) (by omega)
        simp only [q1, q2, q3, q4, h1, ge_iff_le, h2, h3, decide_true, if_true]
        exact Ev.now _
  · simp only [if_neg h, beq_self_eq_true, if_true, Bool.false_eq_true, if_false]
    exact Ev.now _

end Go.Proofs.Ytnnpafjgghpecaa.QFnTwoFind
