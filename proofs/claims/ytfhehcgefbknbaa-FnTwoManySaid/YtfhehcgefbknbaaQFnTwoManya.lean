/- Draws, ways of two squares, divisors, primes. -/
import Derived.Test.YtfhehcgefbknbaaPFnTwoManyx3
import Derived.Test.YtfhehcgefbknbaaFast
set_option linter.unusedVariables false
set_option linter.unusedSimpArgs false
namespace Go.Proofs.Ytfhehcgefbknbaa.QFnTwoMany
open Go.RowKit Go.Proofs.Ytfhehcgefbknbaa.PFnTwoMany Go.Proofs.YtfhehcgefbknbaaW.PrintWords Go.Proofs.YtfhehcgefbknbaaW.PrintLast Go.Proofs.YtfhehcgefbknbaaW.PrintMore Locg

/-! ### draws -/
theorem xor_i64_nat (a b : Nat) (ha : a < 9223372036854775808) (hb : b < 9223372036854775808) : Go.bits .xor .i64 (a : Int) (b : Int) = ((a ^^^ b : Nat) : Int) := by
  have hx : a ^^^ b < 2 ^ 63 := Nat.xor_lt_two_pow (by omega) (by omega)
  have h1 : (BitVec.ofInt 64 (a : Int)).toNat = a := by
    rw [BitVec.ofInt_natCast, BitVec.toNat_ofNat]; exact Nat.mod_eq_of_lt (by omega)
  have h2 : (BitVec.ofInt 64 (b : Int)).toNat = b := by
    rw [BitVec.ofInt_natCast, BitVec.toNat_ofNat]; exact Nat.mod_eq_of_lt (by omega)
  show IntKind.i64.wrap ((BitVec.ofInt 64 (a : Int) ^^^ BitVec.ofInt 64 (b : Int)).toNat : Int) = _
  rw [BitVec.toNat_xor, h1, h2]
  have hw : ∀ n : Int, IntKind.i64.wrap n = wrap64 n := fun n => by simp [IntKind.wrap, wrap64, IntKind.bits, IntKind.signed]; omega
  rw [hw]
  exact w64' (by omega) (by omega)
theorem xor_nonneg (a b : Int) (ha : 0 ≤ a) (hA : a < 9223372036854775808) (hb : 0 ≤ b) (hB : b < 9223372036854775808) : 0 ≤ Go.bits .xor .i64 a b := by
  obtain ⟨a, rfl⟩ := Int.eq_ofNat_of_zero_le ha
  obtain ⟨b, rfl⟩ := Int.eq_ofNat_of_zero_le hb
  rw [xor_i64_nat a b (by omega) (by omega)]
  exact Int.natCast_nonneg _
theorem tmod_range {x n : Int} (hx : 0 ≤ x) (hn : 1 ≤ n) : 0 ≤ x.tmod n ∧ x.tmod n < n := by
  rw [Int.tmod_eq_emod_of_nonneg hx]; exact ⟨Int.emod_nonneg _ (by omega), Int.emod_lt_of_pos _ (by omega)⟩
def BytesB (b : List Int) : Prop := (∀ x ∈ b, 0 ≤ x ∧ x ≤ 255) ∧ b.length ≤ 2000
theorem BytesB.rd_ {b : List Int} (h : BytesB b) (i : Int) : 0 ≤ rd b i ∧ rd b i ≤ 255 := by
  unfold rd
  by_cases c : i.toNat < b.length
  · have := h.1 (b[i.toNat]) (by simp)
    simpa [List.getElem?_eq_getElem c] using this
  · simp [List.getElem?_eq_none (show b.length ≤ i.toNat by omega)]
theorem pick_ev {b : List Int} (hb : BytesB b) {p : Int} (hp : 0 ≤ p) (hP : p ≤ 1000000) {n : Int} (hn : 1 ≤ n) :
    ∃ v, 0 ≤ v ∧ v < n ∧ Ev (fun k => spec_l6Rd_pick.f k b p n) (v, p + 1) := by
  have hl := hb.2
  rcases Nat.eq_zero_or_pos b.length with h0 | h0
  · refine ⟨0, by omega, by omega, Ev.step (f := fun _ => some (0, p + 1)) (fun k => ?_) (Ev.now _)⟩
    simp only [spec_l6Rd_pick.f, spec_l6Rd_pick.j0]
    rw [if_neg (by omega), w64 (x := p + 1) (by omega) (by omega), if_pos (by simp [h0])]
  · have e : ∀ k, spec_l6Rd_pick.f (k + 1) b p n = spec_l6Rd_pick.j0 (k + 1) n false b (p + 1) := by
      intro k
      simp only [spec_l6Rd_pick.f]
      rw [if_neg (by omega), w64 (x := p + 1) (by omega) (by omega)]
      congr 1
      simp; intro h; rw [h] at h0; simp at h0
    have hq : wrap64 (p + 1 - 1) = p := by rw [w64 (by omega) (by omega)]; omega
    by_cases c : p < b.length
    · refine ⟨(rd b p).tmod n, ?_, ?_, Ev.step (f := fun _ => some ((rd b p).tmod n, p + 1)) (fun k => ?_) (Ev.now _)⟩
      · exact (tmod_range (hb.rd_ p).1 hn).1
      · exact (tmod_range (hb.rd_ p).1 hn).2
      · have := hb.rd_ p
        rw [e]
        simp only [spec_l6Rd_pick.j0, hq]
        rw [if_neg (by simp), if_pos c, if_pos hp, if_neg (by omega), w64 (x := rd b p) (by omega) (by omega)]
    · have hm := tmod_range hp (n := b.length) (by omega)
      have e7 : wrap64 (p * 7) = p * 7 := w64 (by omega) (by omega)
      have e73 : wrap64 (p * 7 + 3) = p * 7 + 3 := w64 (by omega) (by omega)
      have e29 : wrap64 (p * 29) = p * 29 := w64 (by omega) (by omega)
      have hm2 := tmod_range (x := p * 7 + 3) (by omega) (n := b.length) (by omega)
      have hA := hb.rd_ (p.tmod b.length)
      have hB := hb.rd_ ((p * 7 + 3).tmod b.length)
      have hd : 0 ≤ p.tdiv b.length ∧ p.tdiv b.length ≤ p := by
        rw [Int.tdiv_eq_ediv_of_nonneg hp]; exact ⟨Int.ediv_nonneg hp (by omega), Int.ediv_le_self _ hp⟩
      generalize hAe : rd b (p.tmod b.length) = A at hA
      generalize hBe : rd b ((p * 7 + 3).tmod b.length) = B at hB
      generalize hDe : p.tdiv b.length = D at hd
      have hx64 : 0 ≤ (A * 131 + B * 1117 + p * 29 + D * 53).tdiv 64 ∧ (A * 131 + B * 1117 + p * 29 + D * 53).tdiv 64 ≤ A * 131 + B * 1117 + p * 29 + D * 53 := by
        rw [Int.tdiv_eq_ediv_of_nonneg (by omega)]; omega
      have hx := xor_nonneg (A * 131 + B * 1117 + p * 29 + D * 53) ((A * 131 + B * 1117 + p * 29 + D * 53).tdiv 64) (by omega) (by omega) (by omega) (by omega)
      refine ⟨(Go.bits .xor .i64 (A * 131 + B * 1117 + p * 29 + D * 53) ((A * 131 + B * 1117 + p * 29 + D * 53).tdiv 64)).tmod n, (tmod_range hx hn).1, (tmod_range hx hn).2, Ev.step (f := fun _ => some (_, p + 1)) (fun k => ?_) (Ev.now _)⟩
      rw [e]
      simp only [spec_l6Rd_pick.j0, hq, e7, e73, hAe, hBe, hDe, e29]
      rw [if_neg (by simp), if_neg c, if_neg (by omega), if_pos hm.1, if_pos hm.2, if_pos hm2.1, if_pos hm2.2, if_neg (by omega)]
      rw [w64 (x := A) (by omega) (by omega), w64 (x := B) (by omega) (by omega), w64 (x := D) (by omega) (by omega), w64 (x := A * 131) (by omega) (by omega), w64 (x := B * 1117) (by omega) (by omega),
        w64 (x := A * 131 + B * 1117) (by omega) (by omega), w64 (x := A * 131 + B * 1117 + p * 29) (by omega) (by omega), w64 (x := D * 53) (by omega) (by omega),
        w64 (x := A * 131 + B * 1117 + p * 29 + D * 53) (by omega) (by omega), w64 (x := (A * 131 + B * 1117 + p * 29 + D * 53).tdiv 64) (by omega) (by omega)]
theorem open_ev {l : List Int} (h : ∀ x ∈ l, (Lit.int .u8 x).wf = true) : ∃ b, BytesB b ∧ spec_l6Open.f l = some (b, 0) := by
  have h' : ∀ x ∈ l, 0 ≤ x ∧ x ≤ 255 := fun x hx => by
    have := h x hx
    simp only [Lit.wf, Bool.and_eq_true, decide_eq_true_eq] at this
    have e1 : IntKind.u8.min = 0 := by decide
    have e2 : IntKind.u8.max = 255 := by decide
    omega
  unfold spec_l6Open.f
  by_cases c : (l.length : Int) > 2000
  · refine ⟨l.take 2000, ⟨fun x hx => h' x (List.mem_of_mem_take hx), by simp; omega⟩, ?_⟩
    rw [if_pos c, if_pos (by omega)]
  · exact ⟨l, ⟨h', by omega⟩, by rw [if_neg c]⟩


/-! ### roots -/
theorem squareRoot_l (n : Int) (h0 : 0 ≤ n) (hn : n < 4611686018427387904) : ∀ (d : Nat) (x bit : Int) (k : Nat), 0 ≤ x → x * x ≤ n → n < (x + 2 * bit) * (x + 2 * bit) → x + 2 * bit ≤ 2147483648 → bit = 2 ^ d → d + 1 < k →
    impl_squareRoot.l0 k n x bit = some (isq n, isq n * isq n == n) := by
  intro d
  have stop : ∀ (x : Int) (k : Nat), 0 ≤ x → x * x ≤ n → n < (x + 1) * (x + 1) → 0 < k → impl_squareRoot.l0 k n x 0 = some (isq n, isq n * isq n == n) := by
    intro x k hx hl hg hk
    obtain ⟨k, rfl⟩ : ∃ m, k = m + 1 := ⟨k - 1, by omega⟩
    simp only [impl_squareRoot.l0]
    have hb : x < 2147483648 := by
      rcases Int.lt_or_le x 2147483648 with h | h
      · exact h
      · have := sq_le (by omega) h; omega
    have hm : wrap64 (x * x) = x * x := w64' (sq_nonneg x) (by omega)
    rw [if_neg (by omega), hm, isq_unique hx hl hg]
  induction d with
  | zero =>
    intro x bit k hx hl hg hB hb hk
    obtain ⟨k, rfl⟩ : ∃ m, k = m + 1 := ⟨k - 1, by omega⟩
    obtain rfl : bit = 1 := by simpa using hb
    simp only [impl_squareRoot.l0]
    have hs := sq_le (a := x + 1) (b := 2147483648) (by omega) (by omega)
    rw [if_pos (by omega), w64 (x := x + 1) (by omega) (by omega), w64' (x := (x + 1) * (x + 1)) (sq_nonneg _) (by omega)]
    have e : wrap64 (Int.tdiv 1 2) = 0 := by decide +kernel
    rw [e]
    by_cases c : (x + 1) * (x + 1) ≤ n
    · rw [if_pos c]
      exact stop _ _ (by omega) c (by rw [show x + 1 + 1 = x + 2 * 1 from by omega]; exact hg) (by omega)
    · rw [if_neg c]
      exact stop _ _ hx hl (by omega) (by omega)
  | succ d ih =>
    intro x bit k hx hl hg hB hb hk
    obtain ⟨k, rfl⟩ : ∃ m, k = m + 1 := ⟨k - 1, by omega⟩
    have hp : (0 : Int) < 2 ^ d := Int.pow_pos (by omega)
    obtain ⟨c2, hc2⟩ : ∃ c2 : Int, c2 = 2 ^ d := ⟨_, rfl⟩
    have hb2 : bit = 2 * c2 := by rw [hb, Int.pow_succ, hc2]; omega
    subst hb2
    simp only [impl_squareRoot.l0]
    have hs := sq_le (a := x + 2 * c2) (b := 2147483648) (by omega) (by omega)
    have e : wrap64 (Int.tdiv (2 * c2) 2) = c2 := by rw [tdiv2 (by omega), w64 (by omega) (by omega)]; omega
    rw [if_pos (by omega), w64 (x := x + 2 * c2) (by omega) (by omega), w64' (x := (x + 2 * c2) * (x + 2 * c2)) (sq_nonneg _) (by omega), e]
    by_cases c : (x + 2 * c2) * (x + 2 * c2) ≤ n
    · rw [if_pos c]
      exact ih _ _ _ (by omega) c (by rw [show x + 2 * c2 + 2 * c2 = x + 2 * (2 * c2) from by omega]; exact hg) (by omega) hc2 (by omega)
    · rw [if_neg c]
      exact ih _ _ _ hx hl (by omega) (by omega) hc2 (by omega)
theorem squareRoot (n : Int) (h0 : 0 ≤ n) (hn : n < 4611686018427387904) (k : Nat) (hk : 31 < k) : impl_squareRoot.f k n = some (isq n, isq n * isq n == n) := by
  unfold impl_squareRoot.f
  rw [if_neg (by omega)]
  exact squareRoot_l n h0 hn 30 0 1073741824 k (by omega) (by omega) (by omega) (by omega) (by decide) (by omega)
theorem squareRoot_ev (n : Int) (h0 : 0 ≤ n) (hn : n < 4611686018427387904) : Ev (fun k => impl_squareRoot.f k n) (isq n, isq n * isq n == n) := ⟨32, fun k hk => squareRoot n h0 hn k (by omega)⟩


/-! ### ways of two squares -/
theorem twoWays_l (n : Int) (h0 : 0 ≤ n) (hn : n ≤ 1000000) : ∀ (d : Nat) (acc x : Int) (k : Nat), 0 ≤ x → x + d = isq n + 1 → 0 ≤ acc → acc ≤ 4 * x → d + 32 < k →
    impl_twoWays.l0 k n acc x = some (acc + r2from n d x) := by
  have hq : isq n < 1001 := isq_bound h0 (by omega) (by omega)
  have hq1 := isq_lt h0
  have hq2 := isq_le h0
  intro d
  induction d with
  | zero =>
    intro acc x k hx hd ha hA hk
    obtain ⟨k, rfl⟩ : ∃ m, k = m + 1 := ⟨k - 1, by omega⟩
    have e : x = isq n + 1 := by omega
    simp only [impl_twoWays.l0, r2from]
    rw [wmul hx (by omega) hx (by omega), e, if_neg (by omega)]
    simp
  | succ d ih =>
    intro acc x k hx hd ha hA hk
    obtain ⟨k, rfl⟩ : ∃ m, k = m + 1 := ⟨k - 1, by omega⟩
    have hxq := sq_le hx (show x ≤ isq n by omega)
    have hx0 := sq_nonneg x
    simp only [impl_twoWays.l0, r2from]
    rw [wmul hx (by omega) hx (by omega), if_pos (by omega), w64 (x := n - x * x) (by omega) (by omega), squareRoot _ (by omega) (by omega) k (by omega)]
    simp only [Option.bind_some]
    rw [w64 (x := x + 1) (by omega) (by omega)]
    have hw := wayW_bd n x
    rw [← Int.add_assoc]
    unfold wayW at hw ⊢
    have hi := isq_nonneg (n - x * x)
    by_cases c : isq (n - x * x) * isq (n - x * x) = n - x * x
    · simp only [if_pos c] at hw ⊢
      rw [if_pos (by rw [beq_iff_eq]; exact c)]
      by_cases c1 : x > 0 <;> by_cases c2 : isq (n - x * x) > 0 <;> simp only [if_pos, if_neg, c1, c2, not_false_eq_true] at hw ⊢ <;> rw [w64 (by omega) (by omega)] <;> exact ih _ _ _ (by omega) (by omega) (by omega) (by omega) (by omega)
    · simp only [if_neg c] at hw ⊢
      rw [if_neg (by rw [beq_iff_eq]; exact c)]
      simpa using ih _ _ _ (by omega) (by omega) (by omega) (by omega) (by omega)
theorem twoWays_ev (n : Int) (h0 : 0 ≤ n) (hn : n ≤ 1000000) : Ev (fun k => impl_twoWays.f k n) (r2 n) := by
  refine ⟨(isq n + 1).toNat + 33, fun k hk => ?_⟩
  have := twoWays_l n h0 hn (isq n + 1).toNat 0 0 k (by omega) (by have := isq_nonneg n; omega) (by omega) (by omega) (by omega)
  simpa [impl_twoWays.f, r2] using this


/-! ### TwoEach -/
theorem implTwoEach_ev (n : Int) : Ev (fun k => impl_TwoEach.f k n) (if 0 ≤ n ∧ n ≤ 2000 then r2 n else -1) := by
  unfold impl_TwoEach.f
  by_cases h : 0 ≤ n ∧ n ≤ 2000
  · simp only [if_neg (show ¬ n < 0 by omega), if_neg (show ¬ n > 2000 by omega), if_pos h]
    exact (twoWays_ev n h.1 (by omega)).bind (Ev.now _)
  · rw [if_neg h]
    by_cases h0 : n < 0
    · simp only [if_pos h0]; exact Ev.now _
    · simp only [if_neg h0, if_pos (show n > 2000 by omega)]; exact Ev.now _


theorem sumDraw_ev {b : List Int} (hb : BytesB b) : ∃ n p, (n = -1 ∨ n = 2000 ∨ n = 2001 ∨ 0 ≤ n ∧ n ≤ 494) ∧ Ev (fun k => spec_l92Sum.f k b 0) (n, p) := by
  obtain ⟨v1, h1, g1, e1⟩ := pick_ev hb (p := 0) (by omega) (by omega) (n := 20) (by omega)
  by_cases c : v1 = 0
  · obtain ⟨v2, h2, g2, e2⟩ := pick_ev hb (p := 0 + 1) (by omega) (by omega) (n := 4) (by omega)
    refine ⟨rd [(-1), 0, 2000, 2001] v2, 0 + 1 + 1, ?_, ?_⟩
    · have : v2 = 0 ∨ v2 = 1 ∨ v2 = 2 ∨ v2 = 3 := by omega
      rcases this with rfl | rfl | rfl | rfl <;> simp [rd]
    · simp only [spec_l92Sum.f]
      refine e1.bind ?_
      simp only [if_pos c, Option.bind_some]
      refine e2.bind ?_
      simp only [if_pos h2, if_pos (show v2 < ((List.length [(-1 : Int), 0, 2000, 2001] : Nat) : Int) from by simp; omega)]
      exact Ev.now _
  · obtain ⟨v2, h2, g2, e2⟩ := pick_ev hb (p := 0 + 1) (by omega) (by omega) (n := 100) (by omega)
    obtain ⟨v3, h3, g3, e3⟩ := pick_ev hb (p := 0 + 1 + 1) (by omega) (by omega) (n := 6) (by omega)
    obtain ⟨v4, h4, g4, e4⟩ := pick_ev hb (p := 0 + 1 + 1 + 1) (by omega) (by omega) (n := 80) (by omega)
    have hm := Int.mul_nonneg h3 h4
    have hM := mul_le2 h3 (show v3 ≤ 5 by omega) h4 (show v4 ≤ 79 by omega)
    refine ⟨v2 + v3 * v4, 0 + 1 + 1 + 1 + 1, .inr (.inr (.inr ⟨by omega, by omega⟩)), ?_⟩
    simp only [spec_l92Sum.f]
    refine e1.bind ?_
    simp only [if_neg c]
    refine e2.bind (e3.bind (e4.bind ?_))
    simp only [w64 (x := v3 * v4) (by omega) (by omega), w64 (x := v2 + v3 * v4) (by omega) (by omega)]
    exact Ev.now _


/-! ### split -/
theorem split_l {p : Int} (hp : 2 ≤ p) : ∀ (d : Nat) (n j : Int), n ≠ 0 → n.natAbs < 2 ^ d → d ≤ 63 → 0 ≤ j → j + d ≤ 1000 →
    ∀ k, d < k → impl_split.l0 k n p j = some (j + (spl p d n).1, (spl p d n).2) := by
  intro d
  induction d with
  | zero => intro n j hn h; simp at h; omega
  | succ d ih =>
    intro n j hn h hd hj hJ k hk
    obtain ⟨k, rfl⟩ : ∃ m, k = m + 1 := ⟨k - 1, by omega⟩
    simp only [impl_split.l0]
    rw [if_neg (by omega)]
    by_cases c : n.tmod p = 0
    · obtain ⟨h0, h1, h2, h3, _⟩ := tdiv_abs hp hn c
      have hlt : n.natAbs < 2 ^ 63 := Nat.lt_of_lt_of_le h (Nat.pow_le_pow_right (by omega) hd)
      rw [if_pos c, w64 (x := n.tdiv p) (by omega) (by omega), spl_dvd d c, w64 (x := j + 1) (by omega) (by omega),
        ih (n.tdiv p) (j + 1) h0 (by rw [Nat.pow_succ] at h; omega) (by omega) (by omega) (by omega) k (by omega)]
      simp only [Option.some.injEq, Prod.mk.injEq, and_true]; omega
    · rw [if_neg c, spl_not d c]
      simp
theorem split_at {n p : Int} (hp : 2 ≤ p) (hn : n ≠ 0) (h : n.natAbs < 2 ^ 63) (k : Nat) (hk : 63 < k) : impl_split.f k n p = some (val p n, unit p n) := by
  unfold impl_split.f val unit
  rw [split_l hp 63 n 0 hn h (by omega) (by omega) (by omega) k hk, ← spl_more hp 63 n hn h]
  simp
theorem split_ev {n p : Int} (hp : 2 ≤ p) (hn : n ≠ 0) (h : n.natAbs < 2 ^ 63) : Ev (fun k => impl_split.f k n p) (val p n, unit p n) := ⟨64, fun k hk => split_at hp hn h k (by omega)⟩


/-! ### valuations -/

/-! ### primes -/
theorem primesOf_l : ∀ (d : Nat) (n p : Int) (out : List Int), 0 < n → n ≤ 1000000000000 → 2 ≤ p → p ≤ 1000002 → n + 2 - p ≤ d → 1 ≤ d → out.length + d ≤ 17000000000000 →
    ∀ k, d + 64 < k → impl_primesOf.l0 k n out p = some (out ++ pl d n p) := by
  intro d
  induction d with
  | zero => intro n p out hn hN hp hP hd h1; omega
  | succ d ih =>
    intro n p out hn hN hp hP hd h1 hl k hk
    obtain ⟨k, rfl⟩ : ∃ m, k = m + 1 := ⟨k - 1, by omega⟩
    simp only [impl_primesOf.l0, pl]
    rw [wmul (a := p) (b := p) (by omega) (by omega) (by omega) (by omega)]
    by_cases c : p * p ≤ n
    · have hpn : 2 * p ≤ n := by have := Int.mul_le_mul_of_nonneg_right hp (show 0 ≤ p by omega); omega
      have hp6 : p ≤ 1000000 := le_of_sq (by omega) (by omega)
      rw [if_pos c, if_neg (by omega), if_pos c, w64 (x := p + 1) (by omega) (by omega)]
      by_cases c2 : n.tmod p = 0
      · have hv := val_spec hp (show n ≠ 0 by omega) (by omega)
        rw [if_pos c2, if_pos (by omega), split_at hp (by omega) (by omega) k (by omega), if_pos c2]
        simp only [Option.bind_some]
        rw [ih (unit p n) (p + 1) (out ++ [p]) (hv.2.2.2.2.2.2 hn) (by omega) (by omega) (by omega) (by omega) (by omega) (by simp; omega) k (by omega)]
        simp
      · rw [if_neg c2, if_neg c2]
        exact ih n (p + 1) out hn hN (by omega) (by omega) (by omega) (by omega) (by omega) k (by omega)
    · rw [if_neg c, if_neg c]
      by_cases c2 : n > 1
      · rw [if_pos c2, if_pos c2, if_pos (by omega)]
      · rw [if_neg c2, if_neg c2]; simp
theorem primesOf_ev {n : Int} (hn : n ≠ 0) (h : n.natAbs ≤ 1000000000000) : Ev (fun k => impl_primesOf.f k n) (primes n) := by
  refine ⟨n.natAbs + 67, fun k hk => ?_⟩
  simp only [impl_primesOf.f, impl_size.f, Option.bind_some]
  rw [size_ev (by omega) (by omega), primesOf_l (n.natAbs + 2) (absI n) 2 [] (by unfold absI; omega) (by unfold absI; omega) (by omega) (by omega) (by unfold absI; omega) (by omega) (by simp; omega) k (by omega)]
  rfl


/-! ### primes, of the reference -/

/-! ### TwoIs -/

theorem implTwoIs_l (n : Int) (h0 : 0 < n) (hn : n ≤ 2000) (xs : List Int) (hx : ∀ q ∈ xs, 2 ≤ q) (hl : xs.length ≤ 10000) : ∀ (d j : Nat), j + d = xs.length →
    Ev (fun k => impl_TwoIs.l0 k n xs (xs.length : Int) j) (twoIsL n (xs.drop j)) := by
  intro d
  induction d with
  | zero =>
    intro j hj
    rw [List.drop_of_length_le (by omega)]
    refine Ev.step (f := fun _ => some true) (fun k => ?_) (Ev.now _)
    simp only [impl_TwoIs.l0]
    rw [if_neg (by omega)]
  | succ d ih =>
    intro j hj
    have hm := hx _ (rd_mem (xs := xs) (j := j) (by omega))
    rw [rd_drop (show j < xs.length by omega)]
    generalize hp : rd xs (j : Int) = p at hm
    refine Ev.step (f := fun k => (impl_split.f k n p).bind fun bt => if p.tmod 4 = 3 then (if bt.1.tmod 2 = 0 then impl_TwoIs.l0 k n xs (xs.length : Int) ((j + 1 : Nat) : Int) else some false) else impl_TwoIs.l0 k n xs (xs.length : Int) ((j + 1 : Nat) : Int)) (fun k => ?_) ?_
    · simp only [impl_TwoIs.l0]
      rw [if_pos (by omega), if_pos (by omega), if_pos (by omega), hp, w64 (x := (j : Int) + 1) (by omega) (by omega)]
      rfl
    · refine (split_ev hm (by omega) (by omega)).bind ?_
      have := ih (j + 1) (by omega)
      have hv := (val_spec hm (show n ≠ 0 by omega) (by omega)).2.2.1
      have e : (val p n).tmod 2 = val p n % 2 := Int.tmod_eq_emod_of_nonneg hv
      simp only [twoIsL]
      by_cases c : p.tmod 4 = 3
      · by_cases c2 : (val p n).tmod 2 = 1
        · simp only [if_pos c, c, c2, and_self, if_true]; exact Ev.now _
        · simp only [if_pos c, c2, and_false, if_false, if_pos (show (val p n).tmod 2 = 0 by omega)]; exact this
      · simp only [if_neg c, c, false_and, if_false]; exact this
theorem implTwoIs_ev (n : Int) : Ev (fun k => impl_TwoIs.f k n) (if 0 ≤ n ∧ n ≤ 2000 then twoIs n else false) := by
  unfold impl_TwoIs.f
  by_cases h : 0 ≤ n ∧ n ≤ 2000
  · simp only [if_neg (show ¬ n < 0 by omega), decide_eq_false (show ¬ n > 2000 by omega), if_pos h]
    unfold twoIs
    by_cases c : n = 0
    · exact Ev.step (f := fun _ => some true) (fun k => by simp [impl_TwoIs.j0, c]) (by simpa [c] using Ev.now true)
    · refine Ev.step (f := fun k => (impl_primesOf.f k n).bind fun t => impl_TwoIs.l0 k n t (t.length : Int) 0) (fun k => by simp [impl_TwoIs.j0, c]) ?_
      simp only [if_neg c]
      have := primes_len n
      exact (primesOf_ev c (by omega)).bind (implTwoIs_l n (by omega) h.2 (primes n) (fun q hq => primes_ge hq) (by omega) (primes n).length 0 (by omega))
  · rw [if_neg h]
    refine Ev.step (f := fun _ => some false) (fun k => ?_) (Ev.now _)
    by_cases h0 : n < 0
    · simp [impl_TwoIs.j0, h0]
    · simp [impl_TwoIs.j0, h0, show n > 2000 by omega]


/-- How many divisors up to k leave the rest r by 4. -/
def cnt (n r k : Nat) : Nat := Nat.rec (motive := fun _ => Nat) 0 (fun d ih => Nat.add ih (bif Nat.beq (Nat.mod n (Nat.succ d)) 0 then (bif Nat.beq (Nat.mod (Nat.succ d) 4) r then 1 else 0) else 0)) k
theorem cnt_step (n r k : Nat) : cnt n r (k + 1) = cnt n r k + if n % (k + 1) = 0 ∧ (k + 1) % 4 = r then 1 else 0 := by
  have e : cnt n r (k + 1) = cnt n r k + (bif Nat.beq (n % (k + 1)) 0 then (bif Nat.beq ((k + 1) % 4) r then 1 else 0) else 0) := rfl
  rw [e, beq_iff, beq_iff]
  by_cases c : n % (k + 1) = 0 <;> by_cases c2 : (k + 1) % 4 = r <;> simp [c, c2]
theorem cnt_bd (n r : Nat) : ∀ k, cnt n r k ≤ k
  | 0 => Nat.le_refl 0
  | k + 1 => by have := cnt_bd n r k; rw [cnt_step]; split <;> omega
def twoV (n k : Nat) : Int := 4 * ((cnt n 1 k : Nat) : Int) - 4 * ((cnt n 3 k : Nat) : Int)
theorem twoV_bd (n k : Nat) : -(4 * (k : Int)) ≤ twoV n k ∧ twoV n k ≤ 4 * k := by
  have := cnt_bd n 1 k; have := cnt_bd n 3 k; unfold twoV; omega
theorem twoV_step (n k : Nat) : twoV n (k + 1) = if n % (k + 1) = 0 then (if (k + 1) % 4 = 1 then twoV n k + 4 else if (k + 1) % 4 = 3 then twoV n k - 4 else twoV n k) else twoV n k := by
  unfold twoV
  rw [cnt_step, cnt_step]
  by_cases c : n % (k + 1) = 0 <;> by_cases c1 : (k + 1) % 4 = 1 <;> by_cases c3 : (k + 1) % 4 = 3 <;> simp [c, c1, c3] <;> omega
theorem implTwoMany_l (n : Nat) (hn : n ≤ 2000) : ∀ (d j : Nat), j + d = n →
    Ev (fun k => impl_TwoMany.l0 k n (twoV n j) ((j + 1 : Nat) : Int)) (twoV n n) := by
  intro d
  induction d with
  | zero =>
    intro j hj
    obtain rfl : j = n := by omega
    refine Ev.step (f := fun _ => some _) (fun k => ?_) (Ev.now _)
    simp only [impl_TwoMany.l0]
    rw [if_neg (by omega)]
  | succ d ih =>
    intro j hj
    have hb := twoV_bd n j
    have := ih (j + 1) (by omega)
    rw [twoV_step] at this
    refine Ev.step (fun k => ?_) this
    simp only [impl_TwoMany.l0]
    rw [if_pos (by omega), if_neg (by omega), w64 (x := ((j + 1 : Nat) : Int) + 1) (by omega) (by omega),
      show Int.tmod (n : Int) ((j + 1 : Nat) : Int) = ((n % (j + 1) : Nat) : Int) from (Int.ofNat_tmod _ _).symm,
      show Int.tmod ((j + 1 : Nat) : Int) 4 = (((j + 1) % 4 : Nat) : Int) from (Int.ofNat_tmod (j + 1) 4).symm,
      w64 (x := twoV n j + 4) (by omega) (by omega), w64 (x := twoV n j - 4) (by omega) (by omega)]
    by_cases c : n % (j + 1) = 0
    · rw [if_pos (by omega), if_pos c]
      by_cases c1 : (j + 1) % 4 = 1
      · rw [if_pos (by omega), if_pos c1]; rfl
      · rw [if_neg (by omega), if_neg c1]
        by_cases c3 : (j + 1) % 4 = 3
        · rw [if_pos (by omega), if_pos c3]; rfl
        · rw [if_neg (by omega), if_neg c3]; rfl
    · rw [if_neg (by omega), if_neg c]; rfl
theorem implTwoMany_ev (n : Int) : Ev (fun k => impl_TwoMany.f k n) (if 1 ≤ n ∧ n ≤ 2000 then twoV n.toNat n.toNat else -1) := by
  unfold impl_TwoMany.f
  by_cases h : 1 ≤ n ∧ n ≤ 2000
  · simp only [if_neg (show ¬ n < 1 by omega), decide_eq_false (show ¬ n > 2000 by omega), if_pos h]
    refine Ev.step (f := fun k => impl_TwoMany.l0 k n 0 1) (fun k => by simp [impl_TwoMany.j0]) ?_
    have := implTwoMany_l n.toNat (by omega) n.toNat 0 (by omega)
    rw [show ((n.toNat : Nat) : Int) = n from by omega] at this
    exact this
  · rw [if_neg h]
    refine Ev.step (f := fun _ => some (-1)) (fun k => ?_) (Ev.now _)
    by_cases h0 : n < 1
    · simp [impl_TwoMany.j0, h0]
    · simp [impl_TwoMany.j0, h0, show n > 2000 by omega]
theorem specTwoMany_l (n : Nat) (hn : n ≤ 2000) : ∀ (d j : Nat), j + d = n →
    Ev (fun k => spec_TwoMany.l0 k n (twoV n j) ((j + 1 : Nat) : Int)) (twoV n n) := by
  intro d
  induction d with
  | zero =>
    intro j hj
    obtain rfl : j = n := by omega
    refine Ev.step (f := fun _ => some _) (fun k => ?_) (Ev.now _)
    simp only [spec_TwoMany.l0]
    rw [if_neg (by omega)]
  | succ d ih =>
    intro j hj
    have hb := twoV_bd n j
    have := ih (j + 1) (by omega)
    rw [twoV_step] at this
    have e1 : Int.tmod (n : Int) ((j + 1 : Nat) : Int) = ((n % (j + 1) : Nat) : Int) := (Int.ofNat_tmod _ _).symm
    have e2 : Int.tmod ((j + 1 : Nat) : Int) 4 = (((j + 1) % 4 : Nat) : Int) := (Int.ofNat_tmod (j + 1) 4).symm
    have e3 : wrap64 (((j + 1 : Nat) : Int) + 1) = ((j + 1 + 1 : Nat) : Int) := by rw [w64 (by omega) (by omega)]; rfl
    have e4 : wrap64 (twoV n j + 4) = twoV n j + 4 := w64 (by omega) (by omega)
    have e5 : wrap64 (twoV n j - 4) = twoV n j - 4 := w64 (by omega) (by omega)
    refine Ev.step (f := fun k => spec_TwoMany.j1 k n (twoV n j) ((j + 1 : Nat) : Int) (decide (n % (j + 1) = 0 ∧ (j + 1) % 4 = 1))) (fun k => ?_) (Ev.step (fun k => ?_) this)
    · simp only [spec_TwoMany.l0]
      rw [if_pos (by omega), if_neg (by omega), e1, e2]
      by_cases c : n % (j + 1) = 0
      · rw [if_pos (by omega)]
        congr 1
        by_cases c1 : (j + 1) % 4 = 1
        · rw [decide_eq_true ⟨c, c1⟩, c1]; rfl
        · rw [decide_eq_false (fun h => c1 h.2)]; simp; omega
      · rw [if_neg (by omega), decide_eq_false (fun h => c h.1)]
    · simp only [spec_TwoMany.j1]
      rw [e1, e2, e3, e4, e5, if_neg (show ¬ ((j + 1 : Nat) : Int) = 0 by omega), if_neg (show ¬ ((j + 1 : Nat) : Int) = 0 by omega)]
      by_cases c : n % (j + 1) = 0
      · rw [if_pos (show ((n % (j + 1) : Nat) : Int) = 0 by omega), if_pos (show ((n % (j + 1) : Nat) : Int) = 0 by omega), if_pos c]
        by_cases c1 : (j + 1) % 4 = 1
        · rw [if_pos (by simp [c, c1]), if_neg (show ¬ (((j + 1) % 4 : Nat) : Int) = 3 by omega), if_pos c1]
        · rw [if_neg (by simp [c1]), if_neg c1]
          by_cases c3 : (j + 1) % 4 = 3
          · rw [if_pos (show (((j + 1) % 4 : Nat) : Int) = 3 by omega), if_pos c3]
          · rw [if_neg (show ¬ (((j + 1) % 4 : Nat) : Int) = 3 by omega), if_neg c3]
      · rw [if_neg (by simp [c]), if_neg (show ¬ ((n % (j + 1) : Nat) : Int) = 0 by omega), if_neg c]
theorem specTwoMany_ev (n : Int) : Ev (fun k => spec_TwoMany.f k n) (if 1 ≤ n ∧ n ≤ 2000 then twoV n.toNat n.toNat else -1) := by
  unfold spec_TwoMany.f spec_l8Sum.f spec_l6In.f
  by_cases h : 1 ≤ n ∧ n ≤ 2000
  · simp only [ge_iff_le, if_pos h.1, Option.bind_some, decide_eq_true h.2, if_true, if_pos h]
    have := specTwoMany_l n.toNat (by omega) n.toNat 0 (by omega)
    rw [show ((n.toNat : Nat) : Int) = n from by omega] at this
    exact this
  · rw [if_neg h]
    by_cases h0 : 1 ≤ n
    · have h2 : ¬ n ≤ 2000 := fun h2 => h ⟨h0, h2⟩
      simp only [ge_iff_le, if_pos h0, Option.bind_some, decide_eq_false h2, Bool.false_eq_true, if_false]
      exact Ev.now _
    · simp only [ge_iff_le, if_neg h0, Option.bind_some, Bool.false_eq_true, if_false]
      exact Ev.now _


def okTwo (n : Nat) : Bool := and (Nat.beq (Nat.mul 4 (cnt n 1 n)) (Nat.add (r2N n) (Nat.mul 4 (cnt n 3 n)))) (and ((!Nat.beq (r2N n) 0) == twoIs n) (bif Nat.ble n 1000 then Nat.beq (Nat.add (cnt (Nat.mul 2 n) 1 (Nat.mul 2 n)) (cnt n 3 n)) (Nat.add (cnt n 1 n) (cnt (Nat.mul 2 n) 3 (Nat.mul 2 n))) else true))
def chkTwo (k : Nat) : Bool := Nat.rec (motive := fun _ => Bool) true (fun n ih => and (okTwo (Nat.succ n)) ih) k
set_option maxRecDepth 100000 in
theorem two_ok : chkTwo 494 = true := by decide +kernel
set_option maxRecDepth 100000 in
theorem two_2000 : okTwo 2000 = true := by decide +kernel
theorem chkTwo_get : ∀ k, chkTwo k = true → ∀ n, 1 ≤ n → n ≤ k → okTwo n = true
  | 0, _, n, h, _ => by omega
  | k + 1, hc, n, h1, h2 => by
    have e : chkTwo (k + 1) = and (okTwo (k + 1)) (chkTwo k) := rfl
    rw [e, Bool.and_eq_true] at hc
    rcases Nat.lt_or_ge n (k + 1) with h | h
    · exact chkTwo_get k hc.2 n h1 (by omega)
    · obtain rfl : n = k + 1 := by omega
      exact hc.1
theorem holds : laws_FnTwoMany.Pure := by
  intro l0 _ _ hw
  refine Ev.rounds ?_
  unfold laws_FnTwoMany.f
  by_cases big : (l0.length : Int) > 1048576
  · simp only [if_pos big]; exact Ev.now _
  obtain ⟨b, hb, ho⟩ := open_ev hw
  obtain ⟨n, p, hn, hd⟩ := sumDraw_ev hb
  simp only [if_neg big, spec_DrawTwoMany.f, ho, Option.bind_some]
  refine (hd.bind (Ev.now n)).bind ((implTwoMany_ev n).bind ((specTwoMany_ev n).bind ?_))
  simp only [if_true]
  by_cases h : 1 ≤ n ∧ n ≤ 2000
  · simp only [if_pos h]
    obtain ⟨m, rfl⟩ := Int.eq_ofNat_of_zero_le (show 0 ≤ n by omega)
    simp only [Int.toNat_natCast]
    have hok : okTwo m = true := by
      rcases (show m ≤ 494 ∨ m = 2000 by omega) with h1 | h1
      · exact chkTwo_get 494 two_ok m (by omega) h1
      · rw [h1]; exact two_2000
    simp only [okTwo, Bool.and_eq_true] at hok
    obtain ⟨h1, h2, h3⟩ := hok
    have h1' := Nat.eq_of_beq_eq_true h1
    have hr : twoV m m = r2 m := by
      rw [r2N_eq (by omega)]; unfold twoV
      change 4 * cnt m 1 m = r2N m + 4 * cnt m 3 m at h1'; omega
    have hr0 := r2N_eq (n := m) (by omega)
    have g2 := implTwoMany_ev (2 * m)
    have ge := implTwoEach_ev m
    have gi := implTwoIs_ev m
    rw [if_pos (by omega)] at ge gi
    rw [show ((2 * (m : Int)).toNat) = 2 * m from by omega] at g2
    simp only [hr, decide_eq_false (show ¬ r2 (m : Int) < 0 by rw [hr0]; omega)]
    have hI : twoIs m = decide (r2 (m : Int) > 0) := by
      have : (!Nat.beq (r2N m) 0) = twoIs m := by simpa using h2
      rw [← this, beq_iff, hr0, Bool.eq_iff_iff]
      simp; omega
    have hT : 2 * (m : Int) ≤ 2000 → (if 1 ≤ 2 * (m : Int) ∧ 2 * (m : Int) ≤ 2000 then twoV (2 * m) (2 * m) else -1) = r2 m := by
      intro hm
      rw [if_pos (by omega), ← hr]
      have hbl : Nat.ble m 1000 = true := Nat.ble_eq_true_of_le (by omega)
      rw [hbl, cond_true] at h3
      have h3' := Nat.eq_of_beq_eq_true h3
      change cnt (2 * m) 1 (2 * m) + cnt m 3 m = cnt m 1 m + cnt (2 * m) 3 (2 * m) at h3'
      unfold twoV; omega
    apply Ev.step
    · intro k
      simp only [laws_FnTwoMany.j0]
      rw [if_neg (by simp), w64 (x := 2 * (m : Int)) (by omega) (by omega)]
    · refine g2.bind (ge.bind ?_)
      simp only [if_true]
      refine gi.bind ?_
      rw [hI, beq_self_eq_true, if_pos rfl]
      by_cases c : 2 * (m : Int) > 2000
      · rw [if_pos c]; exact Ev.now _
      · rw [if_neg c, hT (by omega), beq_self_eq_true]; exact Ev.now _
  · simp only [if_neg h]
    exact Ev.step (f := fun _ => some true) (fun k => by simp [laws_FnTwoMany.j0]) (Ev.now _)

end Go.Proofs.Ytfhehcgefbknbaa.QFnTwoMany
