/- Draws, ways of four squares, divisors. -/
import Derived.Test.YtfhehcgefbknbaaPFnFourManyx2
import Derived.Test.YtfhehcgefbknbaaFast
set_option linter.unusedVariables false
set_option linter.unusedSimpArgs false
namespace Go.Proofs.Ytfhehcgefbknbaa.QFnFourMany
open Go.RowKit Go.Proofs.Ytfhehcgefbknbaa.PFnFourMany Go.Proofs.YtfhehcgefbknbaaW.PrintWords Go.Proofs.YtfhehcgefbknbaaW.PrintLast Go.Proofs.YtfhehcgefbknbaaW.PrintMore Locg

/-! ### draws -/
theorem xor_i64_nat (a b : Nat) (ha : a < 9223372036854775808) (hb : b < 9223372036854775808) : Go.bits .xor .i64 (a : Int) (b : Int) = ((a ^^^ b : Nat) : Int) := by
  have hx : a ^^^ b < 2 ^ 63 := Nat.xor_lt_two_pow (by omega) (by omega)
  have h1 : (BitVec.ofInt 64 (a : Int)).toNat = a := by
    rw [BitVec.ofInt_natCast, BitVec.toNat_ofNat]; exact Nat.mod_eq_of_lt (by omega)
  have h2 : (BitVec.ofInt 64 (b : Int)).toNat = b := by
    rw [BitVec.ofInt_natCast, BitVec.toNat_ofNat]; exact Nat.mod_eq_of_lt (by omega)
  show IntKind.i64.wrap ((BitVec.ofInt 64 (a : Int) ^^^ BitVec.ofInt 64 (b : Int)).toNat : Int) = _
  rw [BitVec.toNat_xor, h1, h2]
  have hw : ∀ n : Int, IntKind.i64.wrap n = wrap64 n := fun n => by simp [IntKind.wrap, wrap64, IntKind.bits, IntKind.signed]; omega
  rw [hw]
  exact w64' (by omega) (by omega)
theorem xor_nonneg (a b : Int) (ha : 0 ≤ a) (hA : a < 9223372036854775808) (hb : 0 ≤ b) (hB : b < 9223372036854775808) : 0 ≤ Go.bits .xor .i64 a b := by
  obtain ⟨a, rfl⟩ := Int.eq_ofNat_of_zero_le ha
  obtain ⟨b, rfl⟩ := Int.eq_ofNat_of_zero_le hb
  rw [xor_i64_nat a b (by omega) (by omega)]
  exact Int.natCast_nonneg _
theorem tmod_range {x n : Int} (hx : 0 ≤ x) (hn : 1 ≤ n) : 0 ≤ x.tmod n ∧ x.tmod n < n := by
  rw [Int.tmod_eq_emod_of_nonneg hx]; exact ⟨Int.emod_nonneg _ (by omega), Int.emod_lt_of_pos _ (by omega)⟩
def BytesB (b : List Int) : Prop := (∀ x ∈ b, 0 ≤ x ∧ x ≤ 255) ∧ b.length ≤ 2000
theorem BytesB.rd_ {b : List Int} (h : BytesB b) (i : Int) : 0 ≤ rd b i ∧ rd b i ≤ 255 := by
  unfold rd
  by_cases c : i.toNat < b.length
  · have := h.1 (b[i.toNat]) (by simp)
    simpa [List.getElem?_eq_getElem c] using this
  · simp [List.getElem?_eq_none (show b.length ≤ i.toNat by omega)]
theorem pick_ev {b : List Int} (hb : BytesB b) {p : Int} (hp : 0 ≤ p) (hP : p ≤ 1000000) {n : Int} (hn : 1 ≤ n) :
    ∃ v, 0 ≤ v ∧ v < n ∧ Ev (fun k => spec_l6Rd_pick.f k b p n) (v, p + 1) := by
  have hl := hb.2
  rcases Nat.eq_zero_or_pos b.length with h0 | h0
  · refine ⟨0, by omega, by omega, Ev.step (f := fun _ => some (0, p + 1)) (fun k => ?_) (Ev.now _)⟩
    simp only [spec_l6Rd_pick.f, spec_l6Rd_pick.j0]
    rw [if_neg (by omega), w64 (x := p + 1) (by omega) (by omega), if_pos (by simp [h0])]
  · have e : ∀ k, spec_l6Rd_pick.f (k + 1) b p n = spec_l6Rd_pick.j0 (k + 1) n false b (p + 1) := by
      intro k
      simp only [spec_l6Rd_pick.f]
      rw [if_neg (by omega), w64 (x := p + 1) (by omega) (by omega)]
      congr 1
      simp; intro h; rw [h] at h0; simp at h0
    have hq : wrap64 (p + 1 - 1) = p := by rw [w64 (by omega) (by omega)]; omega
    by_cases c : p < b.length
    · refine ⟨(rd b p).tmod n, ?_, ?_, Ev.step (f := fun _ => some ((rd b p).tmod n, p + 1)) (fun k => ?_) (Ev.now _)⟩
      · exact (tmod_range (hb.rd_ p).1 hn).1
      · exact (tmod_range (hb.rd_ p).1 hn).2
      · have := hb.rd_ p
        rw [e]
        simp only [spec_l6Rd_pick.j0, hq]
        rw [if_neg (by simp), if_pos c, if_pos hp, if_neg (by omega), w64 (x := rd b p) (by omega) (by omega)]
    · have hm := tmod_range hp (n := b.length) (by omega)
      have e7 : wrap64 (p * 7) = p * 7 := w64 (by omega) (by omega)
      have e73 : wrap64 (p * 7 + 3) = p * 7 + 3 := w64 (by omega) (by omega)
      have e29 : wrap64 (p * 29) = p * 29 := w64 (by omega) (by omega)
      have hm2 := tmod_range (x := p * 7 + 3) (by omega) (n := b.length) (by omega)
      have hA := hb.rd_ (p.tmod b.length)
      have hB := hb.rd_ ((p * 7 + 3).tmod b.length)
      have hd : 0 ≤ p.tdiv b.length ∧ p.tdiv b.length ≤ p := by
        rw [Int.tdiv_eq_ediv_of_nonneg hp]; exact ⟨Int.ediv_nonneg hp (by omega), Int.ediv_le_self _ hp⟩
      generalize hAe : rd b (p.tmod b.length) = A at hA
      generalize hBe : rd b ((p * 7 + 3).tmod b.length) = B at hB
      generalize hDe : p.tdiv b.length = D at hd
      have hx64 : 0 ≤ (A * 131 + B * 1117 + p * 29 + D * 53).tdiv 64 ∧ (A * 131 + B * 1117 + p * 29 + D * 53).tdiv 64 ≤ A * 131 + B * 1117 + p * 29 + D * 53 := by
        rw [Int.tdiv_eq_ediv_of_nonneg (by omega)]; omega
      have hx := xor_nonneg (A * 131 + B * 1117 + p * 29 + D * 53) ((A * 131 + B * 1117 + p * 29 + D * 53).tdiv 64) (by omega) (by omega) (by omega) (by omega)
      refine ⟨(Go.bits .xor .i64 (A * 131 + B * 1117 + p * 29 + D * 53) ((A * 131 + B * 1117 + p * 29 + D * 53).tdiv 64)).tmod n, (tmod_range hx hn).1, (tmod_range hx hn).2, Ev.step (f := fun _ => some (_, p + 1)) (fun k => ?_) (Ev.now _)⟩
      rw [e]
      simp only [spec_l6Rd_pick.j0, hq, e7, e73, hAe, hBe, hDe, e29]
      rw [if_neg (by simp), if_neg c, if_neg (by omega), if_pos hm.1, if_pos hm.2, if_pos hm2.1, if_pos hm2.2, if_neg (by omega)]
      rw [w64 (x := A) (by omega) (by omega), w64 (x := B) (by omega) (by omega), w64 (x := D) (by omega) (by omega), w64 (x := A * 131) (by omega) (by omega), w64 (x := B * 1117) (by omega) (by omega),
        w64 (x := A * 131 + B * 1117) (by omega) (by omega), w64 (x := A * 131 + B * 1117 + p * 29) (by omega) (by omega), w64 (x := D * 53) (by omega) (by omega),
        w64 (x := A * 131 + B * 1117 + p * 29 + D * 53) (by omega) (by omega), w64 (x := (A * 131 + B * 1117 + p * 29 + D * 53).tdiv 64) (by omega) (by omega)]
theorem open_ev {l : List Int} (h : ∀ x ∈ l, (Lit.int .u8 x).wf = true) : ∃ b, BytesB b ∧ spec_l6Open.f l = some (b, 0) := by
  have h' : ∀ x ∈ l, 0 ≤ x ∧ x ≤ 255 := fun x hx => by
    have := h x hx
    simp only [Lit.wf, Bool.and_eq_true, decide_eq_true_eq] at this
    have e1 : IntKind.u8.min = 0 := by decide
    have e2 : IntKind.u8.max = 255 := by decide
    omega
  unfold spec_l6Open.f
  by_cases c : (l.length : Int) > 2000
  · refine ⟨l.take 2000, ⟨fun x hx => h' x (List.mem_of_mem_take hx), by simp; omega⟩, ?_⟩
    rw [if_pos c, if_pos (by omega)]
  · exact ⟨l, ⟨h', by omega⟩, by rw [if_neg c]⟩


/-! ### roots -/
theorem squareRoot_l (n : Int) (h0 : 0 ≤ n) (hn : n < 4611686018427387904) : ∀ (d : Nat) (x bit : Int) (k : Nat), 0 ≤ x → x * x ≤ n → n < (x + 2 * bit) * (x + 2 * bit) → x + 2 * bit ≤ 2147483648 → bit = 2 ^ d → d + 1 < k →
    impl_squareRoot.l0 k n x bit = some (isq n, isq n * isq n == n) := by
  intro d
  have stop : ∀ (x : Int) (k : Nat), 0 ≤ x → x * x ≤ n → n < (x + 1) * (x + 1) → 0 < k → impl_squareRoot.l0 k n x 0 = some (isq n, isq n * isq n == n) := by
    intro x k hx hl hg hk
    obtain ⟨k, rfl⟩ : ∃ m, k = m + 1 := ⟨k - 1, by omega⟩
    simp only [impl_squareRoot.l0]
    have hb : x < 2147483648 := by
      rcases Int.lt_or_le x 2147483648 with h | h
      · exact h
      · have := sq_le (by omega) h; omega
    have hm : wrap64 (x * x) = x * x := w64' (sq_nonneg x) (by omega)
    rw [if_neg (by omega), hm, isq_unique hx hl hg]
  induction d with
  | zero =>
    intro x bit k hx hl hg hB hb hk
    obtain ⟨k, rfl⟩ : ∃ m, k = m + 1 := ⟨k - 1, by omega⟩
    obtain rfl : bit = 1 := by simpa using hb
    simp only [impl_squareRoot.l0]
    have hs := sq_le (a := x + 1) (b := 2147483648) (by omega) (by omega)
    rw [if_pos (by omega), w64 (x := x + 1) (by omega) (by omega), w64' (x := (x + 1) * (x + 1)) (sq_nonneg _) (by omega)]
    have e : wrap64 (Int.tdiv 1 2) = 0 := by decide +kernel
    rw [e]
    by_cases c : (x + 1) * (x + 1) ≤ n
    · rw [if_pos c]
      exact stop _ _ (by omega) c (by rw [show x + 1 + 1 = x + 2 * 1 from by omega]; exact hg) (by omega)
    · rw [if_neg c]
      exact stop _ _ hx hl (by omega) (by omega)
  | succ d ih =>
    intro x bit k hx hl hg hB hb hk
    obtain ⟨k, rfl⟩ : ∃ m, k = m + 1 := ⟨k - 1, by omega⟩
    have hp : (0 : Int) < 2 ^ d := Int.pow_pos (by omega)
    obtain ⟨c2, hc2⟩ : ∃ c2 : Int, c2 = 2 ^ d := ⟨_, rfl⟩
    have hb2 : bit = 2 * c2 := by rw [hb, Int.pow_succ, hc2]; omega
    subst hb2
    simp only [impl_squareRoot.l0]
    have hs := sq_le (a := x + 2 * c2) (b := 2147483648) (by omega) (by omega)
    have e : wrap64 (Int.tdiv (2 * c2) 2) = c2 := by rw [tdiv2 (by omega), w64 (by omega) (by omega)]; omega
    rw [if_pos (by omega), w64 (x := x + 2 * c2) (by omega) (by omega), w64' (x := (x + 2 * c2) * (x + 2 * c2)) (sq_nonneg _) (by omega), e]
    by_cases c : (x + 2 * c2) * (x + 2 * c2) ≤ n
    · rw [if_pos c]
      exact ih _ _ _ (by omega) c (by rw [show x + 2 * c2 + 2 * c2 = x + 2 * (2 * c2) from by omega]; exact hg) (by omega) hc2 (by omega)
    · rw [if_neg c]
      exact ih _ _ _ hx hl (by omega) (by omega) hc2 (by omega)
theorem squareRoot (n : Int) (h0 : 0 ≤ n) (hn : n < 4611686018427387904) (k : Nat) (hk : 31 < k) : impl_squareRoot.f k n = some (isq n, isq n * isq n == n) := by
  unfold impl_squareRoot.f
  rw [if_neg (by omega)]
  exact squareRoot_l n h0 hn 30 0 1073741824 k (by omega) (by omega) (by omega) (by omega) (by decide) (by omega)
theorem squareRoot_ev (n : Int) (h0 : 0 ≤ n) (hn : n < 4611686018427387904) : Ev (fun k => impl_squareRoot.f k n) (isq n, isq n * isq n == n) := ⟨32, fun k hk => squareRoot n h0 hn k (by omega)⟩


/-! ### ways of two squares -/
theorem twoWays_l (n : Int) (h0 : 0 ≤ n) (hn : n ≤ 1000000) : ∀ (d : Nat) (acc x : Int) (k : Nat), 0 ≤ x → x + d = isq n + 1 → 0 ≤ acc → acc ≤ 4 * x → d + 32 < k →
    impl_twoWays.l0 k n acc x = some (acc + r2from n d x) := by
  have hq : isq n < 1001 := isq_bound h0 (by omega) (by omega)
  have hq1 := isq_lt h0
  have hq2 := isq_le h0
  intro d
  induction d with
  | zero =>
    intro acc x k hx hd ha hA hk
    obtain ⟨k, rfl⟩ : ∃ m, k = m + 1 := ⟨k - 1, by omega⟩
    have e : x = isq n + 1 := by omega
    simp only [impl_twoWays.l0, r2from]
    rw [wmul hx (by omega) hx (by omega), e, if_neg (by omega)]
    simp
  | succ d ih =>
    intro acc x k hx hd ha hA hk
    obtain ⟨k, rfl⟩ : ∃ m, k = m + 1 := ⟨k - 1, by omega⟩
    have hxq := sq_le hx (show x ≤ isq n by omega)
    have hx0 := sq_nonneg x
    simp only [impl_twoWays.l0, r2from]
    rw [wmul hx (by omega) hx (by omega), if_pos (by omega), w64 (x := n - x * x) (by omega) (by omega), squareRoot _ (by omega) (by omega) k (by omega)]
    simp only [Option.bind_some]
    rw [w64 (x := x + 1) (by omega) (by omega)]
    have hw := wayW_bd n x
    rw [← Int.add_assoc]
    unfold wayW at hw ⊢
    have hi := isq_nonneg (n - x * x)
    by_cases c : isq (n - x * x) * isq (n - x * x) = n - x * x
    · simp only [if_pos c] at hw ⊢
      rw [if_pos (by rw [beq_iff_eq]; exact c)]
      by_cases c1 : x > 0 <;> by_cases c2 : isq (n - x * x) > 0 <;> simp only [if_pos, if_neg, c1, c2, not_false_eq_true] at hw ⊢ <;> rw [w64 (by omega) (by omega)] <;> exact ih _ _ _ (by omega) (by omega) (by omega) (by omega) (by omega)
    · simp only [if_neg c] at hw ⊢
      rw [if_neg (by rw [beq_iff_eq]; exact c)]
      simpa using ih _ _ _ (by omega) (by omega) (by omega) (by omega) (by omega)
theorem twoWays_ev (n : Int) (h0 : 0 ≤ n) (hn : n ≤ 1000000) : Ev (fun k => impl_twoWays.f k n) (r2 n) := by
  refine ⟨(isq n + 1).toNat + 33, fun k hk => ?_⟩
  have := twoWays_l n h0 hn (isq n + 1).toNat 0 0 k (by omega) (by have := isq_nonneg n; omega) (by omega) (by omega) (by omega)
  simpa [impl_twoWays.f, r2] using this


/-! ### FourEach -/
theorem implFour_l (n : Int) (h0 : 0 ≤ n) (hn : n ≤ 300) : ∀ (d : Nat) (acc x : Int), 0 ≤ x → x + d = n + 1 → 0 ≤ acc → acc ≤ 6000 * x →
    Ev (fun k => impl_FourEach.l0 k n acc x) (acc + conv n d x) := by
  intro d
  induction d with
  | zero =>
    intro acc x hx hd ha hA
    refine Ev.step (f := fun _ => some acc) (fun k => ?_) (by simpa [conv] using Ev.now acc)
    simp only [impl_FourEach.l0]
    rw [if_neg (by omega)]
  | succ d ih =>
    intro acc x hx hd ha hA
    have b1 := r2_bd hx
    have b2 := r2_bd (n := n - x) (by omega)
    have q1 : isq x < 18 := isq_bound hx (by omega) (by omega)
    have q2 : isq (n - x) < 18 := isq_bound (by omega) (by omega) (by omega)
    have hm := Int.mul_nonneg b1.1 b2.1
    have hM := mul_le2 b1.1 (show r2 x ≤ 72 by omega) b2.1 (show r2 (n - x) ≤ 72 by omega)
    refine Ev.step (f := fun k => (impl_twoWays.f k x).bind fun t103 => ((impl_twoWays.f k (n - x)).bind fun t104 => (impl_FourEach.l0 k n (wrap64 (acc + (wrap64 (t103 * t104)))) (x + 1)))) (fun k => ?_) ?_
    · simp only [impl_FourEach.l0]
      rw [if_pos (by omega), w64 (x := n - x) (by omega) (by omega), w64 (x := x + 1) (by omega) (by omega)]
    · refine (twoWays_ev x hx (by omega)).bind ((twoWays_ev (n - x) (by omega) (by omega)).bind ?_)
      rw [w64 (x := r2 x * r2 (n - x)) (by omega) (by omega), w64 (x := acc + r2 x * r2 (n - x)) (by omega) (by omega)]
      have := ih (acc + r2 x * r2 (n - x)) (x + 1) (by omega) (by omega) (by omega) (by omega)
      simpa [conv, Int.add_assoc] using this
theorem implFourEach_ev (n : Int) : Ev (fun k => impl_FourEach.f k n) (if 0 ≤ n ∧ n ≤ 300 then r4 n else -1) := by
  unfold impl_FourEach.f
  by_cases h : 0 ≤ n ∧ n ≤ 300
  · simp only [if_neg (show ¬ n < 0 by omega), decide_eq_false (show ¬ n > 300 by omega), if_pos h]
    refine Ev.step (f := fun k => impl_FourEach.l0 k n 0 0) (fun k => by simp [impl_FourEach.j0]) ?_
    simpa [r4] using implFour_l n h.1 h.2 (n + 1).toNat 0 0 (by omega) (by omega) (by omega) (by omega)
  · rw [if_neg h]
    refine Ev.step (f := fun _ => some (-1)) (fun k => ?_) (Ev.now _)
    by_cases h0 : n < 0
    · simp [impl_FourEach.j0, h0]
    · simp [impl_FourEach.j0, h0, show n > 300 by omega]


theorem sumDraw_ev {b : List Int} (hb : BytesB b) : ∃ n p, (n = -1 ∨ n = 2000 ∨ n = 2001 ∨ 0 ≤ n ∧ n ≤ 494) ∧ Ev (fun k => spec_l92Sum.f k b 0) (n, p) := by
  obtain ⟨v1, h1, g1, e1⟩ := pick_ev hb (p := 0) (by omega) (by omega) (n := 20) (by omega)
  by_cases c : v1 = 0
  · obtain ⟨v2, h2, g2, e2⟩ := pick_ev hb (p := 0 + 1) (by omega) (by omega) (n := 4) (by omega)
    refine ⟨rd [(-1), 0, 2000, 2001] v2, 0 + 1 + 1, ?_, ?_⟩
    · have : v2 = 0 ∨ v2 = 1 ∨ v2 = 2 ∨ v2 = 3 := by omega
      rcases this with rfl | rfl | rfl | rfl <;> simp [rd]
    · simp only [spec_l92Sum.f]
      refine e1.bind ?_
      simp only [if_pos c, Option.bind_some]
      refine e2.bind ?_
      simp only [if_pos h2, if_pos (show v2 < ((List.length [(-1 : Int), 0, 2000, 2001] : Nat) : Int) from by simp; omega)]
      exact Ev.now _
  · obtain ⟨v2, h2, g2, e2⟩ := pick_ev hb (p := 0 + 1) (by omega) (by omega) (n := 100) (by omega)
    obtain ⟨v3, h3, g3, e3⟩ := pick_ev hb (p := 0 + 1 + 1) (by omega) (by omega) (n := 6) (by omega)
    obtain ⟨v4, h4, g4, e4⟩ := pick_ev hb (p := 0 + 1 + 1 + 1) (by omega) (by omega) (n := 80) (by omega)
    have hm := Int.mul_nonneg h3 h4
    have hM := mul_le2 h3 (show v3 ≤ 5 by omega) h4 (show v4 ≤ 79 by omega)
    refine ⟨v2 + v3 * v4, 0 + 1 + 1 + 1 + 1, .inr (.inr (.inr ⟨by omega, by omega⟩)), ?_⟩
    simp only [spec_l92Sum.f]
    refine e1.bind ?_
    simp only [if_neg c]
    refine e2.bind (e3.bind (e4.bind ?_))
    simp only [w64 (x := v3 * v4) (by omega) (by omega), w64 (x := v2 + v3 * v4) (by omega) (by omega)]
    exact Ev.now _


theorem s4_bd (n : Nat) : ∀ k, k ≤ 2000 → s4 n k ≤ 2000 * k
  | 0, _ => Nat.le_refl 0
  | k + 1, h => by
    have e : s4 n (k + 1) = s4 n k + (bif Nat.beq (n % (k + 1)) 0 then (bif Nat.beq ((k + 1) % 4) 0 then 0 else (k + 1)) else 0) := rfl
    have := s4_bd n k (by omega)
    rw [e]
    cases Nat.beq (n % (k + 1)) 0 <;> cases Nat.beq ((k + 1) % 4) 0 <;> simp only [cond_true, cond_false] <;> omega
theorem s4_step (n k : Nat) : s4 n (k + 1) = if n % (k + 1) = 0 then (if (k + 1) % 4 = 0 then s4 n k else s4 n k + (k + 1)) else s4 n k := by
  have e : s4 n (k + 1) = s4 n k + (bif Nat.beq (n % (k + 1)) 0 then (bif Nat.beq ((k + 1) % 4) 0 then 0 else (k + 1)) else 0) := rfl
  rw [e, beq_iff, beq_iff]
  by_cases c : n % (k + 1) = 0 <;> by_cases c2 : (k + 1) % 4 = 0 <;> simp [c, c2]
theorem implFourMany_l (n : Nat) (hn : n ≤ 2000) : ∀ (d j : Nat), j + d = n →
    Ev (fun k => impl_FourMany.l0 k n ((8 * s4 n j : Nat) : Int) ((j + 1 : Nat) : Int)) ((8 * s4 n n : Nat) : Int) := by
  intro d
  induction d with
  | zero =>
    intro j hj
    obtain rfl : j = n := by omega
    refine Ev.step (f := fun _ => some _) (fun k => ?_) (Ev.now _)
    simp only [impl_FourMany.l0]
    rw [if_neg (by omega)]
  | succ d ih =>
    intro j hj
    have hb := s4_bd n j (by omega)
    have := ih (j + 1) (by omega)
    rw [s4_step] at this
    refine Ev.step (fun k => ?_) this
    simp only [impl_FourMany.l0]
    rw [if_pos (by omega), if_neg (by omega), w64 (x := ((j + 1 : Nat) : Int) + 1) (by omega) (by omega), w64 (x := 8 * ((j + 1 : Nat) : Int)) (by omega) (by omega),
      show Int.tmod (n : Int) ((j + 1 : Nat) : Int) = ((n % (j + 1) : Nat) : Int) from (Int.ofNat_tmod _ _).symm,
      show Int.tmod ((j + 1 : Nat) : Int) 4 = (((j + 1) % 4 : Nat) : Int) from (Int.ofNat_tmod (j + 1) 4).symm,
      w64 (x := ((8 * s4 n j : Nat) : Int) + 8 * ((j + 1 : Nat) : Int)) (by omega) (by omega)]
    by_cases c : n % (j + 1) = 0
    · rw [if_pos (by omega), if_pos c]
      by_cases c2 : (j + 1) % 4 = 0
      · rw [if_pos (by omega), if_pos c2]; rfl
      · rw [if_neg (by omega), if_neg c2, show ((8 * s4 n j : Nat) : Int) + 8 * ((j + 1 : Nat) : Int) = ((8 * (s4 n j + (j + 1)) : Nat) : Int) from by omega]; rfl
    · rw [if_neg (by omega), if_neg c]; rfl
theorem implFourMany_ev (n : Int) : Ev (fun k => impl_FourMany.f k n) (if 1 ≤ n ∧ n ≤ 2000 then ((8 * s4 n.toNat n.toNat : Nat) : Int) else -1) := by
  unfold impl_FourMany.f
  by_cases h : 1 ≤ n ∧ n ≤ 2000
  · simp only [if_neg (show ¬ n < 1 by omega), decide_eq_false (show ¬ n > 2000 by omega), if_pos h]
    refine Ev.step (f := fun k => impl_FourMany.l0 k n 0 1) (fun k => by simp [impl_FourMany.j0]) ?_
    have := implFourMany_l n.toNat (by omega) n.toNat 0 (by omega)
    rw [show ((n.toNat : Nat) : Int) = n from by omega] at this
    exact this
  · rw [if_neg h]
    refine Ev.step (f := fun _ => some (-1)) (fun k => ?_) (Ev.now _)
    by_cases h0 : n < 1
    · simp [impl_FourMany.j0, h0]
    · simp [impl_FourMany.j0, h0, show n > 2000 by omega]
theorem specFourMany_l (n : Nat) (hn : n ≤ 2000) : ∀ (d j : Nat), j + d = n →
    Ev (fun k => spec_FourMany.l0 k n ((s4 n j : Nat) : Int) ((j + 1 : Nat) : Int)) ((8 * s4 n n : Nat) : Int) := by
  intro d
  induction d with
  | zero =>
    intro j hj
    obtain rfl : j = n := by omega
    have hb := s4_bd j j (by omega)
    refine Ev.step (f := fun _ => some _) (fun k => ?_) (Ev.now _)
    simp only [spec_FourMany.l0]
    rw [if_neg (by omega), w64 (x := 8 * ((s4 j j : Nat) : Int)) (by omega) (by omega), show 8 * ((s4 j j : Nat) : Int) = ((8 * s4 j j : Nat) : Int) from by omega]
  | succ d ih =>
    intro j hj
    have hb := s4_bd n j (by omega)
    have := ih (j + 1) (by omega)
    rw [s4_step] at this
    refine Ev.step (fun k => ?_) this
    simp only [spec_FourMany.l0]
    rw [if_pos (by omega), if_neg (by omega), w64 (x := ((j + 1 : Nat) : Int) + 1) (by omega) (by omega),
      show Int.tmod (n : Int) ((j + 1 : Nat) : Int) = ((n % (j + 1) : Nat) : Int) from (Int.ofNat_tmod _ _).symm,
      show Int.tmod ((j + 1 : Nat) : Int) 4 = (((j + 1) % 4 : Nat) : Int) from (Int.ofNat_tmod (j + 1) 4).symm,
      w64 (x := ((s4 n j : Nat) : Int) + ((j + 1 : Nat) : Int)) (by omega) (by omega)]
    by_cases c : n % (j + 1) = 0
    · rw [if_pos (by omega), if_pos c]
      by_cases c2 : (j + 1) % 4 = 0
      · rw [if_pos (by omega), if_pos c2]; rfl
      · rw [if_neg (by omega), if_neg c2]; rfl
    · rw [if_neg (by omega), if_neg c]; rfl
theorem specFourMany_ev (n : Int) : Ev (fun k => spec_FourMany.f k n) (if 1 ≤ n ∧ n ≤ 2000 then ((8 * s4 n.toNat n.toNat : Nat) : Int) else -1) := by
  unfold spec_FourMany.f spec_l8Sum.f spec_l6In.f
  by_cases h : 1 ≤ n ∧ n ≤ 2000
  · simp only [ge_iff_le, if_pos h.1, Option.bind_some, decide_eq_true h.2, if_true, if_pos h]
    have := specFourMany_l n.toNat (by omega) n.toNat 0 (by omega)
    rw [show ((n.toNat : Nat) : Int) = n from by omega] at this
    exact this
  · rw [if_neg h]
    by_cases h0 : 1 ≤ n
    · have h2 : ¬ n ≤ 2000 := fun h2 => h ⟨h0, h2⟩
      simp only [ge_iff_le, if_pos h0, Option.bind_some, decide_eq_false h2, Bool.false_eq_true, if_false]
      exact Ev.now _
    · simp only [ge_iff_le, if_neg h0, Option.bind_some, Bool.false_eq_true, if_false]
      exact Ev.now _


def chkOdd (k : Nat) : Bool := Nat.rec (motive := fun _ => Bool) true (fun n ih => and (bif Nat.beq (Nat.mod n 2) 1 then and (Nat.beq (s4 (Nat.mul 2 n) (Nat.mul 2 n)) (Nat.mul 3 (s4 n n))) (Nat.beq (s4 (Nat.mul 4 n) (Nat.mul 4 n)) (Nat.mul 3 (s4 n n))) else true) ih) k
set_option maxRecDepth 100000 in
theorem odd_ok : chkOdd 495 = true := by decide +kernel
theorem chkOdd_get : ∀ k, chkOdd k = true → ∀ n, n < k → n % 2 = 1 → s4 (2 * n) (2 * n) = 3 * s4 n n ∧ s4 (4 * n) (4 * n) = 3 * s4 n n
  | 0, _, n, h, _ => by omega
  | k + 1, hc, n, h, ho => by
    have e : chkOdd (k + 1) = and (bif Nat.beq (k % 2) 1 then and (Nat.beq (s4 (2 * k) (2 * k)) (3 * s4 k k)) (Nat.beq (s4 (4 * k) (4 * k)) (3 * s4 k k)) else true) (chkOdd k) := rfl
    rw [e] at hc
    simp only [Bool.and_eq_true] at hc
    rcases Nat.lt_or_ge n k with h1 | h1
    · exact chkOdd_get k hc.2 n h1 ho
    · obtain rfl : n = k := by omega
      have hb : Nat.beq (n % 2) 1 = true := by rw [ho]; rfl
      have := hc.1
      rw [hb, cond_true, Bool.and_eq_true] at this
      exact ⟨Nat.eq_of_beq_eq_true this.1, Nat.eq_of_beq_eq_true this.2⟩
theorem s4_pos (n : Nat) (h : 1 ≤ n) : 1 ≤ s4 n n := by
  have : ∀ k, 1 ≤ k → 1 ≤ s4 n k := by
    intro k
    induction k with
    | zero => intro h; omega
    | succ k ih =>
      intro _
      rw [s4_step]
      rcases Nat.eq_zero_or_pos k with h0 | h0
      · subst h0; simp [Nat.mod_one]
      · have := ih h0; repeat' split
        all_goals omega
  exact this n h
theorem holds : laws_FnFourMany.Pure := by
  intro l0 _ _ hw
  refine Ev.rounds ?_
  unfold laws_FnFourMany.f
  by_cases big : (l0.length : Int) > 1048576
  · simp only [if_pos big]; exact Ev.now _
  obtain ⟨b, hb, ho⟩ := open_ev hw
  obtain ⟨n, p, hn, hd⟩ := sumDraw_ev hb
  simp only [if_neg big, spec_DrawFourMany.f, ho, Option.bind_some]
  refine (hd.bind (Ev.now n)).bind ((implFourMany_ev n).bind ((specFourMany_ev n).bind ?_))
  simp only [if_true]
  by_cases h : 1 ≤ n ∧ n ≤ 2000
  · simp only [if_pos h]
    obtain ⟨m, rfl⟩ := Int.eq_ofNat_of_zero_le (show 0 ≤ n by omega)
    simp only [Int.toNat_natCast]
    have hs := s4_pos m (by omega)
    have hB := s4_bd m m (by omega)
    have hm : m ≤ 494 ∨ m = 2000 := by omega
    have g4 := implFourEach_ev m
    have g2 := implFourMany_ev (2 * m)
    have g44 := implFourMany_ev (4 * m)
    have hr : (0 ≤ (m : Int) ∧ (m : Int) ≤ 300) → r4 m = ((8 * s4 m m : Nat) : Int) := fun h => by
      rw [r4_eq m (by omega), if_neg (by omega)]
    have ho2 := fun h1 h2 => chkOdd_get 495 odd_ok m h1 h2
    have e2 : ((2 * (m : Int)).toNat) = 2 * m := by omega
    have e4 : ((4 * (m : Int)).toNat) = 4 * m := by omega
    rw [e2] at g2
    rw [e4] at g44
    rw [decide_eq_false (show ¬ ((8 * s4 m m : Nat) : Int) < 0 by omega)]
    apply Ev.step
    · intro k
      simp only [laws_FnFourMany.j0]
      rw [if_neg (by simp), w64 (x := 2 * (m : Int)) (by omega) (by omega), w64 (x := 4 * (m : Int)) (by omega) (by omega)]
    · refine g4.bind (g2.bind (g44.bind ?_))
      generalize hA : (if 0 ≤ (m : Int) ∧ (m : Int) ≤ 300 then r4 m else -1) = A
      generalize hB2 : (if 1 ≤ 2 * (m : Int) ∧ 2 * (m : Int) ≤ 2000 then ((8 * s4 (2 * m) (2 * m) : Nat) : Int) else -1) = B
      generalize hC : (if 1 ≤ 4 * (m : Int) ∧ 4 * (m : Int) ≤ 2000 then ((8 * s4 (4 * m) (4 * m) : Nat) : Int) else -1) = C
      have hA' : A = -1 ∨ A = ((8 * s4 m m : Nat) : Int) := by
        rw [← hA]; split
        · rename_i h; exact .inr (hr h)
        · exact .inl rfl
      have hB' : m % 2 = 0 ∨ B = -1 ∨ B = 3 * ((8 * s4 m m : Nat) : Int) := by
        rw [← hB2]
        rcases Nat.mod_two_eq_zero_or_one m with h2 | h2
        · exact .inl h2
        · have := ho2 (by omega) h2
          split
          · exact .inr (.inr (by rw [this.1]; omega))
          · exact .inr (.inl rfl)
      have hC' : m % 2 = 0 ∨ C = -1 ∨ C = 3 * ((8 * s4 m m : Nat) : Int) := by
        rw [← hC]
        rcases Nat.mod_two_eq_zero_or_one m with h2 | h2
        · exact .inl h2
        · have := ho2 (by omega) h2
          split
          · exact .inr (.inr (by rw [this.2]; omega))
          · exact .inr (.inl rfl)
      have ht : Int.tmod (m : Int) 2 = ((m % 2 : Nat) : Int) := (Int.ofNat_tmod m 2).symm
      rw [ht, w64 (x := 3 * ((8 * s4 m m : Nat) : Int)) (by omega) (by omega)]
      have hS8 : 8 ≤ ((8 * s4 m m : Nat) : Int) := by omega
      generalize ((8 * s4 m m : Nat) : Int) = S at *
      clear hA hB2 hC g4 g2 g44 hd ho2 hr
      have e1 : (if (((m % 2 : Nat) : Int)) = 0 then some true else if B = -1 then if C = -1 then some true else some (C == 3 * S) else if B = 3 * S then if C = -1 then some true else some (C == 3 * S) else some false) = some true := by
        by_cases h2 : m % 2 = 0
        · rw [if_pos (by omega)]
        · rw [if_neg (by omega)]
          have hB'' := hB'.resolve_left h2
          have hC'' := hC'.resolve_left h2
          have e3 : (if C = -1 then some true else some (C == 3 * S)) = some true := by
            by_cases c : C = -1
            · rw [if_pos c]
            · rw [if_neg c, hC''.resolve_left c, beq_self_eq_true]
          rw [e3]
          by_cases c : B = -1
          · rw [if_pos c]
          · rw [if_neg c, if_pos (hB''.resolve_left c)]
      rw [e1, if_pos (show S ≥ 8 by omega)]
      have : (if A = -1 then some true else if A = S then some true else some false) = some true := by
        by_cases c : A = -1
        · rw [if_pos c]
        · rw [if_neg c, if_pos (hA'.resolve_left c)]
      rw [this]
      exact Ev.now _
  · simp only [if_neg h]
    exact Ev.step (f := fun _ => some true) (fun k => by simp [laws_FnFourMany.j0]) (Ev.now _)

end Go.Proofs.Ytfhehcgefbknbaa.QFnFourMany
