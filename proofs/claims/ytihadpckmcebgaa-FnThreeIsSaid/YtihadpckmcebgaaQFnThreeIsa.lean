/- Forms. -/
import Derived.Test.YtihadpckmcebgaaPFnThreeIsx4
import Derived.Test.YtihadpckmcebgaaCor
set_option linter.unusedVariables false
set_option linter.unusedSimpArgs false
namespace Go.Proofs.Ytihadpckmcebgaa.QFnThreeIs
open Go.RowKit Go.Proofs.Ytihadpckmcebgaa.PFnThreeIs Go.Proofs.YtihadpckmcebgaaW.PrintWords Go.Proofs.YtihadpckmcebgaaW.PrintLast Go.Proofs.YtihadpckmcebgaaW.PrintMore Locg

/-! ### draws -/
theorem xor_i64_nat (a b : Nat) (ha : a < 9223372036854775808) (hb : b < 9223372036854775808) : Go.bits .xor .i64 (a : Int) (b : Int) = ((a ^^^ b : Nat) : Int) := by
  have hx : a ^^^ b < 2 ^ 63 := Nat.xor_lt_two_pow (by omega) (by omega)
  have h1 : (BitVec.ofInt 64 (a : Int)).toNat = a := by
    rw [BitVec.ofInt_natCast, BitVec.toNat_ofNat]; exact Nat.mod_eq_of_lt (by omega)
  have h2 : (BitVec.ofInt 64 (b : Int)).toNat = b := by
    rw [BitVec.ofInt_natCast, BitVec.toNat_ofNat]; exact Nat.mod_eq_of_lt (by omega)
  show IntKind.i64.wrap ((BitVec.ofInt 64 (a : Int) ^^^ BitVec.ofInt 64 (b : Int)).toNat : Int) = _
  rw [BitVec.toNat_xor, h1, h2]
  have hw : ∀ n : Int, IntKind.i64.wrap n = wrap64 n := fun n => by simp [IntKind.wrap, wrap64, IntKind.bits, IntKind.signed]; omega
  rw [hw]
  exact w64' (by omega) (by omega)
theorem xor_nonneg (a b : Int) (ha : 0 ≤ a) (hA : a < 9223372036854775808) (hb : 0 ≤ b) (hB : b < 9223372036854775808) : 0 ≤ Go.bits .xor .i64 a b := by
  obtain ⟨a, rfl⟩ := Int.eq_ofNat_of_zero_le ha
  obtain ⟨b, rfl⟩ := Int.eq_ofNat_of_zero_le hb
  rw [xor_i64_nat a b (by omega) (by omega)]
  exact Int.natCast_nonneg _
theorem tmod_range {x n : Int} (hx : 0 ≤ x) (hn : 1 ≤ n) : 0 ≤ x.tmod n ∧ x.tmod n < n := by
  rw [Int.tmod_eq_emod_of_nonneg hx]; exact ⟨Int.emod_nonneg _ (by omega), Int.emod_lt_of_pos _ (by omega)⟩
def BytesB (b : List Int) : Prop := (∀ x ∈ b, 0 ≤ x ∧ x ≤ 255) ∧ b.length ≤ 2000
theorem BytesB.rd_ {b : List Int} (h : BytesB b) (i : Int) : 0 ≤ rd b i ∧ rd b i ≤ 255 := by
  unfold rd
  by_cases c : i.toNat < b.length
  · have := h.1 (b[i.toNat]) (by simp)
    simpa [List.getElem?_eq_getElem c] using this
  · simp [List.getElem?_eq_none (show b.length ≤ i.toNat by omega)]
theorem pick_ev {b : List Int} (hb : BytesB b) {p : Int} (hp : 0 ≤ p) (hP : p ≤ 1000000) {n : Int} (hn : 1 ≤ n) :
    ∃ v, 0 ≤ v ∧ v < n ∧ Ev (fun k => spec_l6Rd_pick.f k b p n) (v, p + 1) := by
  have hl := hb.2
  rcases Nat.eq_zero_or_pos b.length with h0 | h0
  · refine ⟨0, by omega, by omega, Ev.step (f := fun _ => some (0, p + 1)) (fun k => ?_) (Ev.now _)⟩
    simp only [spec_l6Rd_pick.f, spec_l6Rd_pick.j0]
    rw [if_neg (by omega), w64 (x := p + 1) (by omega) (by omega), if_pos (by simp [h0])]
  · have e : ∀ k, spec_l6Rd_pick.f (k + 1) b p n = spec_l6Rd_pick.j0 (k + 1) n false b (p + 1) := by
      intro k
      simp only [spec_l6Rd_pick.f]
      rw [if_neg (by omega), w64 (x := p + 1) (by omega) (by omega)]
      congr 1
      simp; intro h; rw [h] at h0; simp at h0
    have hq : wrap64 (p + 1 - 1) = p := by rw [w64 (by omega) (by omega)]; omega
    by_cases c : p < b.length
    · refine ⟨(rd b p).tmod n, ?_, ?_, Ev.step (f := fun _ => some ((rd b p).tmod n, p + 1)) (fun k => ?_) (Ev.now _)⟩
      · exact (tmod_range (hb.rd_ p).1 hn).1
      · exact (tmod_range (hb.rd_ p).1 hn).2
      · have := hb.rd_ p
        rw [e]
        simp only [spec_l6Rd_pick.j0, hq]
        rw [if_neg (by simp), if_pos c, if_pos hp, if_neg (by omega), w64 (x := rd b p) (by omega) (by omega)]
    · have hm := tmod_range hp (n := b.length) (by omega)
      have e7 : wrap64 (p * 7) = p * 7 := w64 (by omega) (by omega)
      have e73 : wrap64 (p * 7 + 3) = p * 7 + 3 := w64 (by omega) (by omega)
      have e29 : wrap64 (p * 29) = p * 29 := w64 (by omega) (by omega)
      have hm2 := tmod_range (x := p * 7 + 3) (by omega) (n := b.length) (by omega)
      have hA := hb.rd_ (p.tmod b.length)
      have hB := hb.rd_ ((p * 7 + 3).tmod b.length)
      have hd : 0 ≤ p.tdiv b.length ∧ p.tdiv b.length ≤ p := by
        rw [Int.tdiv_eq_ediv_of_nonneg hp]; exact ⟨Int.ediv_nonneg hp (by omega), Int.ediv_le_self _ hp⟩
      generalize hAe : rd b (p.tmod b.length) = A at hA
      generalize hBe : rd b ((p * 7 + 3).tmod b.length) = B at hB
      generalize hDe : p.tdiv b.length = D at hd
      have hx64 : 0 ≤ (A * 131 + B * 1117 + p * 29 + D * 53).tdiv 64 ∧ (A * 131 + B * 1117 + p * 29 + D * 53).tdiv 64 ≤ A * 131 + B * 1117 + p * 29 + D * 53 := by
        rw [Int.tdiv_eq_ediv_of_nonneg (by omega)]; omega
      have hx := xor_nonneg (A * 131 + B * 1117 + p * 29 + D * 53) ((A * 131 + B * 1117 + p * 29 + D * 53).tdiv 64) (by omega) (by omega) (by omega) (by omega)
      refine ⟨(Go.bits .xor .i64 (A * 131 + B * 1117 + p * 29 + D * 53) ((A * 131 + B * 1117 + p * 29 + D * 53).tdiv 64)).tmod n, (tmod_range hx hn).1, (tmod_range hx hn).2, Ev.step (f := fun _ => some (_, p + 1)) (fun k => ?_) (Ev.now _)⟩
      rw [e]
      simp only [spec_l6Rd_pick.j0, hq, e7, e73, hAe, hBe, hDe, e29]
      rw [if_neg (by simp), if_neg c, if_neg (by omega), if_pos hm.1, if_pos hm.2, if_pos hm2.1, if_pos hm2.2, if_neg (by omega)]
      rw [w64 (x := A) (by omega) (by omega), w64 (x := B) (by omega) (by omega), w64 (x := D) (by omega) (by omega), w64 (x := A * 131) (by omega) (by omega), w64 (x := B * 1117) (by omega) (by omega),
        w64 (x := A * 131 + B * 1117) (by omega) (by omega), w64 (x := A * 131 + B * 1117 + p * 29) (by omega) (by omega), w64 (x := D * 53) (by omega) (by omega),
        w64 (x := A * 131 + B * 1117 + p * 29 + D * 53) (by omega) (by omega), w64 (x := (A * 131 + B * 1117 + p * 29 + D * 53).tdiv 64) (by omega) (by omega)]
theorem open_ev {l : List Int} (h : ∀ x ∈ l, (Lit.int .u8 x).wf = true) : ∃ b, BytesB b ∧ spec_l6Open.f l = some (b, 0) := by
  have h' : ∀ x ∈ l, 0 ≤ x ∧ x ≤ 255 := fun x hx => by
    have := h x hx
    simp only [Lit.wf, Bool.and_eq_true, decide_eq_true_eq] at this
    have e1 : IntKind.u8.min = 0 := by decide
    have e2 : IntKind.u8.max = 255 := by decide
    omega
  unfold spec_l6Open.f
  by_cases c : (l.length : Int) > 2000
  · refine ⟨l.take 2000, ⟨fun x hx => h' x (List.mem_of_mem_take hx), by simp; omega⟩, ?_⟩
    rw [if_pos c, if_pos (by omega)]
  · exact ⟨l, ⟨h', by omega⟩, by rw [if_neg c]⟩


/-! ### roots -/
theorem squareRoot_l (n : Int) (h0 : 0 ≤ n) (hn : n < 4611686018427387904) : ∀ (d : Nat) (x bit : Int) (k : Nat), 0 ≤ x → x * x ≤ n → n < (x + 2 * bit) * (x + 2 * bit) → x + 2 * bit ≤ 2147483648 → bit = 2 ^ d → d + 1 < k →
    impl_squareRoot.l0 k n x bit = some (isq n, isq n * isq n == n) := by
  intro d
  have stop : ∀ (x : Int) (k : Nat), 0 ≤ x → x * x ≤ n → n < (x + 1) * (x + 1) → 0 < k → impl_squareRoot.l0 k n x 0 = some (isq n, isq n * isq n == n) := by
    intro x k hx hl hg hk
    obtain ⟨k, rfl⟩ : ∃ m, k = m + 1 := ⟨k - 1, by omega⟩
    simp only [impl_squareRoot.l0]
    have hb : x < 2147483648 := by
      rcases Int.lt_or_le x 2147483648 with h | h
      · exact h
      · have := sq_le (by omega) h; omega
    have hm : wrap64 (x * x) = x * x := w64' (sq_nonneg x) (by omega)
    rw [if_neg (by omega), hm, isq_unique hx hl hg]
  induction d with
  | zero =>
    intro x bit k hx hl hg hB hb hk
    obtain ⟨k, rfl⟩ : ∃ m, k = m + 1 := ⟨k - 1, by omega⟩
    obtain rfl : bit = 1 := by simpa using hb
    simp only [impl_squareRoot.l0]
    have hs := sq_le (a := x + 1) (b := 2147483648) (by omega) (by omega)
    rw [if_pos (by omega), w64 (x := x + 1) (by omega) (by omega), w64' (x := (x + 1) * (x + 1)) (sq_nonneg _) (by omega)]
    have e : wrap64 (Int.tdiv 1 2) = 0 := by decide +kernel
    rw [e]
    by_cases c : (x + 1) * (x + 1) ≤ n
    · rw [if_pos c]
      exact stop _ _ (by omega) c (by rw [show x + 1 + 1 = x + 2 * 1 from by omega]; exact hg) (by omega)
    · rw [if_neg c]
      exact stop _ _ hx hl (by omega) (by omega)
  | succ d ih =>
    intro x bit k hx hl hg hB hb hk
    obtain ⟨k, rfl⟩ : ∃ m, k = m + 1 := ⟨k - 1, by omega⟩
    have hp : (0 : Int) < 2 ^ d := Int.pow_pos (by omega)
    obtain ⟨c2, hc2⟩ : ∃ c2 : Int, c2 = 2 ^ d := ⟨_, rfl⟩
    have hb2 : bit = 2 * c2 := by rw [hb, Int.pow_succ, hc2]; omega
    subst hb2
    simp only [impl_squareRoot.l0]
    have hs := sq_le (a := x + 2 * c2) (b := 2147483648) (by omega) (by omega)
    have e : wrap64 (Int.tdiv (2 * c2) 2) = c2 := by rw [tdiv2 (by omega), w64 (by omega) (by omega)]; omega
    rw [if_pos (by omega), w64 (x := x + 2 * c2) (by omega) (by omega), w64' (x := (x + 2 * c2) * (x + 2 * c2)) (sq_nonneg _) (by omega), e]
    by_cases c : (x + 2 * c2) * (x + 2 * c2) ≤ n
    · rw [if_pos c]
      exact ih _ _ _ (by omega) c (by rw [show x + 2 * c2 + 2 * c2 = x + 2 * (2 * c2) from by omega]; exact hg) (by omega) hc2 (by omega)
    · rw [if_neg c]
      exact ih _ _ _ hx hl (by omega) (by omega) hc2 (by omega)
theorem squareRoot (n : Int) (h0 : 0 ≤ n) (hn : n < 4611686018427387904) (k : Nat) (hk : 31 < k) : impl_squareRoot.f k n = some (isq n, isq n * isq n == n) := by
  unfold impl_squareRoot.f
  rw [if_neg (by omega)]
  exact squareRoot_l n h0 hn 30 0 1073741824 k (by omega) (by omega) (by omega) (by omega) (by decide) (by omega)
theorem squareRoot_ev (n : Int) (h0 : 0 ≤ n) (hn : n < 4611686018427387904) : Ev (fun k => impl_squareRoot.f k n) (isq n, isq n * isq n == n) := ⟨32, fun k hk => squareRoot n h0 hn k (by omega)⟩


theorem sumDraw_ev' {b : List Int} (hb : BytesB b) (p0 : Int) (hp0 : 0 ≤ p0) (hp1 : p0 ≤ 1000) : ∃ n p, (n = -1 ∨ n = 2000 ∨ n = 2001 ∨ 0 ≤ n ∧ n ≤ 494) ∧ Ev (fun k => spec_l92Sum.f k b p0) (n, p) := by
  obtain ⟨v1, h1, g1, e1⟩ := pick_ev hb (p := p0) (by omega) (by omega) (n := 20) (by omega)
  by_cases c : v1 = 0
  · obtain ⟨v2, h2, g2, e2⟩ := pick_ev hb (p := p0 + 1) (by omega) (by omega) (n := 4) (by omega)
    refine ⟨rd [(-1), 0, 2000, 2001] v2, p0 + 1 + 1, ?_, ?_⟩
    · have : v2 = 0 ∨ v2 = 1 ∨ v2 = 2 ∨ v2 = 3 := by omega
      rcases this with rfl | rfl | rfl | rfl <;> simp [rd]
    · simp only [spec_l92Sum.f]
      refine e1.bind ?_
      simp only [if_pos c, Option.bind_some]
      refine e2.bind ?_
      simp only [if_pos h2, if_pos (show v2 < ((List.length [(-1 : Int), 0, 2000, 2001] : Nat) : Int) from by simp; omega)]
      exact Ev.now _
  · obtain ⟨v2, h2, g2, e2⟩ := pick_ev hb (p := p0 + 1) (by omega) (by omega) (n := 100) (by omega)
    obtain ⟨v3, h3, g3, e3⟩ := pick_ev hb (p := p0 + 1 + 1) (by omega) (by omega) (n := 6) (by omega)
    obtain ⟨v4, h4, g4, e4⟩ := pick_ev hb (p := p0 + 1 + 1 + 1) (by omega) (by omega) (n := 80) (by omega)
    have hm := Int.mul_nonneg h3 h4
    have hM := mul_le2 h3 (show v3 ≤ 5 by omega) h4 (show v4 ≤ 79 by omega)
    refine ⟨v2 + v3 * v4, p0 + 1 + 1 + 1 + 1, .inr (.inr (.inr ⟨by omega, by omega⟩)), ?_⟩
    simp only [spec_l92Sum.f]
    refine e1.bind ?_
    simp only [if_neg c]
    refine e2.bind (e3.bind (e4.bind ?_))
    simp only [w64 (x := v3 * v4) (by omega) (by omega), w64 (x := v2 + v3 * v4) (by omega) (by omega)]
    exact Ev.now _
theorem sumDraw_ev {b : List Int} (hb : BytesB b) : ∃ n p, (n = -1 ∨ n = 2000 ∨ n = 2001 ∨ 0 ≤ n ∧ n ≤ 494) ∧ Ev (fun k => spec_l92Sum.f k b 0) (n, p) := sumDraw_ev' hb 0 (by omega) (by omega)


/-! ### ThreeIs -/
theorem threeN_succ (d n : Nat) : threeN (d + 1) n = if n ≠ 0 ∧ n % 4 = 0 then threeN d (n / 4) else !Nat.beq (n % 8) 7 := by
  have e : threeN (d + 1) n = bif and (!Nat.beq n 0) (Nat.beq (n % 4) 0) then threeN d (n / 4) else !Nat.beq (n % 8) 7 := rfl
  rw [e, beq_iff, beq_iff]
  by_cases c : n = 0 <;> by_cases c2 : n % 4 = 0 <;> simp [c, c2]
theorem implThreeIs_l : ∀ (d n : Nat), n < 4 ^ d → n ≤ 1000000 → Ev (fun k => impl_ThreeIs.l0 k (n : Int)) (threeN d n) := by
  intro d
  induction d with
  | zero =>
    intro n h _
    obtain rfl : n = 0 := by simpa using h
    refine Ev.step (f := fun _ => some true) (fun k => ?_) (Ev.now _)
    simp [impl_ThreeIs.l0]
  | succ d ih =>
    intro n h hM
    rw [threeN_succ]
    have e4 : Int.tmod (n : Int) 4 = ((n % 4 : Nat) : Int) := (Int.ofNat_tmod n 4).symm
    have e8 : Int.tmod (n : Int) 8 = ((n % 8 : Nat) : Int) := (Int.ofNat_tmod n 8).symm
    by_cases c : n ≠ 0 ∧ n % 4 = 0
    · rw [if_pos c]
      have := ih (n / 4) (by rw [Nat.pow_succ] at h; omega) (by omega)
      refine Ev.step (fun k => ?_) this
      simp only [impl_ThreeIs.l0]
      rw [if_pos (by omega), e4, if_pos (by omega), Int.tdiv_eq_ediv_of_nonneg (by omega), w64 (x := (n : Int) / 4) (by omega) (by omega)]
      rfl
    · rw [if_neg c]
      refine Ev.step (f := fun _ => some (!Nat.beq (n % 8) 7)) (fun k => ?_) (Ev.now _)
      have e : ((((n % 8 : Nat) : Int)) != 7) = !Nat.beq (n % 8) 7 := by
        rw [beq_iff, Bool.eq_iff_iff]; simp; omega
      simp only [impl_ThreeIs.l0]
      rw [e4, e8, e]
      by_cases c1 : (n : Int) > 0
      · rw [if_pos c1, if_neg (by omega)]
      · rw [if_neg c1]
theorem implThreeIs_ev (n : Int) : Ev (fun k => impl_ThreeIs.f k n) (if 0 ≤ n ∧ n ≤ 2000 then threeN 6 n.toNat else false) := by
  unfold impl_ThreeIs.f
  by_cases h : 0 ≤ n ∧ n ≤ 2000
  · simp only [if_neg (show ¬ n < 0 by omega), decide_eq_false (show ¬ n > 2000 by omega), if_pos h]
    refine Ev.step (f := fun k => impl_ThreeIs.l0 k n) (fun k => by simp [impl_ThreeIs.j0]) ?_
    have := implThreeIs_l 6 n.toNat (by omega) (by omega)
    rw [show ((n.toNat : Nat) : Int) = n from by omega] at this
    exact this
  · rw [if_neg h]
    refine Ev.step (f := fun _ => some false) (fun k => ?_) (Ev.now _)
    by_cases h0 : n < 0
    · simp [impl_ThreeIs.j0, h0]
    · simp [impl_ThreeIs.j0, h0, show n > 2000 by omega]


/-! ### split -/
theorem split_l {p : Int} (hp : 2 ≤ p) : ∀ (d : Nat) (n j : Int), n ≠ 0 → n.natAbs < 2 ^ d → d ≤ 63 → 0 ≤ j → j + d ≤ 1000 →
    ∀ k, d < k → impl_split.l0 k n p j = some (j + (spl p d n).1, (spl p d n).2) := by
  intro d
  induction d with
  | zero => intro n j hn h; simp at h; omega
  | succ d ih =>
    intro n j hn h hd hj hJ k hk
    obtain ⟨k, rfl⟩ : ∃ m, k = m + 1 := ⟨k - 1, by omega⟩
    simp only [impl_split.l0]
    rw [if_neg (by omega)]
    by_cases c : n.tmod p = 0
    · obtain ⟨h0, h1, h2, h3, _⟩ := tdiv_abs hp hn c
      have hlt : n.natAbs < 2 ^ 63 := Nat.lt_of_lt_of_le h (Nat.pow_le_pow_right (by omega) hd)
      rw [if_pos c, w64 (x := n.tdiv p) (by omega) (by omega), spl_dvd d c, w64 (x := j + 1) (by omega) (by omega),
        ih (n.tdiv p) (j + 1) h0 (by rw [Nat.pow_succ] at h; omega) (by omega) (by omega) (by omega) k (by omega)]
      simp only [Option.some.injEq, Prod.mk.injEq, and_true]; omega
    · rw [if_neg c, spl_not d c]
      simp
theorem split_at {n p : Int} (hp : 2 ≤ p) (hn : n ≠ 0) (h : n.natAbs < 2 ^ 63) (k : Nat) (hk : 63 < k) : impl_split.f k n p = some (val p n, unit p n) := by
  unfold impl_split.f val unit
  rw [split_l hp 63 n 0 hn h (by omega) (by omega) (by omega) k hk, ← spl_more hp 63 n hn h]
  simp
theorem split_ev {n p : Int} (hp : 2 ≤ p) (hn : n ≠ 0) (h : n.natAbs < 2 ^ 63) : Ev (fun k => impl_split.f k n p) (val p n, unit p n) := ⟨64, fun k hk => split_at hp hn h k (by omega)⟩


/-! ### valuations -/

/-! ### primes -/
theorem primesOf_l : ∀ (d : Nat) (n p : Int) (out : List Int), 0 < n → n ≤ 1000000000000 → 2 ≤ p → p ≤ 1000002 → n + 2 - p ≤ d → 1 ≤ d → out.length + d ≤ 17000000000000 →
    ∀ k, d + 64 < k → impl_primesOf.l0 k n out p = some (out ++ pl d n p) := by
  intro d
  induction d with
  | zero => intro n p out hn hN hp hP hd h1; omega
  | succ d ih =>
    intro n p out hn hN hp hP hd h1 hl k hk
    obtain ⟨k, rfl⟩ : ∃ m, k = m + 1 := ⟨k - 1, by omega⟩
    simp only [impl_primesOf.l0, pl]
    rw [wmul (a := p) (b := p) (by omega) (by omega) (by omega) (by omega)]
    by_cases c : p * p ≤ n
    · have hpn : 2 * p ≤ n := by have := Int.mul_le_mul_of_nonneg_right hp (show 0 ≤ p by omega); omega
      have hp6 : p ≤ 1000000 := le_of_sq (by omega) (by omega)
      rw [if_pos c, if_neg (by omega), if_pos c, w64 (x := p + 1) (by omega) (by omega)]
      by_cases c2 : n.tmod p = 0
      · have hv := val_spec hp (show n ≠ 0 by omega) (by omega)
        rw [if_pos c2, if_pos (by omega), split_at hp (by omega) (by omega) k (by omega), if_pos c2]
        simp only [Option.bind_some]
        rw [ih (unit p n) (p + 1) (out ++ [p]) (hv.2.2.2.2.2.2 hn) (by omega) (by omega) (by omega) (by omega) (by omega) (by simp; omega) k (by omega)]
        simp
      · rw [if_neg c2, if_neg c2]
        exact ih n (p + 1) out hn hN (by omega) (by omega) (by omega) (by omega) (by omega) k (by omega)
    · rw [if_neg c, if_neg c]
      by_cases c2 : n > 1
      · rw [if_pos c2, if_pos c2, if_pos (by omega)]
      · rw [if_neg c2, if_neg c2]; simp
theorem primesOf_ev {n : Int} (hn : n ≠ 0) (h : n.natAbs ≤ 1000000000000) : Ev (fun k => impl_primesOf.f k n) (primes n) := by
  refine ⟨n.natAbs + 67, fun k hk => ?_⟩
  simp only [impl_primesOf.f, impl_size.f, Option.bind_some]
  rw [size_ev (by omega) (by omega), primesOf_l (n.natAbs + 2) (absI n) 2 [] (by unfold absI; omega) (by unfold absI; omega) (by omega) (by omega) (by unfold absI; omega) (by omega) (by simp; omega) k (by omega)]
  rfl


/-! ### residues, squares and symbols at a place -/
theorem implRest_eq {a m : Int} (h : 0 < m) (hm : m ≤ 1000) (ha : a.natAbs < 2 ^ 63) : impl_rest.f a m = some (a % m) := by
  unfold impl_rest.f
  have h1 := Int.tmod_lt_of_pos a h
  have h2 : -m < Int.tmod a m := by
    have := Int.tmod_lt_of_pos (-a) h; rw [Int.neg_tmod] at this; omega
  rw [if_neg (by omega), w64 (by omega) (by omega), rest_eq a h]
theorem implResidue_l {p r : Int} (hp : 3 ≤ p) (hP : p ≤ 1000) : ∀ (d : Nat) (x : Int), 1 ≤ x → p.tdiv 2 + 2 ≤ x + d → x ≤ 1001 →
    Ev (fun k => impl_residue.l0 k p r x) (resS p r d x) := by
  have e2 : p.tdiv 2 = p / 2 := tdiv2 (by omega)
  intro d
  induction d with
  | zero =>
    intro x h1 h2 h3
    refine Ev.step (f := fun _ => some (-1)) (fun k => ?_) (Ev.now _)
    simp only [impl_residue.l0]
    rw [w64 (x := p.tdiv 2) (by omega) (by omega), if_neg (by omega)]
  | succ d ih =>
    intro x h1 h2 h3
    by_cases c : x ≤ p.tdiv 2
    · have hxx := wmul (a := x) (b := x) (by omega) (by omega) (by omega) (by omega)
      by_cases c2 : (x * x).tmod p = r
      · refine Ev.step (f := fun _ => some 1) (fun k => ?_) (by simp only [resS, if_pos c, if_pos c2]; exact Ev.now _)
        simp only [impl_residue.l0]
        rw [w64 (x := p.tdiv 2) (by omega) (by omega), if_pos c, if_neg (by omega), hxx, if_pos c2]
      · refine Ev.step (fun k => ?_) (by simp only [resS, if_pos c, if_neg c2]; exact ih (x + 1) (by omega) (by omega) (by omega))
        simp only [impl_residue.l0]
        rw [w64 (x := p.tdiv 2) (by omega) (by omega), if_pos c, if_neg (by omega), hxx, if_neg c2, w64 (x := x + 1) (by omega) (by omega)]
    · refine Ev.step (f := fun _ => some (-1)) (fun k => ?_) (by simp only [resS, if_neg c]; exact Ev.now _)
      simp only [impl_residue.l0]
      rw [w64 (x := p.tdiv 2) (by omega) (by omega), if_neg c]
theorem implResidue_ev {p u : Int} (h : p ∈ P6) (hu : u.natAbs < 2 ^ 63) : Ev (fun k => impl_residue.f k u p) (res p u) := by
  have hp := P6_bd h
  unfold impl_residue.f
  simp only [implRest_eq (show 0 < p by omega) (by omega) hu, Option.bind_some]
  unfold res resR
  by_cases c : u % p = 0
  · simp only [if_pos c]; exact Ev.now _
  · simp only [if_neg c]
    exact implResidue_l (by omega) (by omega) _ 1 (by omega) (by rw [tdiv2 (by omega)]; omega) (by omega)
theorem P8_of6 {p : Int} (h : p ∈ P6) : p ∈ (2 :: P6) := List.mem_cons_of_mem _ h
theorem implSq_ev {n p : Int} (h : p ∈ P8) (hn : n ≠ 0) (hN : n.natAbs < 2 ^ 63) : Ev (fun k => impl_localSquare.f k n p) (sqAt n p) := by
  unfold impl_localSquare.f
  rcases List.mem_cons.1 h with rfl | h
  · simp only [if_true, code_zero hn]; exact Ev.now _
  · have hp := P7_bd h
    obtain ⟨_, v2, v3, v4, v5, v6, _⟩ := val_spec hp hn hN
    simp only [if_neg (show ¬ p = 0 by omega)]
    refine (split_ev hp hn hN).bind ?_
    simp only
    have hpar := par_cases (val p n)
    have hm : (val p n).tmod 2 = val p n % 2 := Int.tmod_eq_emod_of_nonneg v3
    by_cases c : (val p n).tmod 2 = 0
    · simp only [if_pos c]
      rcases List.mem_cons.1 h with rfl | h6
      · simp only [if_true, implRest_eq (a := unit 2 n) (m := 8) (by omega) (by omega) (by omega), Option.bind_some]
        have := unit2 hn hN
        have e : sqAt n 2 = (unit 2 n % 8 == 1) := by
          unfold sqAt code
          simp only [show ¬ (2 : Int) = 0 from by omega, if_false, if_true, show par (val 2 n) = 0 from by omega]
          rcases this with h | h | h | h <;> rw [h] <;> rfl
        rw [e]; exact Ev.now _
      · have h2 := P6_bd h6
        simp only [if_neg (show ¬ p = 2 by omega)]
        refine (implResidue_ev h6 (by omega)).bind ?_
        have e : sqAt n p = (res p (unit p n) == 1) := by
          unfold sqAt code
          simp only [if_neg (show ¬ p = 0 by omega), if_neg (show ¬ p = 2 by omega), show par (val p n) = 0 from by omega]
          by_cases c : res p (unit p n) = 1
          · simp [c]
          · simp [c]
        rw [e]; exact Ev.now _
    · simp only [if_neg c]
      have e : sqAt n p = false := by
        unfold sqAt code
        simp only [if_neg (show ¬ p = 0 by omega), show par (val p n) = 1 from by omega]
        split
        · rename_i h2; subst h2; rw [show par (val 2 n) = 1 from by omega]; simp
        · simp
      rw [e]; exact Ev.now _

/-! ### symbols -/
theorem power_ev {t e : Int} (he : e = 0 ∨ e = 1) (ht : t = 1 ∨ t = -1) : Ev (fun k => impl_power.f k t e) (if e = 1 then t else 1) := by
  refine ⟨2, fun k hk => ?_⟩
  obtain ⟨m, rfl⟩ : ∃ m, k = m + 2 := ⟨k - 2, by omega⟩
  rcases he with rfl | rfl <;> rcases ht with rfl | rfl <;> simp [impl_power.f, impl_power.l0, wrap64]
theorem symOdd {p a b : Int} (h : p ∈ P6) (ha : a ≠ 0) (hb : b ≠ 0) (hA : a.natAbs < 2 ^ 63) (hB : b.natAbs < 2 ^ 63) :
    sym a b p = (if (val p a * val p b) % 2 = 1 ∧ p % 4 = 3 then -1 else 1) * (if val p b % 2 = 1 then res p (unit p a) else 1) * (if val p a % 2 = 1 then res p (unit p b) else 1) := by
  have hp := P6_bd h
  obtain ⟨_, a2, a3, _⟩ := val_spec (p := p) (by omega) ha hA
  obtain ⟨_, b2, b3, _⟩ := val_spec (p := p) (by omega) hb hB
  have ra := res_pm h (tmod_ne a2)
  have rb := res_pm h (tmod_ne b2)
  have pa := par_cases (val p a)
  have pb := par_cases (val p b)
  unfold sym symC code
  simp only [if_neg (show ¬ p = 0 by omega), if_neg (show ¬ p = 2 by omega), Int.mul_emod (val p a) (val p b) 2]
  rcases ra with r | r <;> rcases rb with s | s <;> rcases pa with ⟨q, q'⟩ | ⟨q, q'⟩ <;> rcases pb with ⟨t, t'⟩ | ⟨t, t'⟩ <;> rw [r, s, q, q', t, t'] <;> simp
theorem half_odd {p m : Int} (h : p ∈ P6) (hm : 0 ≤ m) : ((m * (p - 1)).tdiv 2).tmod 2 = (if m % 2 = 1 ∧ p % 4 = 3 then 1 else 0) ∧ (m * ((p - 1).tdiv 2)).tmod 2 = (if m % 2 = 1 ∧ p % 4 = 3 then 1 else 0) := by
  have hp := P6_bd h
  have h0 : 0 ≤ m * (p - 1) := Int.mul_nonneg hm (by omega)
  have h1 : 0 ≤ m * ((p - 1).tdiv 2) := Int.mul_nonneg hm (by rw [tdiv2 (by omega)]; omega)
  rw [Int.tmod_eq_emod_of_nonneg (a := m * ((p - 1).tdiv 2)) h1, Int.tmod_eq_emod_of_nonneg (by rw [tdiv2 h0]; omega), tdiv2 h0]
  rcases hp.2.2 with rfl | rfl | rfl | rfl | rfl | rfl
  all_goals
    simp only [Int.reduceSub, Int.reduceTDiv, Int.reduceMod, and_true, Int.reduceEq, and_false, if_false]
    try split
    all_goals omega
theorem two8 {x : Int} (h : x = 1 ∨ x = 3 ∨ x = 5 ∨ x = 7) : wrap64 (Int.tdiv (wrap64 (x - 1)) 2) = (x - 1) / 2 ∧ wrap64 (wrap64 (x * x) - 1) = 8 * ((x * x - 1) / 8) ∧ 0 ≤ (x - 1) / 2 ∧ (x - 1) / 2 ≤ 3 ∧ 0 ≤ (x * x - 1) / 8 ∧ (x * x - 1) / 8 ≤ 6 := by
  rcases h with rfl | rfl | rfl | rfl <;> decide +kernel
theorem two16 {u : Int} (h : u % 8 = 1 ∨ u % 8 = 3 ∨ u % 8 = 5 ∨ u % 8 = 7) : ∃ X1 X2, wrap64 (Int.tdiv (wrap64 (u % 16 - 1)) 2) = X1 ∧ wrap64 (Int.tdiv (wrap64 (wrap64 (u % 16 * (u % 16)) - 1)) 8) = X2 ∧
    0 ≤ X1 ∧ X1 ≤ 7 ∧ 0 ≤ X2 ∧ X2 ≤ 28 ∧ X1 % 2 = (u % 8 - 1) / 2 % 2 ∧ X2 % 2 = (u % 8 * (u % 8) - 1) / 8 % 2 := by
  have h2 : u % 16 = u % 8 ∨ u % 16 = u % 8 + 8 := by omega
  rcases h with h | h | h | h <;> rcases h2 with h2 | h2 <;> rw [h2, h] <;> exact ⟨_, _, rfl, rfl, by decide +kernel⟩
theorem par3 (X1 Y1 X2 Y2 i j : Int) : (X1 * Y1 + i * Y2 + j * X2) % 2 = ((X1 % 2) * (Y1 % 2) + i * (Y2 % 2) + j * (X2 % 2)) % 2 := by
  have h1 : (X1 * Y1) % 2 = ((X1 % 2) * (Y1 % 2)) % 2 := Int.mul_emod _ _ _
  have h2 : (i * Y2) % 2 = (i * (Y2 % 2)) % 2 := by rw [Int.mul_emod, Int.mul_emod i (Y2 % 2)]; simp
  have h3 : (j * X2) % 2 = (j * (X2 % 2)) % 2 := by rw [Int.mul_emod, Int.mul_emod j (X2 % 2)]; simp
  omega
theorem symTwo {a b : Int} (ha : a ≠ 0) (hb : b ≠ 0) (hA : a.natAbs < 2 ^ 63) (hB : b.natAbs < 2 ^ 63) :
    sym a b 2 = (if ((unit 2 a % 8 - 1) / 2 * ((unit 2 b % 8 - 1) / 2) + val 2 a * ((unit 2 b % 8 * (unit 2 b % 8) - 1) / 8) + val 2 b * ((unit 2 a % 8 * (unit 2 a % 8) - 1) / 8)) % 2 = 1 then -1 else 1) := by
  have ua := unit2 ha hA
  have ub := unit2 hb hB
  have pa := par_cases (val 2 a)
  have pb := par_cases (val 2 b)
  unfold sym code
  simp only [show ¬ (2 : Int) = 0 from by omega, if_false, if_true]
  rcases ua with h | h | h | h <;> rcases ub with h' | h' | h' | h' <;> rw [h, h'] <;>
    rcases pa with ⟨q, q'⟩ | ⟨q, q'⟩ <;> rcases pb with ⟨t, t'⟩ | ⟨t, t'⟩ <;> rw [q, t] <;>
    first
    | (rw [if_pos (by omega)]; decide)
    | (rw [if_neg (by omega)]; decide)
theorem implSymbol_ev {p a b : Int} (h : p ∈ P8) (ha : a ≠ 0) (hb : b ≠ 0) (hA : a.natAbs < 2 ^ 63) (hB : b.natAbs < 2 ^ 63) : Ev (fun k => impl_symbol.f k a b p) (sym a b p) := by
  unfold impl_symbol.f
  rcases List.mem_cons.1 h with rfl | h
  · simp only [if_true]
    unfold sym symC code
    by_cases c1 : a < 0
    · by_cases c2 : b < 0
      · simp only [if_pos c1, if_pos c2]; exact Ev.now _
      · simp only [if_pos c1, if_neg c2]; exact Ev.now _
    · simp only [if_neg c1]
      by_cases c2 : b < 0
      · simp only [if_pos c2]; exact Ev.now _
      · simp only [if_neg c2]; exact Ev.now _
  · have hp := P7_bd h
    obtain ⟨_, a2, a3, a4, a5, a6, _⟩ := val_spec hp ha hA
    obtain ⟨_, b2, b3, b4, b5, b6, _⟩ := val_spec hp hb hB
    simp only [if_neg (show ¬ p = 0 by omega)]
    refine (split_ev hp ha hA).bind ((split_ev hp hb hB).bind ?_)
    simp only
    rcases List.mem_cons.1 h with rfl | h6
    · simp only [if_true, implRest_eq (a := unit 2 a) (m := 8) (by omega) (by omega) (by omega), implRest_eq (a := unit 2 b) (m := 8) (by omega) (by omega) (by omega), Option.bind_some]
      have ta := two8 (unit2 ha hA)
      have tb := two8 (unit2 hb hB)
      rw [symTwo ha hb hA hB]
      generalize unit 2 a % 8 = x at ta
      generalize unit 2 b % 8 = y at tb
      generalize val 2 a = i at a3 a4
      generalize val 2 b = j at b3 b4
      simp only [ta.1, tb.1, ta.2.1, tb.2.1]
      obtain ⟨_, _, x1, x2, x3, x4⟩ := ta
      obtain ⟨_, _, y1, y2, y3, y4⟩ := tb
      generalize (x - 1) / 2 = X1 at x1 x2
      generalize (y - 1) / 2 = Y1 at y1 y2
      generalize (x * x - 1) / 8 = X2 at x3 x4
      generalize (y * y - 1) / 8 = Y2 at y3 y4
      have m0 := Int.mul_nonneg x1 y1
      have M0 := mul_le2 x1 x2 y1 y2
      have m1 := Int.mul_nonneg a3 y3
      have M1 := mul_le2 a3 (show i ≤ 63 by omega) y3 y4
      have m2 := Int.mul_nonneg b3 x3
      have M2 := mul_le2 b3 (show j ≤ 63 by omega) x3 x4
      have d1 : i * (8 * Y2) = 8 * (i * Y2) := by rw [Int.mul_left_comm]
      have d2 : j * (8 * X2) = 8 * (j * X2) := by rw [Int.mul_left_comm]
      rw [d1, d2]
      generalize X1 * Y1 = A at m0 M0
      generalize i * Y2 = B at m1 M1
      generalize j * X2 = C at m2 M2
      have e1 : (8 * B).tdiv 8 = B := Int.mul_tdiv_cancel_left _ (by omega)
      have e2 : (8 * C).tdiv 8 = C := Int.mul_tdiv_cancel_left _ (by omega)
      simp only [w64 (x := A) (by omega) (by omega), w64 (x := 8 * B) (by omega) (by omega), w64 (x := 8 * C) (by omega) (by omega), e1, e2, w64 (x := B) (by omega) (by omega), w64 (x := C) (by omega) (by omega),
        w64 (x := A + B) (by omega) (by omega), w64 (x := A + B + C) (by omega) (by omega), Int.tmod_eq_emod_of_nonneg (show 0 ≤ A + B + C by omega)]
      refine (power_ev (t := -1) (e := (A + B + C) % 2) (by omega) (by omega)).bind ?_
      exact Ev.now _
    · have h2 := P6_bd h6
      simp only [if_neg (show ¬ p = 2 by omega)]
      have ra := res_pm h6 (tmod_ne a2)
      have rb := res_pm h6 (tmod_ne b2)
      have ea := implResidue_ev h6 (u := unit p a) (by omega)
      have eb := implResidue_ev h6 (u := unit p b) (by omega)
      rw [symOdd h6 ha hb hA hB]
      generalize res p (unit p a) = r at ra ea
      generalize res p (unit p b) = s at rb eb
      have m1 := Int.mul_nonneg a3 b3
      have M1 := mul_le2 a3 (show val p a ≤ 63 by omega) b3 (show val p b ≤ 63 by omega)
      have m2 := Int.mul_nonneg m1 (show 0 ≤ p - 1 by omega)
      have M2 := mul_le2 m1 (show val p a * val p b ≤ 4000 by omega) (show 0 ≤ p - 1 by omega) (show p - 1 ≤ 96 by omega)
      have hh := (half_odd h6 m1).1
      have e1 : (val p b).tmod 2 = val p b % 2 := Int.tmod_eq_emod_of_nonneg b3
      have e2 : (val p a).tmod 2 = val p a % 2 := Int.tmod_eq_emod_of_nonneg a3
      have ht := tdiv2 m2
      simp only [w64 (x := val p a * val p b) (by omega) (by omega), w64 (x := p - 1) (by omega) (by omega), w64 (x := val p a * val p b * (p - 1)) (by omega) (by omega), w64 (x := (val p a * val p b * (p - 1)).tdiv 2) (by omega) (by omega), hh, e1, e2]
      refine (power_ev (t := -1) (by split <;> simp) (by omega)).bind (ea.bind ((power_ev (t := r) (e := val p b % 2) (by omega) (by omega)).bind (eb.bind ((power_ev (t := s) (e := val p a % 2) (by omega) (by omega)).bind ?_))))
      have w1 : ∀ x : Int, x = 1 ∨ x = -1 → wrap64 x = x := fun x hx => w64 (by omega) (by omega)
      have f1 : ∀ c : Prop, ∀ _ : Decidable c, (if (if c then (1 : Int) else 0) = 1 then (-1 : Int) else 1) = if c then -1 else 1 := by intro c _; split <;> simp
      rw [f1]
      generalize hX : (if (val p a * val p b) % 2 = 1 ∧ p % 4 = 3 then (-1 : Int) else 1) = X
      generalize hY : (if val p b % 2 = 1 then r else 1) = Y
      generalize hZ : (if val p a % 2 = 1 then s else 1) = Z
      have gX : X = 1 ∨ X = -1 := by rw [← hX]; split <;> simp
      have gY : Y = 1 ∨ Y = -1 := by rw [← hY]; split <;> omega
      have gZ : Z = 1 ∨ Z = -1 := by rw [← hZ]; split <;> omega
      have e3 : wrap64 (wrap64 (X * Y) * Z) = X * Y * Z := by rcases gX with rfl | rfl <;> rcases gY with rfl | rfl <;> rcases gZ with rfl | rfl <;> decide +kernel
      rw [e3]; exact Ev.now _

/-! ### forms -/
theorem implFormValid_l (xs : List Int) (hx : ∀ x ∈ xs, x.natAbs ≤ 1000000) (hl : xs.length ≤ 100) : ∀ (d j : Nat), j + d = xs.length →
    Ev (fun k => impl_FormValid.l0 k xs xs (xs.length : Int) j) ((xs.drop j).all (fun x => decide (x ≠ 0) && decide (x.natAbs ≤ 30)) && (decide (1 ≤ xs.length) && decide (xs.length ≤ 4))) := by
  intro d
  induction d with
  | zero =>
    intro j hj
    rw [List.drop_of_length_le (by omega)]
    refine Ev.step (f := fun _ => some (decide (1 ≤ xs.length) && decide (xs.length ≤ 4))) (fun k => ?_) (by simpa using Ev.now _)
    simp only [impl_FormValid.l0]
    rw [if_neg (by omega)]
    by_cases c : 1 ≤ xs.length
    · rw [if_pos (by omega), decide_eq_true c, Bool.true_and]; congr 1; exact decide_eq_decide.2 (by omega)
    · rw [if_neg (by omega), decide_eq_false c, Bool.false_and]
  | succ d ih =>
    intro j hj
    have hm := hx _ (rd_mem (xs := xs) (j := j) (by omega))
    rw [rd_drop (show j < xs.length by omega)]
    have := ih (j + 1) (by omega)
    generalize hp : rd xs (j : Int) = p at hm
    rw [List.all_cons]
    by_cases c0 : p = 0
    · rw [decide_eq_false (by omega : ¬ p ≠ 0), Bool.false_and, Bool.false_and, Bool.false_and]
      refine Ev.step (f := fun _ => some false) (fun k => ?_) (Ev.now _)
      simp only [impl_FormValid.l0]
      rw [if_pos (by omega), if_pos (by omega), if_pos (by omega), hp, if_pos c0]
    · have hs : impl_size.f p = some (absI p) := by simp only [impl_size.f]; rw [size_ev (by omega) (by omega)]
      by_cases c : p.natAbs ≤ 30
      · rw [decide_eq_true c0, decide_eq_true c, Bool.true_and, Bool.true_and]
        refine Ev.step (fun k => ?_) this
        simp only [impl_FormValid.l0]
        rw [if_pos (by omega), if_pos (by omega), if_pos (by omega), hp, if_neg c0, hs, Option.bind_some, if_neg (by unfold absI; omega), w64 (x := (j : Int) + 1) (by omega) (by omega)]
        rfl
      · rw [decide_eq_false c, Bool.and_false, Bool.false_and, Bool.false_and]
        refine Ev.step (f := fun _ => some false) (fun k => ?_) (Ev.now _)
        simp only [impl_FormValid.l0]
        rw [if_pos (by omega), if_pos (by omega), if_pos (by omega), hp, if_neg c0, hs, Option.bind_some, if_pos (by unfold absI; omega)]
theorem implFormValid_ev {xs : List Int} (hx : ∀ x ∈ xs, x.natAbs ≤ 1000000) (hl : xs.length ≤ 100) : Ev (fun k => impl_FormValid.f k xs) (formOk xs) :=
  implFormValid_l xs hx hl xs.length 0 (by omega)
theorem specIn_eq (x a b : Int) : spec_l6In.f x a b = some (decide (a ≤ x) && decide (x ≤ b)) := by
  unfold spec_l6In.f
  by_cases c : x ≥ a
  · simp [c, show a ≤ x from c]
  · simp [c, show ¬ a ≤ x from c]
theorem pow30 {j : Nat} (h : j ≤ 5) : 30 ^ j ≤ 24300000 := by
  have : 30 ^ j ≤ 30 ^ 5 := Nat.pow_le_pow_right (by omega) h
  omega
theorem implProduct_l (xs : List Int) (hx : ∀ x ∈ xs, Sm x) (hl : xs.length ≤ 5) : ∀ (d j : Nat) (acc : Int), j + d = xs.length → acc.natAbs ≤ 30 ^ j →
    Ev (fun k => impl_product.l0 k acc xs (xs.length : Int) j) (prodF (xs.drop j) acc) := by
  intro d
  induction d with
  | zero =>
    intro j acc hj hA
    rw [List.drop_of_length_le (by omega)]
    refine Ev.step (f := fun _ => some acc) (fun k => ?_) (Ev.now _)
    simp only [impl_product.l0]
    rw [if_neg (by omega)]
  | succ d ih =>
    intro j acc hj hA
    have hm := hx _ (rd_mem (xs := xs) (j := j) (by omega))
    rw [rd_drop (show j < xs.length by omega)]
    have h2 : (acc * rd xs j).natAbs ≤ 30 ^ (j + 1) := by rw [Int.natAbs_mul, Nat.pow_succ]; exact Nat.mul_le_mul hA hm.2
    have h3 := pow30 (show j + 1 ≤ 5 by omega)
    refine Ev.step (fun k => ?_) (ih (j + 1) (acc * rd xs j) (by omega) h2)
    simp only [impl_product.l0]
    rw [if_pos (by omega), if_pos (by omega), if_pos (by omega), w64 (x := acc * rd xs j) (by omega) (by omega), w64 (x := (j : Int) + 1) (by omega) (by omega)]
    rfl
theorem implProduct_ev {xs : List Int} (hx : ∀ x ∈ xs, Sm x) (hl : xs.length ≤ 5) : Ev (fun k => impl_product.f k xs) (prod xs) :=
  implProduct_l xs hx hl xs.length 0 1 (by omega) (by simp)
theorem implLess_l (xs : List Int) (hl : xs.length ≤ 100) : ∀ (d j : Nat) (acc : Int), j + d = xs.length → 0 ≤ acc → acc ≤ j →
    Ev (fun k => impl_lessTerms.l0 k acc xs (xs.length : Int) j) (lessF (xs.drop j) acc) := by
  intro d
  induction d with
  | zero =>
    intro j acc hj h0 hA
    rw [List.drop_of_length_le (by omega)]
    refine Ev.step (f := fun _ => some acc) (fun k => ?_) (Ev.now _)
    simp only [impl_lessTerms.l0]
    rw [if_neg (by omega)]
  | succ d ih =>
    intro j acc hj h0 hA
    rw [rd_drop (show j < xs.length by omega)]
    simp only [lessF]
    by_cases c : rd xs j < 0
    · simp only [if_pos c]
      refine Ev.step (fun k => ?_) (ih (j + 1) (acc + 1) (by omega) (by omega) (by omega))
      simp only [impl_lessTerms.l0]
      rw [if_pos (by omega), if_pos (by omega), if_pos (by omega), if_pos c, w64 (x := acc + 1) (by omega) (by omega), w64 (x := (j : Int) + 1) (by omega) (by omega)]
      rfl
    · simp only [if_neg c]
      refine Ev.step (fun k => ?_) (ih (j + 1) acc (by omega) (by omega) (by omega))
      simp only [impl_lessTerms.l0]
      rw [if_pos (by omega), if_pos (by omega), if_pos (by omega), if_neg c, w64 (x := (j : Int) + 1) (by omega) (by omega)]
      rfl
theorem implLess_ev {xs : List Int} (hl : xs.length ≤ 100) : Ev (fun k => impl_lessTerms.f k xs) (less xs) := implLess_l xs hl xs.length 0 0 (by omega) (by omega) (by omega)
theorem rd_take {xs : List Int} {i j : Nat} (h : j < i) : rd (xs.take i) (j : Int) = rd xs (j : Int) := by
  simp [rd, List.getElem?_take, h]
theorem implInn_l {p : Int} (hp : p ∈ P8) (xs : List Int) (hx : ∀ x ∈ xs, Sm x) (hl : xs.length ≤ 5) (i : Nat) (hi : i < xs.length) (v : Int) : ∀ (d j : Nat) (acc : Int), j + d = i → (acc = 1 ∨ acc = -1) →
    Ev (fun k => impl_invariant.l0 k xs p (inn p (rd xs i) ((xs.take i).drop j) acc) xs (xs.length : Int) ((i + 1 : Nat) : Int)) v →
    Ev (fun k => impl_invariant.l1 k xs p acc (rd xs i) xs (xs.length : Int) i (xs.take ((i : Nat) : Int).toNat) ((xs.take ((i : Nat) : Int).toNat).length : Int) j) v := by
  have hlen : (xs.take ((i : Nat) : Int).toNat).length = i := by simp; omega
  intro d
  induction d with
  | zero =>
    intro j acc hj hA hv
    rw [List.drop_of_length_le (by simp; omega)] at hv
    refine Ev.step (fun k => ?_) hv
    simp only [impl_invariant.l1]
    rw [if_neg (by omega), w64 (x := (i : Int) + 1) (by omega) (by omega)]
    rfl
  | succ d ih =>
    intro j acc hj hA hv
    rw [rd_drop (show j < (xs.take i).length by simp; omega), rd_take (by omega)] at hv
    have hm := hx _ (rd_mem (xs := xs) (j := j) (by omega))
    have hm2 := hx _ (rd_mem (xs := xs) (j := i) (by omega))
    have hs := implSymbol_ev hp hm2.1 hm.1 (by have := hm2.2; omega) (by have := hm.2; omega)
    have hpm := pm_mul hA (sym_pm (rd xs i) (rd xs j) p)
    have := ih (j + 1) (acc * sym (rd xs i) (rd xs j) p) (by omega) hpm.1 hv
    refine Ev.step (f := fun k => (impl_symbol.f k (rd xs i) (rd xs j) p).bind fun t127 => (impl_invariant.l1 k xs p (wrap64 (acc * t127)) (rd xs i) xs (xs.length : Int) i (xs.take ((i : Nat) : Int).toNat) ((xs.take ((i : Nat) : Int).toNat).length : Int) ((j + 1 : Nat) : Int))) (fun k => ?_) ?_
    · simp only [impl_invariant.l1]
      rw [if_pos (by omega), if_pos (by omega), if_pos (by omega), show rd (xs.take ((i : Nat) : Int).toNat) (j : Int) = rd xs (j : Int) from rd_take (by omega), w64 (x := (j : Int) + 1) (by omega) (by omega)]
      rfl
    · refine hs.bind ?_
      rw [hpm.2]
      exact this
theorem take_rd {xs : List Int} {i : Nat} (h : i < xs.length) : xs.take (i + 1) = xs.take i ++ [rd xs (i : Int)] := by
  rw [List.take_add_one]; simp [rd, List.getElem?_eq_getElem h]
theorem implInv_l {p : Int} (hp : p ∈ P8) (xs : List Int) (hx : ∀ x ∈ xs, Sm x) (hl : xs.length ≤ 5) : ∀ (d i : Nat) (acc : Int), i + d = xs.length → (acc = 1 ∨ acc = -1) →
    Ev (fun k => impl_invariant.l0 k xs p acc xs (xs.length : Int) i) (outr p (xs.take i) (xs.drop i) acc) := by
  intro d
  induction d with
  | zero =>
    intro i acc hi hA
    rw [List.drop_of_length_le (by omega)]
    refine Ev.step (f := fun _ => some acc) (fun k => ?_) (Ev.now _)
    simp only [impl_invariant.l0]
    rw [if_neg (by omega)]
  | succ d ih =>
    intro i acc hi hA
    rw [rd_drop (show i < xs.length by omega)]
    simp only [outr]
    rw [← take_rd (by omega)]
    have h1 := ih (i + 1) (inn p (rd xs i) (xs.take i) acc) (by omega) (inn_pm _ _ _ _ hA)
    have h2 := implInn_l hp xs hx hl i (by omega) _ i 0 acc (by omega) hA h1
    refine Ev.step (fun k => ?_) h2
    simp only [impl_invariant.l0]
    rw [if_pos (by omega), if_pos (by omega), if_pos (by omega), if_pos (by omega)]
    rfl
theorem implInv_ev {p : Int} (hp : p ∈ P8) {xs : List Int} (hx : ∀ x ∈ xs, Sm x) (hl : xs.length ≤ 5) : Ev (fun k => impl_invariant.f k xs p) (inv xs p) :=
  implInv_l hp xs hx hl xs.length 0 1 (by omega) (by omega)

/-! ### forms vanish -/
theorem sm_neg {n : Int} (h : n ≠ 0 ∧ n.natAbs ≤ 24300000) : wrap64 (-n) = -n ∧ -n ≠ 0 ∧ (-n).natAbs < 2 ^ 63 := ⟨w64 (by omega) (by omega), by omega, by omega⟩
theorem implVan_ev {p : Int} (hp : p ∈ P8) {xs : List Int} (hx : ∀ x ∈ xs, Sm x) (hl : xs.length ≤ 5) : Ev (fun k => impl_vanishes.f k xs p) (van xs p) := by
  unfold impl_vanishes.f van
  have hb := prod_bd4 hx hl
  have hn := sm_neg hb
  refine (implProduct_ev hx hl).bind ?_
  by_cases c0 : p = 0
  · simp only [if_pos c0]
    refine (implLess_ev (by omega)).bind ?_
    by_cases c : less xs > 0
    · simp only [if_pos c, decide_eq_true c, Bool.true_and]; exact Ev.now _
    · simp only [if_neg c, decide_eq_false c, Bool.false_and]; exact Ev.now _
  · simp only [if_neg c0, hn.1]
    by_cases c2 : (xs.length : Int) = 2
    · simp only [if_pos c2]
      refine (implSq_ev hp hn.2.1 hn.2.2).bind ?_
      exact Ev.now _
    · simp only [if_neg c2]
      by_cases c3 : (xs.length : Int) = 3
      · simp only [if_pos c3]
        refine (implInv_ev hp hx hl).bind ((implSymbol_ev hp (by omega) hn.2.1 (by omega) hn.2.2).bind ?_)
        exact Ev.now _
      · simp only [if_neg c3]
        by_cases c4 : (xs.length : Int) = 4
        · simp only [if_pos c4]
          refine (implSq_ev hp hb.1 (by omega)).bind ?_
          by_cases c5 : sqAt (prod xs) p = true
          · simp only [c5, if_true, Bool.not_true, Bool.false_or]
            refine (implInv_ev hp hx hl).bind ((implSymbol_ev hp (by omega) (by omega) (by omega) (by omega)).bind ?_)
            exact Ev.now _
          · simp only [Bool.eq_false_iff.2 c5, Bool.false_eq_true, if_false, Bool.not_false, Bool.true_or]; exact Ev.now _
        · simp only [if_neg c4]; exact Ev.now _
/-! ### places -/
def PL : List Int := [0, 1, 4, -3, 97, 9, 2, 3, 5, 7, 11, 13]
def trial (n : Int) : Nat → Int → Bool
  | 0, _ => true
  | d + 1, x => if x * x ≤ n then (if n.tmod x = 0 then false else trial n d (x + 1)) else true
theorem implPrime_l {n : Int} (hn : n ≤ 100) : ∀ (d : Nat) (x : Int), 2 ≤ x → 12 ≤ x + d → x ≤ 100 →
    Ev (fun k => impl_prime.l0 k n x) (trial n d x && decide (n ≥ 2)) := by
  intro d
  induction d with
  | zero =>
    intro x h1 h2 h3
    have hh := sq_le (show (0 : Int) ≤ 12 by omega) (show 12 ≤ x by omega)
    refine Ev.step (f := fun _ => some (decide (n ≥ 2))) (fun k => ?_) (by simpa [trial] using Ev.now _)
    simp only [impl_prime.l0]
    rw [wmul (a := x) (b := x) (by omega) (by omega) (by omega) (by omega), if_neg (by omega)]
  | succ d ih =>
    intro x h1 h2 h3
    have hm := wmul (a := x) (b := x) (by omega) (by omega) (by omega) (by omega)
    by_cases c : x * x ≤ n
    · have hx : x ≤ 10 := by
        rcases Int.lt_or_le 10 x with h | h
        · have := sq_le (show (0 : Int) ≤ 11 by omega) (show 11 ≤ x by omega); omega
        · exact h
      by_cases c2 : n.tmod x = 0
      · refine Ev.step (f := fun _ => some false) (fun k => ?_) (by simp only [trial, if_pos c, if_pos c2, Bool.false_and]; exact Ev.now _)
        simp only [impl_prime.l0]
        rw [hm, if_pos c, if_neg (by omega), if_pos c2]
      · refine Ev.step (fun k => ?_) (by simp only [trial, if_pos c, if_neg c2]; exact ih (x + 1) (by omega) (by omega) (by omega))
        simp only [impl_prime.l0]
        rw [hm, if_pos c, if_neg (by omega), if_neg c2, w64 (x := x + 1) (by omega) (by omega)]
    · refine Ev.step (f := fun _ => some (decide (n ≥ 2))) (fun k => ?_) (by simp only [trial, if_neg c, Bool.true_and]; exact Ev.now _)
      simp only [impl_prime.l0]
      rw [hm, if_neg c]
def placeOk (p : Int) : Bool := P8.contains p
theorem PL_tab : ∀ p ∈ PL, p ≤ 100 ∧ (p ≠ 0 → (trial p 10 2 && decide (p ≥ 2)) = placeOk p) := by decide +kernel
theorem placeOk_iff {p : Int} : placeOk p = true ↔ p ∈ P8 := by simp [placeOk]
theorem implPlaceValid_ev {p : Int} (h : p ∈ PL) : Ev (fun k => impl_PlaceValid.f k p) (placeOk p) := by
  have ht := PL_tab p h
  unfold impl_PlaceValid.f impl_PrimeIs.f
  by_cases c : p = 0
  · subst c; simp only [if_true]; exact Ev.now _
  · simp only [if_neg c, if_pos (show p ≤ 5000 by omega)]
    have := implPrime_l (n := p) (by omega) 10 2 (by omega) (by omega) (by omega)
    rw [ht.2 c] at this
    unfold impl_prime.f
    exact (this.bind (f := fun _ t => some t) (Ev.now _)).bind (f := fun _ t => some t) (Ev.now _)

/-! ### forms are joined -/
theorem implFormVanishes_ev {xs : List Int} {p : Int} (hx : ∀ x ∈ xs, x.natAbs ≤ 31) (hl : xs.length ≤ 5) (hp : p ∈ PL) :
    Ev (fun k => impl_FormVanishes.f k xs p) (formOk xs && (placeOk p && van xs p)) := by
  unfold impl_FormVanishes.f
  refine (implFormValid_ev (xs := xs) (fun x h => by have := hx x h; omega) (by omega)).bind ?_
  by_cases c1 : formOk xs = true
  · simp only [c1, if_true, Bool.true_and]
    refine (implPlaceValid_ev hp).bind ?_
    by_cases c2 : placeOk p = true
    · have hk := formOk_iff.1 c1
      simp only [c2, if_true, Bool.true_and]
      exact (implVan_ev (placeOk_iff.1 c2) hk.1 (by omega)).bind (f := fun _ t => some t) (Ev.now _)
    · simp only [c2, Bool.false_eq_true, if_false, Bool.false_and]; exact Ev.now _
  · simp only [c1, Bool.false_eq_true, if_false, Bool.false_and]; exact Ev.now _

/-! ### three and four squares -/
theorem sqs0_some' {x left : Int} (h : isq left * isq left = left) (h2 : x * x ≤ left) (hx : 0 ≤ x) : sqs 0 x left = some [isq left] := by
  have : x ≤ isq left := le_of_sq (isq_nonneg _) (by omega)
  simp only [sqs]; rw [if_pos ⟨h, this⟩]
theorem sqs0_none' {x left : Int} (h : ¬ isq left * isq left = left) : sqs 0 x left = none := by
  simp only [sqs]; rw [if_neg (fun h' => h h'.1)]
def ans (x : Int) (R0 : List Int × Bool) : Option (List Int) → List Int × Bool
  | some r => (x :: r, true)
  | none => R0
def fin (o : Option (List Int)) : List Int × Bool := match o with | some r => (r, true) | none => ([], false)
theorem wc {c x : Int} (hc : 0 ≤ c) (hC : c ≤ 4) (hx : 0 ≤ x) (hX : x ≤ 3000) : wrap64 (wrap64 (c * x) * x) = x * x * c := by
  have h1 := mul_le2 hc hC hx hX
  have h0 := Int.mul_nonneg hc hx
  have h2 := mul_le2 h0 h1 hx hX
  have h3 := Int.mul_nonneg h0 hx
  rw [w64 (x := c * x) (by omega) (by omega), w64 (by omega) (by omega)]
  rw [Int.mul_assoc, Int.mul_comm]
theorem sq3000 {x : Int} (hx : 0 ≤ x) (hX : x ≤ 3000) : 0 ≤ x * x ∧ x * x ≤ 9000000 := ⟨sq_nonneg x, by have := sq_le hx hX; omega⟩

theorem implThreeFind_eq (n : Int) : impl_ThreeFind.f n = some (if 0 ≤ n ∧ n ≤ 2000 then fin (sqs 2 0 n) else ([], false)) := by
  unfold impl_ThreeFind.f impl_squaresOf.f
  rw [if_pos (by omega)]
  by_cases h : 0 ≤ n ∧ n ≤ 2000
  · rw [if_neg (by omega), if_pos h, show ((3 : Int) - 1).toNat = 2 from rfl]
    cases hq : sqs 2 0 n <;> simp [fin]
  · rw [if_pos (by omega), if_neg h]; simp

theorem sqFrom_len {f : Int → Option (List Int)} {c left : Int} {m : Nat} (hf : ∀ x r, f x = some r → r.length = m) : ∀ (d : Nat) (x : Int) (r : List Int), sqFrom f c left d x = some r → r.length = m + 1
  | 0, _, _, h => by simp [sqFrom] at h
  | d + 1, x, r, h => by
    simp only [sqFrom] at h
    split at h
    · split at h
      · rename_i r' hr
        injection h with h
        rw [← h, List.length_cons, hf x r' hr]
      · exact sqFrom_len hf d (x + 1) r h
    · cases h
theorem sqs_len : ∀ (m : Nat) (low left : Int) (r : List Int), sqs m low left = some r → r.length = m + 1
  | 0, low, left, r, h => by
    simp only [sqs] at h
    split at h
    · injection h with h; rw [← h]; rfl
    · cases h
  | m + 1, low, left, r, h => by
    simp only [sqs] at h
    exact sqFrom_len (fun x r hr => sqs_len m _ _ r hr) _ _ _ h
theorem fin_len (m : Nat) (n : Int) : (if 0 ≤ n ∧ n ≤ 2000 then fin (sqs m 0 n) else ([], false)).1.length ≤ m + 1 := by
  split
  · cases hq : sqs m 0 n with
    | none => simp [fin]
    | some r => have := sqs_len m 0 n r hq; simp [fin, this]
  · simp


/-! ### the core -/
theorem coreOf_in (ps : List Int) (j : Nat) (hj : j < ps.length) (hlen : ps.length ≤ 1000000) {q : Int} (hq : 2 ≤ q) (hQ : q ≤ 2000) (v : Int × Int) : ∀ (d : Nat) (n r : Int), 0 < n → n ≤ 2000 → n < 2 ^ d →
    Ev (fun k => impl_coreOf.l0 k (coreW q d n r).1 (coreW q d n r).2 ps (ps.length : Int) ((j + 1 : Nat) : Int)) v → Ev (fun k => impl_coreOf.l1 k n r q ps (ps.length : Int) j) v := by
  have hqq := wmul (a := q) (b := q) (by omega) (by omega) (by omega) (by omega)
  have h4 : 4 ≤ q * q := by have := sq_le (show (0 : Int) ≤ 2 by omega) hq; omega
  intro d
  induction d with
  | zero => intro n r h1 h2 h3; simp at h3; omega
  | succ d ih =>
    intro n r h1 h2 h3 hv
    by_cases c : n.tmod (q * q) = 0
    · have ht := tdiv_abs (show 2 ≤ q * q by omega) (show n ≠ 0 by omega) c
      simp only [coreW, if_pos c] at hv
      refine Ev.step (fun k => ?_) (ih (n.tdiv (q * q)) (wrap64 (r * q)) (ht.2.2.2.1 h1) (by omega) (by rw [Int.pow_succ] at h3; have := ht.2.2.2.1 h1; omega) hv)
      simp only [impl_coreOf.l1]
      rw [hqq, if_neg (by omega), if_pos c, w64 (x := n.tdiv (q * q)) (by have := ht.2.2.2.1 h1; omega) (by omega)]
    · simp only [coreW, if_neg c] at hv
      refine Ev.step (fun k => ?_) hv
      simp only [impl_coreOf.l1]
      rw [hqq, if_neg (by omega), if_neg c, w64 (x := (j : Int) + 1) (by omega) (by omega)]
      rfl
theorem coreOf_l (ps : List Int) (hlen : ps.length ≤ 1000000) (hps : ∀ q ∈ ps, 2 ≤ q ∧ q ≤ 2000) : ∀ (d j : Nat) (n r : Int), j + d = ps.length → 0 < n → n ≤ 2000 →
    Ev (fun k => impl_coreOf.l0 k n r ps (ps.length : Int) j) (coreLs (ps.drop j) n r) := by
  intro d
  induction d with
  | zero =>
    intro j n r hj h1 h2
    rw [List.drop_of_length_le (by omega)]
    refine Ev.step (f := fun _ => some (n, r)) (fun k => ?_) (Ev.now _)
    simp only [impl_coreOf.l0]
    rw [if_neg (by omega)]
  | succ d ih =>
    intro j n r hj h1 h2
    have hm := hps _ (rd_mem (xs := ps) (j := j) (by omega))
    rw [rd_drop (show j < ps.length by omega)]
    simp only [coreLs]
    have hb := coreW_bd hm.1 11 n r h1 h2
    have h3 := ih (j + 1) (coreW (rd ps j) 11 n r).1 (coreW (rd ps j) 11 n r).2 (by omega) hb.1 hb.2
    refine Ev.step (fun k => ?_) (coreOf_in ps j (by omega) hlen hm.1 hm.2 _ 11 n r h1 h2 (by omega) h3)
    simp only [impl_coreOf.l0]
    rw [if_pos (by omega), if_pos (by omega), if_pos (by omega)]
theorem coreOf_ev {n : Int} (h1 : 0 < n) (h2 : n ≤ 2000) : Ev (fun k => impl_coreOf.f k n) (coreF n) := by
  unfold impl_coreOf.f coreF
  refine (primesOf_ev (n := n) (by omega) (by omega)).bind ?_
  have := primes_len n
  exact coreOf_l (primes n) (by omega) (fun q hq => by have := prime_le h1 (by omega) hq; omega) (primes n).length 0 n 1 (by omega) h1 h2
theorem specThreeIs_l : ∀ (d n : Nat), n < 4 ^ d → n ≤ 1000000 → Ev (fun k => spec_ThreeIs.l0 k (n : Int)) (threeN d n) := by
  intro d
  induction d with
  | zero =>
    intro n h _
    obtain rfl : n = 0 := by simpa using h
    refine Ev.step (f := fun _ => some true) (fun k => ?_) (Ev.now _)
    simp [spec_ThreeIs.l0]
  | succ d ih =>
    intro n h hM
    rw [threeN_succ]
    have e4 : Int.tmod (n : Int) 4 = ((n % 4 : Nat) : Int) := (Int.ofNat_tmod n 4).symm
    have e8 : Int.tmod (n : Int) 8 = ((n % 8 : Nat) : Int) := (Int.ofNat_tmod n 8).symm
    by_cases c : n ≠ 0 ∧ n % 4 = 0
    · rw [if_pos c]
      have := ih (n / 4) (by rw [Nat.pow_succ] at h; omega) (by omega)
      refine Ev.step (fun k => ?_) this
      simp only [spec_ThreeIs.l0]
      rw [if_pos (by omega), e4, if_pos (by omega), Int.tdiv_eq_ediv_of_nonneg (by omega), w64 (x := (n : Int) / 4) (by omega) (by omega)]
      rfl
    · rw [if_neg c]
      refine Ev.step (f := fun _ => some (!Nat.beq (n % 8) 7)) (fun k => ?_) (Ev.now _)
      have e : ((((n % 8 : Nat) : Int)) != 7) = !Nat.beq (n % 8) 7 := by
        rw [beq_iff, Bool.eq_iff_iff]; simp; omega
      simp only [spec_ThreeIs.l0]
      rw [e4, e8, e]
      by_cases c1 : (n : Int) > 0
      · rw [if_pos c1, if_neg (by omega)]
      · rw [if_neg c1]
theorem specThreeIs_ev (n : Int) : Ev (fun k => spec_ThreeIs.f k n) (if 0 ≤ n ∧ n ≤ 2000 then threeN 6 n.toNat else false) := by
  unfold spec_ThreeIs.f spec_l8Sum.f
  simp only [specIn_eq, Option.bind_some]
  by_cases h : 0 ≤ n ∧ n ≤ 2000
  · simp only [decide_eq_true h.1, decide_eq_true h.2, Bool.and_true, if_true, if_pos h]
    have := specThreeIs_l 6 n.toNat (by omega) (by omega)
    rw [show ((n.toNat : Nat) : Int) = n from by omega] at this
    exact this
  · rw [if_neg h]
    have e : (decide (0 ≤ n) && decide (n ≤ 2000)) = false := by rw [← Bool.decide_and]; exact decide_eq_false h
    simp only [e, Bool.false_eq_true, if_false]; exact Ev.now _


theorem holds : laws_FnThreeIs.Pure := by
  intro l0 _ _ hw
  refine Ev.rounds ?_
  unfold laws_FnThreeIs.f
  by_cases big : (l0.length : Int) > 1048576
  · simp only [if_pos big]; exact Ev.now _
  obtain ⟨b, hb, ho⟩ := open_ev hw
  obtain ⟨n, p, hn, hd⟩ := sumDraw_ev hb
  simp only [if_neg big, spec_DrawThreeIs.f, ho, Option.bind_some]
  refine (hd.bind (Ev.now n)).bind ((implThreeIs_ev n).bind ((specThreeIs_ev n).bind ?_))
  simp only [bne_self_eq_false, Bool.false_eq_true, if_false]
  by_cases c : (if 0 ≤ n ∧ n ≤ 2000 then threeN 6 n.toNat else false) = true
  · simp only [c, Bool.not_true]
    have h : 0 ≤ n ∧ n ≤ 2000 := by
      by_cases h : 0 ≤ n ∧ n ≤ 2000
      · exact h
      · rw [if_neg h] at c; simp at c
    rw [if_pos h] at c
    obtain ⟨m, rfl⟩ := Int.eq_ofNat_of_zero_le h.1
    rw [show ((m : Int)).toNat = m from rfl] at c
    have h3 := three_all (n := m) (by omega)
    rw [c] at h3
    have mi := implThreeFind_eq (m : Int)
    rw [if_pos h] at mi
    have e4 : wrap64 (4 * (m : Int)) = 4 * (m : Int) := w64 (by omega) (by omega)
    have last : ∀ cc : Int, (m = 0 ∨ (0 < m ∧ cc = (coreF (m : Int)).1)) → ∀ ok : Bool, (m = 0 ∨ ok = true) →
        Ev (fun k => if (m : Int) = 0 then some true else if ok = true then (impl_FormValid.f k [1, 1, 1, wrap64 (-cc)]).bind fun t202 => if t202 = true then (impl_FormVanishes.f k [1, 1, 1, wrap64 (-cc)] 2).bind fun t203 => some t203 else some true else some false) true := by
      intro cc hcc ok hok
      by_cases h0 : (m : Int) = 0
      · simp only [if_pos h0]; exact Ev.now _
      · simp only [if_neg h0]
        rcases hcc with h1 | ⟨h1, h2⟩
        · exact absurd (by omega) h0
        · rcases hok with h4 | h4
          · exact absurd (by omega) h0
          · have hbd := coreLs_bd (primes (m : Int)) (m : Int) 1 (fun q hq => primes_ge hq) (by omega) h.2
            change 0 < (coreF (m : Int)).1 ∧ (coreF (m : Int)).1 ≤ 2000 at hbd
            rw [← h2] at hbd
            have ht := tab_all m (by simp only [List.mem_cons, List.mem_range]; omega)
            unfold tabOk at ht
            rw [c, ← h2, show Nat.beq m 0 = false from by rw [beq_iff]; simpa using (by omega : ¬ m = 0)] at ht
            simp only [Bool.not_true, Bool.false_or, Bool.or_eq_true, Bool.not_eq_true'] at ht
            simp only [h4, if_true, w64 (x := -cc) (by omega) (by omega)]
            have hsz : ∀ x ∈ [1, 1, 1, -cc], x.natAbs ≤ 1000000 := by
              intro x hx; simp only [List.mem_cons, List.not_mem_nil, or_false] at hx; omega
            refine (implFormValid_ev hsz (by simp)).bind ?_
            by_cases c5 : formOk [1, 1, 1, -cc] = true
            · simp only [if_pos c5]
              have hk := formOk_iff.1 c5
              have := implFormVanishes_ev (xs := [1, 1, 1, -cc]) (p := 2) (fun x hx => by have := (hk.1 x hx).2; omega) (by simp) (by decide)
              rcases ht with ht | ht
              · rw [ht] at c5; simp at c5
              · rw [c5, ht, show placeOk 2 = true from by decide] at this
                exact this.bind (f := fun _ t => some t) (Ev.now _)
            · simp only [if_neg c5]; exact Ev.now _
    have core : ∃ c1 c2 ok, Ev (fun k => impl_CoreOf.f k (m : Int)) (c1, c2, ok) ∧ (m = 0 ∨ (0 < m ∧ c1 = (coreF (m : Int)).1)) ∧ (m = 0 ∨ ok = true) := by
      by_cases h0 : (m : Int) = 0
      · refine ⟨0, 0, false, ?_, Or.inl (by omega), Or.inl (by omega)⟩
        unfold impl_CoreOf.f
        simp only [if_pos h0]; exact Ev.now _
      · refine ⟨(coreF (m : Int)).1, (coreF (m : Int)).2, true, ?_, Or.inr ⟨by omega, rfl⟩, Or.inr rfl⟩
        unfold impl_CoreOf.f impl_isNumber.f
        simp only [if_neg h0, if_pos (show (m : Int) ≥ -5000 by omega), decide_eq_true (show (m : Int) ≤ 5000 by omega), Option.bind_some, if_true]
        exact (coreOf_ev (n := (m : Int)) (by omega) h.2).bind (f := fun _ t => some (t.1, t.2, true)) (Ev.now _)
    obtain ⟨c1, c2, ok, hc, hc1, hok⟩ := core
    cases hq : sqs 2 0 m with
    | none => rw [hq] at h3; simp at h3
    | some r =>
      rw [hq] at mi
      apply Ev.step
      · intro k
        simp only [laws_FnThreeIs.j0, Bool.false_eq_true, if_false, mi, fin, Option.bind_some, if_true, e4]
        exact rfl
      · refine hc.bind ?_
        simp only
        by_cases c4 : 4 * (m : Int) > 2000
        · simp only [if_pos c4]
          exact last c1 hc1 ok hok
        · simp only [if_neg c4]
          have g4 := implThreeIs_ev (4 * (m : Int))
          have f4 := four_tab m (by rw [List.mem_range]; omega)
          unfold fourOk at f4
          rw [c] at f4
          rw [if_pos (by omega), show (4 * (m : Int)).toNat = 4 * m from by omega, show threeN 6 (4 * m) = true from by simpa using f4] at g4
          refine g4.bind ?_
          simp only [if_true]
          exact last c1 hc1 ok hok
  · simp only [Bool.eq_false_iff.2 c, Bool.not_false]
    refine Ev.step (f := fun _ => some true) (fun k => ?_) (Ev.now _)
    simp [laws_FnThreeIs.j0]

end Go.Proofs.Ytihadpckmcebgaa.QFnThreeIs
