/- Forms. -/
import Derived.Test.YtihadpckmcebgaaTPFnTwoIsx5
import Derived.Test.YtihadpckmcebgaaTLws
import Derived.Test.YtihadpckmcebgaaTCor
import Derived.Test.YtihadpckmcebgaaTSqFast
set_option linter.unusedVariables false
set_option linter.unusedSimpArgs false
namespace Go.Proofs.Ytihadpckmcebgaa.QFnTwoIs
open Go.RowKit Go.Proofs.Ytihadpckmcebgaa.PFnTwoIs Go.Proofs.YtihadpckmcebgaaW.PrintWords Go.Proofs.YtihadpckmcebgaaW.PrintLast Go.Proofs.YtihadpckmcebgaaW.PrintMore Locg

/-! ### draws -/
theorem xor_i64_nat (a b : Nat) (ha : a < 9223372036854775808) (hb : b < 9223372036854775808) : Go.bits .xor .i64 (a : Int) (b : Int) = ((a ^^^ b : Nat) : Int) := by
  have hx : a ^^^ b < 2 ^ 63 := Nat.xor_lt_two_pow (by omega) (by omega)
  have h1 : (BitVec.ofInt 64 (a : Int)).toNat = a := by
    rw [BitVec.ofInt_natCast, BitVec.toNat_ofNat]; exact Nat.mod_eq_of_lt (by omega)
  have h2 : (BitVec.ofInt 64 (b : Int)).toNat = b := by
    rw [BitVec.ofInt_natCast, BitVec.toNat_ofNat]; exact Nat.mod_eq_of_lt (by omega)
  show IntKind.i64.wrap ((BitVec.ofInt 64 (a : Int) ^^^ BitVec.ofInt 64 (b : Int)).toNat : Int) = _
  rw [BitVec.toNat_xor, h1, h2]
  have hw : ∀ n : Int, IntKind.i64.wrap n = wrap64 n := fun n => by simp [IntKind.wrap, wrap64, IntKind.bits, IntKind.signed]; omega
  rw [hw]
  exact w64' (by omega) (by omega)
theorem xor_nonneg (a b : Int) (ha : 0 ≤ a) (hA : a < 9223372036854775808) (hb : 0 ≤ b) (hB : b < 9223372036854775808) : 0 ≤ Go.bits .xor .i64 a b := by
  obtain ⟨a, rfl⟩ := Int.eq_ofNat_of_zero_le ha
  obtain ⟨b, rfl⟩ := Int.eq_ofNat_of_zero_le hb
  rw [xor_i64_nat a b (by omega) (by omega)]
  exact Int.natCast_nonneg _
theorem tmod_range {x n : Int} (hx : 0 ≤ x) (hn : 1 ≤ n) : 0 ≤ x.tmod n ∧ x.tmod n < n := by
  rw [Int.tmod_eq_emod_of_nonneg hx]; exact ⟨Int.emod_nonneg _ (by omega), Int.emod_lt_of_pos _ (by omega)⟩
def BytesB (b : List Int) : Prop := (∀ x ∈ b, 0 ≤ x ∧ x ≤ 255) ∧ b.length ≤ 2000
theorem BytesB.rd_ {b : List Int} (h : BytesB b) (i : Int) : 0 ≤ rd b i ∧ rd b i ≤ 255 := by
  unfold rd
  by_cases c : i.toNat < b.length
  · have := h.1 (b[i.toNat]) (by simp)
    simpa [List.getElem?_eq_getElem c] using this
  · simp [List.getElem?_eq_none (show b.length ≤ i.toNat by omega)]
/-- What the reader mixes at a place. -/
def pv (b : List Int) (p : Int) : Int := if b.length = 0 then 0 else if p < (b.length : Int) then rd b p else
  Go.bits .xor .i64 (rd b (p.tmod b.length) * 131 + rd b ((p * 7 + 3).tmod b.length) * 1117 + p * 29 + p.tdiv b.length * 53) ((rd b (p.tmod b.length) * 131 + rd b ((p * 7 + 3).tmod b.length) * 1117 + p * 29 + p.tdiv b.length * 53).tdiv 64)
theorem pick_at {b : List Int} (hb : BytesB b) {p : Int} (hp : 0 ≤ p) (hP : p ≤ 1000000000000000) {n : Int} (hn : 1 ≤ n) :
    0 ≤ pv b p ∧ Ev (fun k => spec_l6Rd_pick.f k b p n) ((pv b p).tmod n, p + 1) := by
  have hl := hb.2
  unfold pv
  rcases Nat.eq_zero_or_pos b.length with h0 | h0
  · rw [if_pos h0, Int.zero_tmod]
    refine ⟨by omega, Ev.step (f := fun _ => some (0, p + 1)) (fun k => ?_) (Ev.now _)⟩
    simp only [spec_l6Rd_pick.f, spec_l6Rd_pick.j0]
    rw [if_neg (by omega), w64 (x := p + 1) (by omega) (by omega), if_pos (by simp [h0])]
  · have e : ∀ k, spec_l6Rd_pick.f (k + 1) b p n = spec_l6Rd_pick.j0 (k + 1) n false b (p + 1) := by
      intro k
      simp only [spec_l6Rd_pick.f]
      rw [if_neg (by omega), w64 (x := p + 1) (by omega) (by omega)]
      congr 1
      simp; intro h; rw [h] at h0; simp at h0
    have hq : wrap64 (p + 1 - 1) = p := by rw [w64 (by omega) (by omega)]; omega
    rw [if_neg (by omega)]
    by_cases c : p < b.length
    · rw [if_pos c]
      refine ⟨(hb.rd_ p).1, Ev.step (f := fun _ => some ((rd b p).tmod n, p + 1)) (fun k => ?_) (Ev.now _)⟩
      have := hb.rd_ p
      rw [e]
      simp only [spec_l6Rd_pick.j0, hq]
      rw [if_neg (by simp), if_pos c, if_pos hp, if_neg (by omega), w64 (x := rd b p) (by omega) (by omega)]
    · rw [if_neg c]
      have hm := tmod_range hp (n := b.length) (by omega)
      have e7 : wrap64 (p * 7) = p * 7 := w64 (by omega) (by omega)
      have e73 : wrap64 (p * 7 + 3) = p * 7 + 3 := w64 (by omega) (by omega)
      have e29 : wrap64 (p * 29) = p * 29 := w64 (by omega) (by omega)
      have hm2 := tmod_range (x := p * 7 + 3) (by omega) (n := b.length) (by omega)
      have hA := hb.rd_ (p.tmod b.length)
      have hB := hb.rd_ ((p * 7 + 3).tmod b.length)
      have hd : 0 ≤ p.tdiv b.length ∧ p.tdiv b.length ≤ p := by
        rw [Int.tdiv_eq_ediv_of_nonneg hp]; exact ⟨Int.ediv_nonneg hp (by omega), Int.ediv_le_self _ hp⟩
      generalize hAe : rd b (p.tmod b.length) = A at hA
      generalize hBe : rd b ((p * 7 + 3).tmod b.length) = B at hB
      generalize hDe : p.tdiv b.length = D at hd
      have hx64 : 0 ≤ (A * 131 + B * 1117 + p * 29 + D * 53).tdiv 64 ∧ (A * 131 + B * 1117 + p * 29 + D * 53).tdiv 64 ≤ A * 131 + B * 1117 + p * 29 + D * 53 := by
        rw [Int.tdiv_eq_ediv_of_nonneg (by omega)]; omega
      have hx := xor_nonneg (A * 131 + B * 1117 + p * 29 + D * 53) ((A * 131 + B * 1117 + p * 29 + D * 53).tdiv 64) (by omega) (by omega) (by omega) (by omega)
      refine ⟨hx, Ev.step (f := fun _ => some (_, p + 1)) (fun k => ?_) (Ev.now _)⟩
      rw [e]
      simp only [spec_l6Rd_pick.j0, hq, e7, e73, hAe, hBe, hDe, e29]
      rw [if_neg (by simp), if_neg c, if_neg (by omega), if_pos hm.1, if_pos hm.2, if_pos hm2.1, if_pos hm2.2, if_neg (by omega)]
      rw [w64 (x := A) (by omega) (by omega), w64 (x := B) (by omega) (by omega), w64 (x := D) (by omega) (by omega), w64 (x := A * 131) (by omega) (by omega), w64 (x := B * 1117) (by omega) (by omega),
        w64 (x := A * 131 + B * 1117) (by omega) (by omega), w64 (x := A * 131 + B * 1117 + p * 29) (by omega) (by omega), w64 (x := D * 53) (by omega) (by omega),
        w64 (x := A * 131 + B * 1117 + p * 29 + D * 53) (by omega) (by omega), w64 (x := (A * 131 + B * 1117 + p * 29 + D * 53).tdiv 64) (by omega) (by omega)]
theorem pick_ev {b : List Int} (hb : BytesB b) {p : Int} (hp : 0 ≤ p) (hP : p ≤ 1000000000000000) {n : Int} (hn : 1 ≤ n) :
    ∃ v, 0 ≤ v ∧ v < n ∧ Ev (fun k => spec_l6Rd_pick.f k b p n) (v, p + 1) := by
  obtain ⟨h, e⟩ := pick_at hb hp hP hn
  exact ⟨_, (tmod_range h hn).1, (tmod_range h hn).2, e⟩
theorem open_ev {l : List Int} (h : ∀ x ∈ l, (Lit.int .u8 x).wf = true) : ∃ b, BytesB b ∧ spec_l6Open.f l = some (b, 0) := by
  have h' : ∀ x ∈ l, 0 ≤ x ∧ x ≤ 255 := fun x hx => by
    have := h x hx
    simp only [Lit.wf, Bool.and_eq_true, decide_eq_true_eq] at this
    have e1 : IntKind.u8.min = 0 := by decide
    have e2 : IntKind.u8.max = 255 := by decide
    omega
  unfold spec_l6Open.f
  by_cases c : (l.length : Int) > 2000
  · refine ⟨l.take 2000, ⟨fun x hx => h' x (List.mem_of_mem_take hx), by simp; omega⟩, ?_⟩
    rw [if_pos c, if_pos (by omega)]
  · exact ⟨l, ⟨h', by omega⟩, by rw [if_neg c]⟩


theorem sumDraw_ev' {b : List Int} (hb : BytesB b) (p0 : Int) (hp0 : 0 ≤ p0) (hp1 : p0 ≤ 1000) : ∃ n p, (n = -1 ∨ n = 2000 ∨ n = 2001 ∨ 0 ≤ n ∧ n ≤ 494) ∧ Ev (fun k => spec_l92Sum.f k b p0) (n, p) := by
  obtain ⟨v1, h1, g1, e1⟩ := pick_ev hb (p := p0) (by omega) (by omega) (n := 20) (by omega)
  by_cases c : v1 = 0
  · obtain ⟨v2, h2, g2, e2⟩ := pick_ev hb (p := p0 + 1) (by omega) (by omega) (n := 4) (by omega)
    refine ⟨rd [(-1), 0, 2000, 2001] v2, p0 + 1 + 1, ?_, ?_⟩
    · have : v2 = 0 ∨ v2 = 1 ∨ v2 = 2 ∨ v2 = 3 := by omega
      rcases this with rfl | rfl | rfl | rfl <;> simp [rd]
    · simp only [spec_l92Sum.f]
      refine e1.bind ?_
      simp only [if_pos c, Option.bind_some]
      refine e2.bind ?_
      simp only [if_pos h2, if_pos (show v2 < ((List.length [(-1 : Int), 0, 2000, 2001] : Nat) : Int) from by simp; omega)]
      exact Ev.now _
  · obtain ⟨v2, h2, g2, e2⟩ := pick_ev hb (p := p0 + 1) (by omega) (by omega) (n := 100) (by omega)
    obtain ⟨v3, h3, g3, e3⟩ := pick_ev hb (p := p0 + 1 + 1) (by omega) (by omega) (n := 6) (by omega)
    obtain ⟨v4, h4, g4, e4⟩ := pick_ev hb (p := p0 + 1 + 1 + 1) (by omega) (by omega) (n := 80) (by omega)
    have hm := Int.mul_nonneg h3 h4
    have hM := mul_le2 h3 (show v3 ≤ 5 by omega) h4 (show v4 ≤ 79 by omega)
    refine ⟨v2 + v3 * v4, p0 + 1 + 1 + 1 + 1, .inr (.inr (.inr ⟨by omega, by omega⟩)), ?_⟩
    simp only [spec_l92Sum.f]
    refine e1.bind ?_
    simp only [if_neg c]
    refine e2.bind (e3.bind (e4.bind ?_))
    simp only [w64 (x := v3 * v4) (by omega) (by omega), w64 (x := v2 + v3 * v4) (by omega) (by omega)]
    exact Ev.now _
theorem sumDraw_ev {b : List Int} (hb : BytesB b) : ∃ n p, (n = -1 ∨ n = 2000 ∨ n = 2001 ∨ 0 ≤ n ∧ n ≤ 494) ∧ Ev (fun k => spec_l92Sum.f k b 0) (n, p) := sumDraw_ev' hb 0 (by omega) (by omega)


/-! ### split -/
theorem split_l {p : Int} (hp : 2 ≤ p) : ∀ (d : Nat) (n j : Int), n ≠ 0 → n.natAbs < 2 ^ d → d ≤ 63 → 0 ≤ j → j + d ≤ 1000 →
    ∀ k, d < k → impl_split.l0 k n p j = some (j + (spl p d n).1, (spl p d n).2) := by
  intro d
  induction d with
  | zero => intro n j hn h; simp at h; omega
  | succ d ih =>
    intro n j hn h hd hj hJ k hk
    obtain ⟨k, rfl⟩ : ∃ m, k = m + 1 := ⟨k - 1, by omega⟩
    simp only [impl_split.l0]
    rw [if_neg (by omega)]
    by_cases c : n.tmod p = 0
    · obtain ⟨h0, h1, h2, h3, _⟩ := tdiv_abs hp hn c
      have hlt : n.natAbs < 2 ^ 63 := Nat.lt_of_lt_of_le h (Nat.pow_le_pow_right (by omega) hd)
      rw [if_pos c, w64 (x := n.tdiv p) (by omega) (by omega), spl_dvd d c, w64 (x := j + 1) (by omega) (by omega),
        ih (n.tdiv p) (j + 1) h0 (by rw [Nat.pow_succ] at h; omega) (by omega) (by omega) (by omega) k (by omega)]
      simp only [Option.some.injEq, Prod.mk.injEq, and_true]; omega
    · rw [if_neg c, spl_not d c]
      simp
theorem split_at {n p : Int} (hp : 2 ≤ p) (hn : n ≠ 0) (h : n.natAbs < 2 ^ 63) (k : Nat) (hk : 63 < k) : impl_split.f k n p = some (val p n, unit p n) := by
  unfold impl_split.f val unit
  rw [split_l hp 63 n 0 hn h (by omega) (by omega) (by omega) k hk, ← spl_more hp 63 n hn h]
  simp
theorem split_ev {n p : Int} (hp : 2 ≤ p) (hn : n ≠ 0) (h : n.natAbs < 2 ^ 63) : Ev (fun k => impl_split.f k n p) (val p n, unit p n) := ⟨64, fun k hk => split_at hp hn h k (by omega)⟩


/-! ### valuations -/
theorem valuation_l {p : Int} (hp : 2 ≤ p) : ∀ (d : Nat) (n j : Int), n ≠ 0 → n.natAbs < 2 ^ d → d ≤ 63 → 0 ≤ j → j + d ≤ 1000 →
    ∀ k, d < k → spec_l1Valuation.l0 k n p j = some (j + (spl p d n).1, (spl p d n).2) := by
  intro d
  induction d with
  | zero => intro n j hn h; simp at h; omega
  | succ d ih =>
    intro n j hn h hd hj hJ k hk
    obtain ⟨k, rfl⟩ : ∃ m, k = m + 1 := ⟨k - 1, by omega⟩
    simp only [spec_l1Valuation.l0]
    rw [if_neg (by omega)]
    by_cases c : n.tmod p = 0
    · obtain ⟨h0, h1, h2, h3, _⟩ := tdiv_abs hp hn c
      have hlt : n.natAbs < 2 ^ 63 := Nat.lt_of_lt_of_le h (Nat.pow_le_pow_right (by omega) hd)
      rw [if_pos c, w64 (x := n.tdiv p) (by omega) (by omega), spl_dvd d c, w64 (x := j + 1) (by omega) (by omega),
        ih (n.tdiv p) (j + 1) h0 (by rw [Nat.pow_succ] at h; omega) (by omega) (by omega) (by omega) k (by omega)]
      simp only [Option.some.injEq, Prod.mk.injEq, and_true]; omega
    · rw [if_neg c, spl_not d c]
      simp
theorem valuation_at {n p : Int} (hp : 2 ≤ p) (hn : n ≠ 0) (h : n.natAbs < 2 ^ 63) (k : Nat) (hk : 63 < k) : spec_l1Valuation.f k n p = some (val p n, unit p n) := by
  unfold spec_l1Valuation.f val unit
  rw [valuation_l hp 63 n 0 hn h (by omega) (by omega) (by omega) k hk, ← spl_more hp 63 n hn h]
  simp
theorem valuation_ev {n p : Int} (hp : 2 ≤ p) (hn : n ≠ 0) (h : n.natAbs < 2 ^ 63) : Ev (fun k => spec_l1Valuation.f k n p) (val p n, unit p n) := ⟨64, fun k hk => valuation_at hp hn h k (by omega)⟩


/-! ### primes -/
theorem primesOf_l : ∀ (d : Nat) (n p : Int) (out : List Int), 0 < n → n ≤ 1000000000000 → 2 ≤ p → p ≤ 1000002 → n + 2 - p ≤ d → 1 ≤ d → out.length + d ≤ 17000000000000 →
    ∀ k, d + 64 < k → impl_primesOf.l0 k n out p = some (out ++ pl d n p) := by
  intro d
  induction d with
  | zero => intro n p out hn hN hp hP hd h1; omega
  | succ d ih =>
    intro n p out hn hN hp hP hd h1 hl k hk
    obtain ⟨k, rfl⟩ : ∃ m, k = m + 1 := ⟨k - 1, by omega⟩
    simp only [impl_primesOf.l0, pl]
    rw [wmul (a := p) (b := p) (by omega) (by omega) (by omega) (by omega)]
    by_cases c : p * p ≤ n
    · have hpn : 2 * p ≤ n := by have := Int.mul_le_mul_of_nonneg_right hp (show 0 ≤ p by omega); omega
      have hp6 : p ≤ 1000000 := le_of_sq (by omega) (by omega)
      rw [if_pos c, if_neg (by omega), if_pos c, w64 (x := p + 1) (by omega) (by omega)]
      by_cases c2 : n.tmod p = 0
      · have hv := val_spec hp (show n ≠ 0 by omega) (by omega)
        rw [if_pos c2, if_pos (by omega), split_at hp (by omega) (by omega) k (by omega), if_pos c2]
        simp only [Option.bind_some]
        rw [ih (unit p n) (p + 1) (out ++ [p]) (hv.2.2.2.2.2.2 hn) (by omega) (by omega) (by omega) (by omega) (by omega) (by simp; omega) k (by omega)]
        simp
      · rw [if_neg c2, if_neg c2]
        exact ih n (p + 1) out hn hN (by omega) (by omega) (by omega) (by omega) (by omega) k (by omega)
    · rw [if_neg c, if_neg c]
      by_cases c2 : n > 1
      · rw [if_pos c2, if_pos c2, if_pos (by omega)]
      · rw [if_neg c2, if_neg c2]; simp
theorem primesOf_ev {n : Int} (hn : n ≠ 0) (h : n.natAbs ≤ 1000000000000) : Ev (fun k => impl_primesOf.f k n) (primes n) := by
  refine ⟨n.natAbs + 67, fun k hk => ?_⟩
  simp only [impl_primesOf.f, impl_size.f, Option.bind_some]
  rw [size_ev (by omega) (by omega), primesOf_l (n.natAbs + 2) (absI n) 2 [] (by unfold absI; omega) (by unfold absI; omega) (by omega) (by omega) (by unfold absI; omega) (by omega) (by simp; omega) k (by omega)]
  rfl


/-! ### primes, of the reference -/
theorem l1Primes_in (p : Int) (hp : 2 ≤ p) (hP : p ≤ 1000001) (out : List Int) : ∀ (d : Nat) (n : Int), 0 < n → n.natAbs < 2 ^ d → d ≤ 63 →
    ∀ k, spec_l1Primes.l1 (k + d) n out p = (match k + d - (spl p d n).1.toNat with | 0 => none | m + 1 => spec_l1Primes.l0 m (spl p d n).2 out (p + 1)) := by
  intro d
  induction d with
  | zero => intro n hn h; simp at h; omega
  | succ d ih =>
    intro n hn h hd k
    have hs := spl_spec hp (d + 1) n (by omega) h
    rw [show k + (d + 1) = (k + d) + 1 from by omega]
    simp only [spec_l1Primes.l1]
    rw [if_neg (by omega)]
    by_cases c : n.tmod p = 0
    · obtain ⟨h0, h1, h2, h3, _⟩ := tdiv_abs hp (show n ≠ 0 by omega) c
      have hlt : n.natAbs < 2 ^ 63 := Nat.lt_of_lt_of_le h (Nat.pow_le_pow_right (by omega) hd)
      have h4 : (n.tdiv p).natAbs < 2 ^ d := by rw [Nat.pow_succ] at h; omega
      have hs' := spl_spec hp d (n.tdiv p) h0 h4
      rw [if_pos c, w64 (x := n.tdiv p) (by omega) (by omega), spl_dvd d c, ih (n.tdiv p) (h3 hn) h4 (by omega) k]
      simp only
      rw [show k + d + 1 - ((spl p d (n.tdiv p)).1 + 1).toNat = k + d - (spl p d (n.tdiv p)).1.toNat from by omega]
    · rw [if_neg c, spl_not d c, w64 (x := p + 1) (by omega) (by omega)]
      simp
theorem l1Primes_l : ∀ (d : Nat) (n p : Int) (out : List Int), 0 < n → n ≤ 1000000000000 → 2 ≤ p → p ≤ 1000002 → n + 2 - p ≤ d → 1 ≤ d → out.length + d ≤ 17000000000000 →
    Ev (fun k => spec_l1Primes.l0 k n out p) (out ++ pl d n p) := by
  intro d
  induction d with
  | zero => intro n p out hn hN hp hP hd h1; omega
  | succ d ih =>
    intro n p out hn hN hp hP hd h1 hl
    by_cases c : p * p ≤ n
    · have hpn : 2 * p ≤ n := by have := Int.mul_le_mul_of_nonneg_right hp (show 0 ≤ p by omega); omega
      have hp6 : p ≤ 1000000 := le_of_sq (by omega) (by omega)
      have hv := val_spec hp (show n ≠ 0 by omega) (by omega)
      have inner : ∀ o : List Int, Ev (fun k => spec_l1Primes.l0 k (unit p n) o (p + 1)) (o ++ pl d (unit p n) (p + 1)) → Ev (fun k => spec_l1Primes.j1 k n o p) (o ++ pl d (unit p n) (p + 1)) := by
        intro o ho
        obtain ⟨K, hK⟩ := ho
        refine ⟨K + 200, fun k hk => ?_⟩
        obtain ⟨k, rfl⟩ : ∃ m, k = m + 64 + 1 := ⟨k - 65, by omega⟩
        simp only [spec_l1Primes.j1]
        have e := l1Primes_in p hp (by omega) o 63 n hn (by omega) (by omega) (k + 1)
        rw [show k + 64 = k + 1 + 63 from by omega, e, ← spl_more hp 63 n (by omega) (by omega)]
        change (match k + 1 + 63 - (val p n).toNat with | 0 => none | m + 1 => spec_l1Primes.l0 m (unit p n) o (p + 1)) = _
        have hb := hv.2.2.2.1
        obtain ⟨m, hm⟩ : ∃ m, k + 1 + 63 - (val p n).toNat = m + 1 := ⟨k + 63 - (val p n).toNat, by omega⟩
        rw [hm]
        exact hK m (by omega)
      by_cases c2 : n.tmod p = 0
      · refine Ev.step (f := fun k => spec_l1Primes.j1 k n (out ++ [p]) p) (fun k => ?_) ?_
        · simp only [spec_l1Primes.l0]
          rw [wmul (a := p) (b := p) (by omega) (by omega) (by omega) (by omega), if_pos c, if_neg (by omega), if_pos c2, if_pos (by omega)]
        · have := inner (out ++ [p]) (ih (unit p n) (p + 1) (out ++ [p]) (hv.2.2.2.2.2.2 hn) (by omega) (by omega) (by omega) (by omega) (by omega) (by simp; omega))
          simp only [pl, if_pos c, if_pos c2]
          simpa using this
      · refine Ev.step (f := fun k => spec_l1Primes.j1 k n out p) (fun k => ?_) ?_
        · simp only [spec_l1Primes.l0]
          rw [wmul (a := p) (b := p) (by omega) (by omega) (by omega) (by omega), if_pos c, if_neg (by omega), if_neg c2]
        · have hu := (val_of_not c2).2
          have := inner out (by rw [hu]; exact ih n (p + 1) out hn hN (by omega) (by omega) (by omega) (by omega) (by omega))
          rw [hu] at this
          simp only [pl, if_pos c, if_neg c2]
          exact this
    · refine Ev.step (f := fun _ => some (out ++ pl (d + 1) n p)) (fun k => ?_) (Ev.now _)
      simp only [spec_l1Primes.l0, pl]
      rw [wmul (a := p) (b := p) (by omega) (by omega) (by omega) (by omega), if_neg c, if_neg c]
      by_cases c2 : n > 1
      · rw [if_pos c2, if_pos c2, if_pos (by omega)]
      · rw [if_neg c2, if_neg c2]; simp
theorem l1Primes_ev {n : Int} (hn : n ≠ 0) (h : n.natAbs ≤ 1000000000000) : Ev (fun k => spec_l1Primes.f k n) (primes n) := by
  simp only [spec_l1Primes.f, spec_l1Size.f, Option.bind_some]
  rw [size_ev (by omega) (by omega)]
  have := l1Primes_l (n.natAbs + 2) (absI n) 2 [] (by unfold absI; omega) (by unfold absI; omega) (by omega) (by omega) (by unfold absI; omega) (by omega) (by simp; omega)
  simpa [primes] using this


/-! ### residues, squares and symbols at a place -/
theorem implRest_eq {a m : Int} (h : 0 < m) (hm : m ≤ 5000) (ha : a.natAbs < 2 ^ 63) : impl_rest.f a m = some (a % m) := by
  unfold impl_rest.f
  have h1 := Int.tmod_lt_of_pos a h
  have h2 : -m < Int.tmod a m := by
    have := Int.tmod_lt_of_pos (-a) h; rw [Int.neg_tmod] at this; omega
  rw [if_neg (by omega), w64 (by omega) (by omega), rest_eq a h]
theorem implResidue_l {p r : Int} (hp : 3 ≤ p) (hP : p ≤ 5000) : ∀ (d : Nat) (x : Int), 1 ≤ x → p.tdiv 2 + 2 ≤ x + d → x ≤ 5001 →
    Ev (fun k => impl_residue.l0 k p r x) (resS p r d x) := by
  have e2 : p.tdiv 2 = p / 2 := tdiv2 (by omega)
  intro d
  induction d with
  | zero =>
    intro x h1 h2 h3
    refine Ev.step (f := fun _ => some (-1)) (fun k => ?_) (Ev.now _)
    simp only [impl_residue.l0]
    rw [w64 (x := p.tdiv 2) (by omega) (by omega), if_neg (by omega)]
  | succ d ih =>
    intro x h1 h2 h3
    by_cases c : x ≤ p.tdiv 2
    · have hxx := wmul (a := x) (b := x) (by omega) (by omega) (by omega) (by omega)
      by_cases c2 : (x * x).tmod p = r
      · refine Ev.step (f := fun _ => some 1) (fun k => ?_) (by simp only [resS, if_pos c, if_pos c2]; exact Ev.now _)
        simp only [impl_residue.l0]
        rw [w64 (x := p.tdiv 2) (by omega) (by omega), if_pos c, if_neg (by omega), hxx, if_pos c2]
      · refine Ev.step (fun k => ?_) (by simp only [resS, if_pos c, if_neg c2]; exact ih (x + 1) (by omega) (by omega) (by omega))
        simp only [impl_residue.l0]
        rw [w64 (x := p.tdiv 2) (by omega) (by omega), if_pos c, if_neg (by omega), hxx, if_neg c2, w64 (x := x + 1) (by omega) (by omega)]
    · refine Ev.step (f := fun _ => some (-1)) (fun k => ?_) (by simp only [resS, if_neg c]; exact Ev.now _)
      simp only [impl_residue.l0]
      rw [w64 (x := p.tdiv 2) (by omega) (by omega), if_neg c]
theorem implResidue_ev {p u : Int} (h : OddP p) (hu : u.natAbs < 2 ^ 63) : Ev (fun k => impl_residue.f k u p) (res p u) := by
  have hp := h.2
  unfold impl_residue.f
  simp only [implRest_eq (show 0 < p by omega) (by omega) hu, Option.bind_some]
  unfold res resR
  by_cases c : u % p = 0
  · simp only [if_pos c]; exact Ev.now _
  · simp only [if_neg c]
    exact implResidue_l (by omega) (by omega) _ 1 (by omega) (by rw [tdiv2 (by omega)]; omega) (by omega)
theorem P8_of6 {p : Int} (h : OddP p) : p = 2 ∨ OddP p := Or.inr h
theorem implSq_ev {n p : Int} (h : Plc p) (hn : n ≠ 0) (hN : n.natAbs < 2 ^ 63) : Ev (fun k => impl_localSquare.f k n p) (sqAt n p) := by
  unfold impl_localSquare.f
  rcases h with rfl | h
  · simp only [if_true, code_zero hn]; exact Ev.now _
  · have hp := P7_bd h
    obtain ⟨_, v2, v3, v4, v5, v6, _⟩ := val_spec hp hn hN
    simp only [if_neg (show ¬ p = 0 by omega)]
    refine (split_ev hp hn hN).bind ?_
    simp only
    have hpar := par_cases (val p n)
    have hm : (val p n).tmod 2 = val p n % 2 := Int.tmod_eq_emod_of_nonneg v3
    by_cases c : (val p n).tmod 2 = 0
    · simp only [if_pos c]
      rcases h with rfl | h6
      · simp only [if_true, implRest_eq (a := unit 2 n) (m := 8) (by omega) (by omega) (by omega), Option.bind_some]
        have := unit2 hn hN
        have e : sqAt n 2 = (unit 2 n % 8 == 1) := by
          unfold sqAt code
          simp only [show ¬ (2 : Int) = 0 from by omega, if_false, if_true, show par (val 2 n) = 0 from by omega]
          rcases this with h | h | h | h <;> rw [h] <;> rfl
        rw [e]; exact Ev.now _
      · have h2 := h6.2
        simp only [if_neg (show ¬ p = 2 by omega)]
        refine (implResidue_ev h6 (by omega)).bind ?_
        have e : sqAt n p = (res p (unit p n) == 1) := by
          unfold sqAt code
          simp only [if_neg (show ¬ p = 0 by omega), if_neg (show ¬ p = 2 by omega), show par (val p n) = 0 from by omega]
          by_cases c : res p (unit p n) = 1
          · simp [c]
          · simp [c]
        rw [e]; exact Ev.now _
    · simp only [if_neg c]
      have e : sqAt n p = false := by
        unfold sqAt code
        simp only [if_neg (show ¬ p = 0 by omega), show par (val p n) = 1 from by omega]
        split
        · rename_i h2; subst h2; rw [show par (val 2 n) = 1 from by omega]; simp
        · simp
      rw [e]; exact Ev.now _

/-! ### symbols -/
theorem power_ev {t e : Int} (he : e = 0 ∨ e = 1) (ht : t = 1 ∨ t = -1) : Ev (fun k => impl_power.f k t e) (if e = 1 then t else 1) := by
  refine ⟨2, fun k hk => ?_⟩
  obtain ⟨m, rfl⟩ : ∃ m, k = m + 2 := ⟨k - 2, by omega⟩
  rcases he with rfl | rfl <;> rcases ht with rfl | rfl <;> simp [impl_power.f, impl_power.l0, wrap64]
theorem symOdd {p a b : Int} (h : OddP p) (ha : a ≠ 0) (hb : b ≠ 0) (hA : a.natAbs < 2 ^ 63) (hB : b.natAbs < 2 ^ 63) :
    sym a b p = (if (val p a * val p b) % 2 = 1 ∧ p % 4 = 3 then -1 else 1) * (if val p b % 2 = 1 then res p (unit p a) else 1) * (if val p a % 2 = 1 then res p (unit p b) else 1) := by
  have hp := h.2
  obtain ⟨_, a2, a3, _⟩ := val_spec (p := p) (by omega) ha hA
  obtain ⟨_, b2, b3, _⟩ := val_spec (p := p) (by omega) hb hB
  have ra := res_pm h (tmod_ne a2)
  have rb := res_pm h (tmod_ne b2)
  have pa := par_cases (val p a)
  have pb := par_cases (val p b)
  unfold sym symC code
  simp only [if_neg (show ¬ p = 0 by omega), if_neg (show ¬ p = 2 by omega), Int.mul_emod (val p a) (val p b) 2]
  rcases ra with r | r <;> rcases rb with s | s <;> rcases pa with ⟨q, q'⟩ | ⟨q, q'⟩ <;> rcases pb with ⟨t, t'⟩ | ⟨t, t'⟩ <;> rw [r, s, q, q', t, t'] <;> simp
theorem half_odd {p m : Int} (h : OddP p) (hm : 0 ≤ m) : ((m * (p - 1)).tdiv 2).tmod 2 = (if m % 2 = 1 ∧ p % 4 = 3 then 1 else 0) ∧ (m * ((p - 1).tdiv 2)).tmod 2 = (if m % 2 = 1 ∧ p % 4 = 3 then 1 else 0) := by
  have hp := h.2
  have ho := prime_odd h.1 hp.1
  have e1 : (p - 1).tdiv 2 = (p - 1) / 2 := tdiv2 (by omega)
  have e2 : m * (p - 1) = 2 * (m * ((p - 1) / 2)) := by
    rw [Int.mul_left_comm]; congr 1; omega
  have h1 : 0 ≤ m * ((p - 1) / 2) := Int.mul_nonneg hm (by omega)
  have e3 : (m * (p - 1)).tdiv 2 = m * ((p - 1) / 2) := by rw [e2]; exact Int.mul_tdiv_cancel_left _ (by omega)
  rw [e3, e1, Int.tmod_eq_emod_of_nonneg h1]
  have key : m * ((p - 1) / 2) % 2 = (if m % 2 = 1 ∧ p % 4 = 3 then 1 else 0) := by
    rw [Int.mul_emod]
    have hm2 : m % 2 = 0 ∨ m % 2 = 1 := by omega
    have hq : (p % 4 = 3 ∧ (p - 1) / 2 % 2 = 1) ∨ (p % 4 = 1 ∧ (p - 1) / 2 % 2 = 0) := by omega
    rcases hm2 with e | e <;> rcases hq with ⟨f, g⟩ | ⟨f, g⟩ <;> rw [e, f, g] <;> rfl
  exact ⟨key, key⟩
theorem two8 {x : Int} (h : x = 1 ∨ x = 3 ∨ x = 5 ∨ x = 7) : wrap64 (Int.tdiv (wrap64 (x - 1)) 2) = (x - 1) / 2 ∧ wrap64 (wrap64 (x * x) - 1) = 8 * ((x * x - 1) / 8) ∧ 0 ≤ (x - 1) / 2 ∧ (x - 1) / 2 ≤ 3 ∧ 0 ≤ (x * x - 1) / 8 ∧ (x * x - 1) / 8 ≤ 6 := by
  rcases h with rfl | rfl | rfl | rfl <;> decide +kernel
theorem two16 {u : Int} (h : u % 8 = 1 ∨ u % 8 = 3 ∨ u % 8 = 5 ∨ u % 8 = 7) : ∃ X1 X2, wrap64 (Int.tdiv (wrap64 (u % 16 - 1)) 2) = X1 ∧ wrap64 (Int.tdiv (wrap64 (wrap64 (u % 16 * (u % 16)) - 1)) 8) = X2 ∧
    0 ≤ X1 ∧ X1 ≤ 7 ∧ 0 ≤ X2 ∧ X2 ≤ 28 ∧ X1 % 2 = (u % 8 - 1) / 2 % 2 ∧ X2 % 2 = (u % 8 * (u % 8) - 1) / 8 % 2 := by
  have h2 : u % 16 = u % 8 ∨ u % 16 = u % 8 + 8 := by omega
  rcases h with h | h | h | h <;> rcases h2 with h2 | h2 <;> rw [h2, h] <;> exact ⟨_, _, rfl, rfl, by decide +kernel⟩
theorem par3 (X1 Y1 X2 Y2 i j : Int) : (X1 * Y1 + i * Y2 + j * X2) % 2 = ((X1 % 2) * (Y1 % 2) + i * (Y2 % 2) + j * (X2 % 2)) % 2 := by
  have h1 : (X1 * Y1) % 2 = ((X1 % 2) * (Y1 % 2)) % 2 := Int.mul_emod _ _ _
  have h2 : (i * Y2) % 2 = (i * (Y2 % 2)) % 2 := by rw [Int.mul_emod, Int.mul_emod i (Y2 % 2)]; simp
  have h3 : (j * X2) % 2 = (j * (X2 % 2)) % 2 := by rw [Int.mul_emod, Int.mul_emod j (X2 % 2)]; simp
  omega
theorem symTwo {a b : Int} (ha : a ≠ 0) (hb : b ≠ 0) (hA : a.natAbs < 2 ^ 63) (hB : b.natAbs < 2 ^ 63) :
    sym a b 2 = (if ((unit 2 a % 8 - 1) / 2 * ((unit 2 b % 8 - 1) / 2) + val 2 a * ((unit 2 b % 8 * (unit 2 b % 8) - 1) / 8) + val 2 b * ((unit 2 a % 8 * (unit 2 a % 8) - 1) / 8)) % 2 = 1 then -1 else 1) := by
  have ua := unit2 ha hA
  have ub := unit2 hb hB
  have pa := par_cases (val 2 a)
  have pb := par_cases (val 2 b)
  unfold sym code
  simp only [show ¬ (2 : Int) = 0 from by omega, if_false, if_true]
  rcases ua with h | h | h | h <;> rcases ub with h' | h' | h' | h' <;> rw [h, h'] <;>
    rcases pa with ⟨q, q'⟩ | ⟨q, q'⟩ <;> rcases pb with ⟨t, t'⟩ | ⟨t, t'⟩ <;> rw [q, t] <;>
    first
    | (rw [if_pos (by omega)]; decide)
    | (rw [if_neg (by omega)]; decide)
theorem implSymbol_ev {p a b : Int} (h : Plc p) (ha : a ≠ 0) (hb : b ≠ 0) (hA : a.natAbs < 2 ^ 63) (hB : b.natAbs < 2 ^ 63) : Ev (fun k => impl_symbol.f k a b p) (sym a b p) := by
  unfold impl_symbol.f
  rcases h with rfl | h
  · simp only [if_true]
    unfold sym symC code
    by_cases c1 : a < 0
    · by_cases c2 : b < 0
      · simp only [if_pos c1, if_pos c2]; exact Ev.now _
      · simp only [if_pos c1, if_neg c2]; exact Ev.now _
    · simp only [if_neg c1]
      by_cases c2 : b < 0
      · simp only [if_pos c2]; exact Ev.now _
      · simp only [if_neg c2]; exact Ev.now _
  · have hp := P7_bd h
    obtain ⟨_, a2, a3, a4, a5, a6, _⟩ := val_spec hp ha hA
    obtain ⟨_, b2, b3, b4, b5, b6, _⟩ := val_spec hp hb hB
    simp only [if_neg (show ¬ p = 0 by omega)]
    refine (split_ev hp ha hA).bind ((split_ev hp hb hB).bind ?_)
    simp only
    rcases h with rfl | h6
    · simp only [if_true, implRest_eq (a := unit 2 a) (m := 8) (by omega) (by omega) (by omega), implRest_eq (a := unit 2 b) (m := 8) (by omega) (by omega) (by omega), Option.bind_some]
      have ta := two8 (unit2 ha hA)
      have tb := two8 (unit2 hb hB)
      rw [symTwo ha hb hA hB]
      generalize unit 2 a % 8 = x at ta
      generalize unit 2 b % 8 = y at tb
      generalize val 2 a = i at a3 a4
      generalize val 2 b = j at b3 b4
      simp only [ta.1, tb.1, ta.2.1, tb.2.1]
      obtain ⟨_, _, x1, x2, x3, x4⟩ := ta
      obtain ⟨_, _, y1, y2, y3, y4⟩ := tb
      generalize (x - 1) / 2 = X1 at x1 x2
      generalize (y - 1) / 2 = Y1 at y1 y2
      generalize (x * x - 1) / 8 = X2 at x3 x4
      generalize (y * y - 1) / 8 = Y2 at y3 y4
      have m0 := Int.mul_nonneg x1 y1
      have M0 := mul_le2 x1 x2 y1 y2
      have m1 := Int.mul_nonneg a3 y3
      have M1 := mul_le2 a3 (show i ≤ 63 by omega) y3 y4
      have m2 := Int.mul_nonneg b3 x3
      have M2 := mul_le2 b3 (show j ≤ 63 by omega) x3 x4
      have d1 : i * (8 * Y2) = 8 * (i * Y2) := by rw [Int.mul_left_comm]
      have d2 : j * (8 * X2) = 8 * (j * X2) := by rw [Int.mul_left_comm]
      rw [d1, d2]
      generalize X1 * Y1 = A at m0 M0
      generalize i * Y2 = B at m1 M1
      generalize j * X2 = C at m2 M2
      have e1 : (8 * B).tdiv 8 = B := Int.mul_tdiv_cancel_left _ (by omega)
      have e2 : (8 * C).tdiv 8 = C := Int.mul_tdiv_cancel_left _ (by omega)
      simp only [w64 (x := A) (by omega) (by omega), w64 (x := 8 * B) (by omega) (by omega), w64 (x := 8 * C) (by omega) (by omega), e1, e2, w64 (x := B) (by omega) (by omega), w64 (x := C) (by omega) (by omega),
        w64 (x := A + B) (by omega) (by omega), w64 (x := A + B + C) (by omega) (by omega), Int.tmod_eq_emod_of_nonneg (show 0 ≤ A + B + C by omega)]
      refine (power_ev (t := -1) (e := (A + B + C) % 2) (by omega) (by omega)).bind ?_
      exact Ev.now _
    · have h2 := h6.2
      simp only [if_neg (show ¬ p = 2 by omega)]
      have ra := res_pm h6 (tmod_ne a2)
      have rb := res_pm h6 (tmod_ne b2)
      have ea := implResidue_ev h6 (u := unit p a) (by omega)
      have eb := implResidue_ev h6 (u := unit p b) (by omega)
      rw [symOdd h6 ha hb hA hB]
      generalize res p (unit p a) = r at ra ea
      generalize res p (unit p b) = s at rb eb
      have m1 := Int.mul_nonneg a3 b3
      have M1 := mul_le2 a3 (show val p a ≤ 63 by omega) b3 (show val p b ≤ 63 by omega)
      have m2 := Int.mul_nonneg m1 (show 0 ≤ p - 1 by omega)
      have M2 := mul_le2 m1 (show val p a * val p b ≤ 4000 by omega) (show 0 ≤ p - 1 by omega) (show p - 1 ≤ 4999 by omega)
      have hh := (half_odd h6 m1).1
      have e1 : (val p b).tmod 2 = val p b % 2 := Int.tmod_eq_emod_of_nonneg b3
      have e2 : (val p a).tmod 2 = val p a % 2 := Int.tmod_eq_emod_of_nonneg a3
      have ht := tdiv2 m2
      simp only [w64 (x := val p a * val p b) (by omega) (by omega), w64 (x := p - 1) (by omega) (by omega), w64 (x := val p a * val p b * (p - 1)) (by omega) (by omega), w64 (x := (val p a * val p b * (p - 1)).tdiv 2) (by omega) (by omega), hh, e1, e2]
      refine (power_ev (t := -1) (by split <;> simp) (by omega)).bind (ea.bind ((power_ev (t := r) (e := val p b % 2) (by omega) (by omega)).bind (eb.bind ((power_ev (t := s) (e := val p a % 2) (by omega) (by omega)).bind ?_))))
      have w1 : ∀ x : Int, x = 1 ∨ x = -1 → wrap64 x = x := fun x hx => w64 (by omega) (by omega)
      have f1 : ∀ c : Prop, ∀ _ : Decidable c, (if (if c then (1 : Int) else 0) = 1 then (-1 : Int) else 1) = if c then -1 else 1 := by intro c _; split <;> simp
      rw [f1]
      generalize hX : (if (val p a * val p b) % 2 = 1 ∧ p % 4 = 3 then (-1 : Int) else 1) = X
      generalize hY : (if val p b % 2 = 1 then r else 1) = Y
      generalize hZ : (if val p a % 2 = 1 then s else 1) = Z
      have gX : X = 1 ∨ X = -1 := by rw [← hX]; split <;> simp
      have gY : Y = 1 ∨ Y = -1 := by rw [← hY]; split <;> omega
      have gZ : Z = 1 ∨ Z = -1 := by rw [← hZ]; split <;> omega
      have e3 : wrap64 (wrap64 (X * Y) * Z) = X * Y * Z := by rcases gX with rfl | rfl <;> rcases gY with rfl | rfl <;> rcases gZ with rfl | rfl <;> decide +kernel
      rw [e3]; exact Ev.now _

/-! ### forms -/
theorem implFormValid_l (xs : List Int) (hx : ∀ x ∈ xs, x.natAbs ≤ 1000000) (hl : xs.length ≤ 100) : ∀ (d j : Nat), j + d = xs.length →
    Ev (fun k => impl_FormValid.l0 k xs xs (xs.length : Int) j) ((xs.drop j).all (fun x => decide (x ≠ 0) && decide (x.natAbs ≤ 30)) && (decide (1 ≤ xs.length) && decide (xs.length ≤ 4))) := by
  intro d
  induction d with
  | zero =>
    intro j hj
    rw [List.drop_of_length_le (by omega)]
    refine Ev.step (f := fun _ => some (decide (1 ≤ xs.length) && decide (xs.length ≤ 4))) (fun k => ?_) (by simpa using Ev.now _)
    simp only [impl_FormValid.l0]
    rw [if_neg (by omega)]
    by_cases c : 1 ≤ xs.length
    · rw [if_pos (by omega), decide_eq_true c, Bool.true_and]; congr 1; exact decide_eq_decide.2 (by omega)
    · rw [if_neg (by omega), decide_eq_false c, Bool.false_and]
  | succ d ih =>
    intro j hj
    have hm := hx _ (rd_mem (xs := xs) (j := j) (by omega))
    rw [rd_drop (show j < xs.length by omega)]
    have := ih (j + 1) (by omega)
    generalize hp : rd xs (j : Int) = p at hm
    rw [List.all_cons]
    by_cases c0 : p = 0
    · rw [decide_eq_false (by omega : ¬ p ≠ 0), Bool.false_and, Bool.false_and, Bool.false_and]
      refine Ev.step (f := fun _ => some false) (fun k => ?_) (Ev.now _)
      simp only [impl_FormValid.l0]
      rw [if_pos (by omega), if_pos (by omega), if_pos (by omega), hp, if_pos c0]
    · have hs : impl_size.f p = some (absI p) := by simp only [impl_size.f]; rw [size_ev (by omega) (by omega)]
      by_cases c : p.natAbs ≤ 30
      · rw [decide_eq_true c0, decide_eq_true c, Bool.true_and, Bool.true_and]
        refine Ev.step (fun k => ?_) this
        simp only [impl_FormValid.l0]
        rw [if_pos (by omega), if_pos (by omega), if_pos (by omega), hp, if_neg c0, hs, Option.bind_some, if_neg (by unfold absI; omega), w64 (x := (j : Int) + 1) (by omega) (by omega)]
        rfl
      · rw [decide_eq_false c, Bool.and_false, Bool.false_and, Bool.false_and]
        refine Ev.step (f := fun _ => some false) (fun k => ?_) (Ev.now _)
        simp only [impl_FormValid.l0]
        rw [if_pos (by omega), if_pos (by omega), if_pos (by omega), hp, if_neg c0, hs, Option.bind_some, if_pos (by unfold absI; omega)]
theorem implFormValid_ev {xs : List Int} (hx : ∀ x ∈ xs, x.natAbs ≤ 1000000) (hl : xs.length ≤ 100) : Ev (fun k => impl_FormValid.f k xs) (formOk xs) :=
  implFormValid_l xs hx hl xs.length 0 (by omega)
theorem specIn_eq (x a b : Int) : spec_l6In.f x a b = some (decide (a ≤ x) && decide (x ≤ b)) := by
  unfold spec_l6In.f
  by_cases c : x ≥ a
  · simp [c, show a ≤ x from c]
  · simp [c, show ¬ a ≤ x from c]
theorem pow30 {j : Nat} (h : j ≤ 5) : 30 ^ j ≤ 24300000 := by
  have : 30 ^ j ≤ 30 ^ 5 := Nat.pow_le_pow_right (by omega) h
  omega
theorem implProduct_l (xs : List Int) (hx : ∀ x ∈ xs, Sm x) (hl : xs.length ≤ 5) : ∀ (d j : Nat) (acc : Int), j + d = xs.length → acc.natAbs ≤ 30 ^ j →
    Ev (fun k => impl_product.l0 k acc xs (xs.length : Int) j) (prodF (xs.drop j) acc) := by
  intro d
  induction d with
  | zero =>
    intro j acc hj hA
    rw [List.drop_of_length_le (by omega)]
    refine Ev.step (f := fun _ => some acc) (fun k => ?_) (Ev.now _)
    simp only [impl_product.l0]
    rw [if_neg (by omega)]
  | succ d ih =>
    intro j acc hj hA
    have hm := hx _ (rd_mem (xs := xs) (j := j) (by omega))
    rw [rd_drop (show j < xs.length by omega)]
    have h2 : (acc * rd xs j).natAbs ≤ 30 ^ (j + 1) := by rw [Int.natAbs_mul, Nat.pow_succ]; exact Nat.mul_le_mul hA hm.2
    have h3 := pow30 (show j + 1 ≤ 5 by omega)
    refine Ev.step (fun k => ?_) (ih (j + 1) (acc * rd xs j) (by omega) h2)
    simp only [impl_product.l0]
    rw [if_pos (by omega), if_pos (by omega), if_pos (by omega), w64 (x := acc * rd xs j) (by omega) (by omega), w64 (x := (j : Int) + 1) (by omega) (by omega)]
    rfl
theorem implProduct_ev {xs : List Int} (hx : ∀ x ∈ xs, Sm x) (hl : xs.length ≤ 5) : Ev (fun k => impl_product.f k xs) (prod xs) :=
  implProduct_l xs hx hl xs.length 0 1 (by omega) (by simp)
theorem implLess_l (xs : List Int) (hl : xs.length ≤ 100) : ∀ (d j : Nat) (acc : Int), j + d = xs.length → 0 ≤ acc → acc ≤ j →
    Ev (fun k => impl_lessTerms.l0 k acc xs (xs.length : Int) j) (lessF (xs.drop j) acc) := by
  intro d
  induction d with
  | zero =>
    intro j acc hj h0 hA
    rw [List.drop_of_length_le (by omega)]
    refine Ev.step (f := fun _ => some acc) (fun k => ?_) (Ev.now _)
    simp only [impl_lessTerms.l0]
    rw [if_neg (by omega)]
  | succ d ih =>
    intro j acc hj h0 hA
    rw [rd_drop (show j < xs.length by omega)]
    simp only [lessF]
    by_cases c : rd xs j < 0
    · simp only [if_pos c]
      refine Ev.step (fun k => ?_) (ih (j + 1) (acc + 1) (by omega) (by omega) (by omega))
      simp only [impl_lessTerms.l0]
      rw [if_pos (by omega), if_pos (by omega), if_pos (by omega), if_pos c, w64 (x := acc + 1) (by omega) (by omega), w64 (x := (j : Int) + 1) (by omega) (by omega)]
      rfl
    · simp only [if_neg c]
      refine Ev.step (fun k => ?_) (ih (j + 1) acc (by omega) (by omega) (by omega))
      simp only [impl_lessTerms.l0]
      rw [if_pos (by omega), if_pos (by omega), if_pos (by omega), if_neg c, w64 (x := (j : Int) + 1) (by omega) (by omega)]
      rfl
theorem implLess_ev {xs : List Int} (hl : xs.length ≤ 100) : Ev (fun k => impl_lessTerms.f k xs) (less xs) := implLess_l xs hl xs.length 0 0 (by omega) (by omega) (by omega)
theorem rd_take {xs : List Int} {i j : Nat} (h : j < i) : rd (xs.take i) (j : Int) = rd xs (j : Int) := by
  simp [rd, List.getElem?_take, h]
theorem implInn_l {p : Int} (hp : Plc p) (xs : List Int) (hx : ∀ x ∈ xs, Sm x) (hl : xs.length ≤ 5) (i : Nat) (hi : i < xs.length) (v : Int) : ∀ (d j : Nat) (acc : Int), j + d = i → (acc = 1 ∨ acc = -1) →
    Ev (fun k => impl_invariant.l0 k xs p (inn p (rd xs i) ((xs.take i).drop j) acc) xs (xs.length : Int) ((i + 1 : Nat) : Int)) v →
    Ev (fun k => impl_invariant.l1 k xs p acc (rd xs i) xs (xs.length : Int) i (xs.take ((i : Nat) : Int).toNat) ((xs.take ((i : Nat) : Int).toNat).length : Int) j) v := by
  have hlen : (xs.take ((i : Nat) : Int).toNat).length = i := by simp; omega
  intro d
  induction d with
  | zero =>
    intro j acc hj hA hv
    rw [List.drop_of_length_le (by simp; omega)] at hv
    refine Ev.step (fun k => ?_) hv
    simp only [impl_invariant.l1]
    rw [if_neg (by omega), w64 (x := (i : Int) + 1) (by omega) (by omega)]
    rfl
  | succ d ih =>
    intro j acc hj hA hv
    rw [rd_drop (show j < (xs.take i).length by simp; omega), rd_take (by omega)] at hv
    have hm := hx _ (rd_mem (xs := xs) (j := j) (by omega))
    have hm2 := hx _ (rd_mem (xs := xs) (j := i) (by omega))
    have hs := implSymbol_ev hp hm2.1 hm.1 (by have := hm2.2; omega) (by have := hm.2; omega)
    have hpm := pm_mul hA (sym_pm (rd xs i) (rd xs j) p)
    have := ih (j + 1) (acc * sym (rd xs i) (rd xs j) p) (by omega) hpm.1 hv
    refine Ev.step (f := fun k => (impl_symbol.f k (rd xs i) (rd xs j) p).bind fun t127 => (impl_invariant.l1 k xs p (wrap64 (acc * t127)) (rd xs i) xs (xs.length : Int) i (xs.take ((i : Nat) : Int).toNat) ((xs.take ((i : Nat) : Int).toNat).length : Int) ((j + 1 : Nat) : Int))) (fun k => ?_) ?_
    · simp only [impl_invariant.l1]
      rw [if_pos (by omega), if_pos (by omega), if_pos (by omega), show rd (xs.take ((i : Nat) : Int).toNat) (j : Int) = rd xs (j : Int) from rd_take (by omega), w64 (x := (j : Int) + 1) (by omega) (by omega)]
      rfl
    · refine hs.bind ?_
      rw [hpm.2]
      exact this
theorem take_rd {xs : List Int} {i : Nat} (h : i < xs.length) : xs.take (i + 1) = xs.take i ++ [rd xs (i : Int)] := by
  rw [List.take_add_one]; simp [rd, List.getElem?_eq_getElem h]
theorem implInv_l {p : Int} (hp : Plc p) (xs : List Int) (hx : ∀ x ∈ xs, Sm x) (hl : xs.length ≤ 5) : ∀ (d i : Nat) (acc : Int), i + d = xs.length → (acc = 1 ∨ acc = -1) →
    Ev (fun k => impl_invariant.l0 k xs p acc xs (xs.length : Int) i) (outr p (xs.take i) (xs.drop i) acc) := by
  intro d
  induction d with
  | zero =>
    intro i acc hi hA
    rw [List.drop_of_length_le (by omega)]
    refine Ev.step (f := fun _ => some acc) (fun k => ?_) (Ev.now _)
    simp only [impl_invariant.l0]
    rw [if_neg (by omega)]
  | succ d ih =>
    intro i acc hi hA
    rw [rd_drop (show i < xs.length by omega)]
    simp only [outr]
    rw [← take_rd (by omega)]
    have h1 := ih (i + 1) (inn p (rd xs i) (xs.take i) acc) (by omega) (inn_pm _ _ _ _ hA)
    have h2 := implInn_l hp xs hx hl i (by omega) _ i 0 acc (by omega) hA h1
    refine Ev.step (fun k => ?_) h2
    simp only [impl_invariant.l0]
    rw [if_pos (by omega), if_pos (by omega), if_pos (by omega), if_pos (by omega)]
    rfl
theorem implInv_ev {p : Int} (hp : Plc p) {xs : List Int} (hx : ∀ x ∈ xs, Sm x) (hl : xs.length ≤ 5) : Ev (fun k => impl_invariant.f k xs p) (inv xs p) :=
  implInv_l hp xs hx hl xs.length 0 1 (by omega) (by omega)

/-! ### forms vanish -/
theorem sm_neg {n : Int} (h : n ≠ 0 ∧ n.natAbs ≤ 24300000) : wrap64 (-n) = -n ∧ -n ≠ 0 ∧ (-n).natAbs < 2 ^ 63 := ⟨w64 (by omega) (by omega), by omega, by omega⟩
theorem implVan_ev {p : Int} (hp : Plc p) {xs : List Int} (hx : ∀ x ∈ xs, Sm x) (hl : xs.length ≤ 5) : Ev (fun k => impl_vanishes.f k xs p) (van xs p) := by
  unfold impl_vanishes.f van
  have hb := prod_bd4 hx hl
  have hn := sm_neg hb
  refine (implProduct_ev hx hl).bind ?_
  by_cases c0 : p = 0
  · simp only [if_pos c0]
    refine (implLess_ev (by omega)).bind ?_
    by_cases c : less xs > 0
    · simp only [if_pos c, decide_eq_true c, Bool.true_and]; exact Ev.now _
    · simp only [if_neg c, decide_eq_false c, Bool.false_and]; exact Ev.now _
  · simp only [if_neg c0, hn.1]
    by_cases c2 : (xs.length : Int) = 2
    · simp only [if_pos c2]
      refine (implSq_ev hp hn.2.1 hn.2.2).bind ?_
      exact Ev.now _
    · simp only [if_neg c2]
      by_cases c3 : (xs.length : Int) = 3
      · simp only [if_pos c3]
        refine (implInv_ev hp hx hl).bind ((implSymbol_ev hp (by omega) hn.2.1 (by omega) hn.2.2).bind ?_)
        exact Ev.now _
      · simp only [if_neg c3]
        by_cases c4 : (xs.length : Int) = 4
        · simp only [if_pos c4]
          refine (implSq_ev hp hb.1 (by omega)).bind ?_
          by_cases c5 : sqAt (prod xs) p = true
          · simp only [c5, if_true, Bool.not_true, Bool.false_or]
            refine (implInv_ev hp hx hl).bind ((implSymbol_ev hp (by omega) (by omega) (by omega) (by omega)).bind ?_)
            exact Ev.now _
          · simp only [Bool.eq_false_iff.2 c5, Bool.false_eq_true, if_false, Bool.not_false, Bool.true_or]; exact Ev.now _
        · simp only [if_neg c4]; exact Ev.now _
/-! ### places -/

/-! ### cores -/
theorem implCoreIn_l {q : Int} (hq : 2 ≤ q) (hQ : q ≤ 1000000000) (qs : List Int) (i : Nat) (hi : i ≤ 1000000000) (v : Int × Int) : ∀ (d : Nat) (n r : Int), n ≠ 0 → n.natAbs < 2 ^ d → d ≤ 63 → 1 ≤ r → (n * (r * r)).natAbs ≤ 1000000000 →
    Ev (fun k => impl_coreOf.l0 k (coreW q d n r).1 (coreW q d n r).2 qs (qs.length : Int) ((i + 1 : Nat) : Int)) v →
    Ev (fun k => impl_coreOf.l1 k n r q qs (qs.length : Int) i) v := by
  intro d
  have hqq : 4 ≤ q * q := by have := sq_le (show (0 : Int) ≤ 2 by omega) hq; omega
  have hqQ : q * q ≤ 1000000000 * 1000000000 := sq_le (by omega) hQ
  induction d with
  | zero => intro n r hn h; simp at h; omega
  | succ d ih =>
    intro n r hn h hd hr hb hv
    have hnb : n.natAbs ≤ 1000000000 := by
      have h1 : r * r ≠ 0 := Int.mul_ne_zero (by omega) (by omega)
      have := mul_natAbs_le (a := n) h1; omega
    simp only [coreW] at hv
    by_cases c : n.tmod (q * q) = 0
    · rw [if_pos c] at hv
      obtain ⟨h1, h2, h3⟩ := sq_div hq hn c
      have hrq : 1 ≤ r * q := by have := Int.mul_le_mul hr (show (1 : Int) ≤ q by omega) (by omega) (by omega); omega
      have e : n * (r * r) = n.tdiv (q * q) * ((r * q) * (r * q)) := by
        conv => lhs; rw [h2]
        grind
      have hrqb : (r * q).natAbs ≤ 1000000000 := by
        have h4 : (n.tdiv (q * q) * ((r * q) * (r * q))).natAbs ≤ 1000000000 := by rw [← e]; exact hb
        rw [Int.natAbs_mul, Int.natAbs_mul] at h4
        have h5 : 1 ≤ (n.tdiv (q * q)).natAbs := by omega
        have h6 : (r * q).natAbs ≤ (r * q).natAbs * (r * q).natAbs := Nat.le_mul_of_pos_left _ (by omega)
        have h7 := Nat.le_mul_of_pos_left ((r * q).natAbs * (r * q).natAbs) h5
        omega
      refine Ev.step (fun k => ?_) (ih (n.tdiv (q * q)) (r * q) h1 (by rw [Nat.pow_succ] at h; omega) (by omega) hrq (by rw [← e]; exact hb) hv)
      simp only [impl_coreOf.l1]
      rw [w64 (x := q * q) (by omega) (by omega), if_neg (by omega), if_pos c, w64 (x := n.tdiv (q * q)) (by omega) (by omega), w64 (x := r * q) (by omega) (by omega)]
    · rw [if_neg c] at hv
      refine Ev.step (fun k => ?_) hv
      simp only [impl_coreOf.l1]
      rw [w64 (x := q * q) (by omega) (by omega), if_neg (by omega), if_neg c, w64 (x := (i : Int) + 1) (by omega) (by omega)]
      rfl
theorem coreW_more {q : Int} (hq : 2 ≤ q) : ∀ (d e : Nat) (n r : Int), n ≠ 0 → n.natAbs < 2 ^ d → d ≤ e → coreW q e n r = coreW q d n r := by
  intro d
  induction d with
  | zero => intro e n r hn h; simp at h; omega
  | succ d ih =>
    intro e n r hn h he
    obtain ⟨e, rfl⟩ : ∃ m, e = m + 1 := ⟨e - 1, by omega⟩
    simp only [coreW]
    by_cases c : n.tmod (q * q) = 0
    · rw [if_pos c, if_pos c]
      obtain ⟨h1, h2, h3⟩ := sq_div hq hn c
      exact ih e _ _ h1 (by rw [Nat.pow_succ] at h; omega) (by omega)
    · rw [if_neg c, if_neg c]
theorem implCore_l (qs : List Int) (hq : ∀ q ∈ qs, 2 ≤ q ∧ q ≤ 1000000000) (hl : qs.length ≤ 1000000000) : ∀ (d j : Nat) (n r : Int), j + d = qs.length → n ≠ 0 → 1 ≤ r → (n * (r * r)).natAbs ≤ 1000000000 →
    Ev (fun k => impl_coreOf.l0 k n r qs (qs.length : Int) j) (coreLs (qs.drop j) n r) := by
  intro d
  induction d with
  | zero =>
    intro j n r hj hn hr hb
    rw [List.drop_of_length_le (by omega)]
    refine Ev.step (f := fun _ => some (n, r)) (fun k => ?_) (Ev.now _)
    simp only [impl_coreOf.l0]
    rw [if_neg (by omega)]
  | succ d ih =>
    intro j n r hj hn hr hb
    have hm := hq _ (rd_mem (xs := qs) (j := j) (by omega))
    rw [rd_drop (show j < qs.length by omega)]
    simp only [coreLs]
    have hnb : n.natAbs ≤ 1000000000 := by
      have h1 : r * r ≠ 0 := Int.mul_ne_zero (by omega) (by omega)
      have := mul_natAbs_le (a := n) h1; omega
    obtain ⟨g1, g2, g3, g4, g5⟩ := coreW_spec hm.1 64 n r hn (by omega) hr
    have h63 : n.natAbs < 2 ^ 63 := by omega
    have e := coreW_more hm.1 63 64 n r hn h63 (by omega)
    have := implCoreIn_l hm.1 hm.2 qs j (by omega) (coreLs (qs.drop (j + 1)) (coreW (rd qs (j : Int)) 64 n r).1 (coreW (rd qs (j : Int)) 64 n r).2) 63 n r hn h63 (by omega) hr hb (by
      rw [← e]
      exact ih (j + 1) _ _ (by omega) g1 g2 (by rw [← g3]; exact hb))
    refine Ev.step (fun k => ?_) this
    simp only [impl_coreOf.l0]
    rw [if_pos (by omega), if_pos (by omega), if_pos (by omega)]
theorem primes_le {n q : Int} (hn : n ≠ 0) (h : n.natAbs < 2 ^ 63) (hq : q ∈ primes n) : 2 ≤ q ∧ q.natAbs ≤ n.natAbs := by
  obtain ⟨h1, h2⟩ := (primes_iff hn h).1 hq
  exact ⟨h1.1, Nat.le_of_dvd (by omega) (Int.natAbs_dvd_natAbs.2 h2)⟩
theorem implCore_ev {n : Int} (hn : n ≠ 0) (h : n.natAbs ≤ 100000000) : Ev (fun k => impl_coreOf.f k n) (coreF n) := by
  unfold impl_coreOf.f
  refine (primesOf_ev hn (by omega)).bind ?_
  have hp := primes_len n
  exact implCore_l (primes n) (fun q hq => by have := primes_le hn (by omega) hq; omega) (by omega) (primes n).length 0 n 1 (by omega) hn (by omega) (by simpa using by omega)
theorem specSize_eq {n : Int} (h : n.natAbs < 2 ^ 63) : spec_l1Size.f n = some (absI n) := by
  unfold spec_l1Size.f
  first
  | rw [size_ev (n := n) (by omega) (by omega)]
  | rw [Int.zero_sub, size_ev (n := n) (by omega) (by omega)]
/-- The core as the reference tells it, of 0 too. -/
def coreZ (n : Int) : Int × Int := if n = 0 then (0, 1) else coreF n

/-! ### places of forms -/
theorem index_l (xs : List Int) (v : Int) (hl : xs.length ≤ 1000000) : ∀ (d j : Nat), j + d = xs.length →
    Ev (fun k => slices_Index_int_int.l0 k xs v (xs.length : Int) j) (if (xs.drop j).contains v then (j + (xs.drop j).findIdx (· == v) : Int) else -1) := by
  intro d
  induction d with
  | zero =>
    intro j hj
    rw [List.drop_of_length_le (by omega)]
    refine Ev.step (f := fun _ => some (-1)) (fun k => ?_) (by simpa using Ev.now _)
    simp only [slices_Index_int_int.l0]
    rw [if_neg (by omega)]
  | succ d ih =>
    intro j hj
    rw [rd_drop (show j < xs.length by omega)]
    by_cases c : v = rd xs (j : Int)
    · have e : (if (rd xs (j : Int) :: xs.drop (j + 1)).contains v then ((j : Int) + ((rd xs (j : Int) :: xs.drop (j + 1)).findIdx (· == v) : Int)) else -1) = (j : Int) := by
        rw [← c, List.findIdx_cons, beq_self_eq_true]; simp
      rw [e]
      refine Ev.step (f := fun _ => some (j : Int)) (fun k => ?_) (Ev.now _)
      simp only [slices_Index_int_int.l0]
      rw [if_pos (by omega), if_pos (by omega), if_pos (by omega), if_pos c]
    · have h2 := ih (j + 1) (by omega)
      have e : (if (rd xs (j : Int) :: xs.drop (j + 1)).contains v then ((j : Int) + ((rd xs (j : Int) :: xs.drop (j + 1)).findIdx (· == v) : Int)) else -1) = (if (xs.drop (j + 1)).contains v then (((j + 1 : Nat) : Int) + ((xs.drop (j + 1)).findIdx (· == v) : Int)) else -1) := by
        rw [List.contains_cons, List.findIdx_cons, show (v == rd xs (j : Int)) = false from by simpa using c, show (rd xs (j : Int) == v) = false from by simpa using fun h => c h.symm]
        simp only [Bool.false_or, cond_false]
        split
        · omega
        · rfl
      rw [e]
      refine Ev.step (fun k => ?_) h2
      simp only [slices_Index_int_int.l0]
      rw [if_pos (by omega), if_pos (by omega), if_pos (by omega), if_neg c, w64 (x := (j : Int) + 1) (by omega) (by omega)]
      rfl
theorem contains_ev (xs : List Int) (v : Int) (hl : xs.length ≤ 1000000) : Ev (fun k => slices_Contains_int_int.f k xs v) (xs.contains v) := by
  unfold slices_Contains_int_int.f slices_Index_int_int.f
  refine (index_l xs v hl xs.length 0 (by omega)).bind ?_
  rw [List.drop_zero]
  by_cases c : xs.contains v = true
  · rw [if_pos c, c]
    have : decide ((((0 : Nat) : Int) + ((xs.findIdx (· == v) : Nat) : Int)) ≥ 0) = true := decide_eq_true (by omega)
    rw [this]; exact Ev.now _
  · rw [if_neg c, Bool.eq_false_iff.2 c]; exact Ev.now _
theorem placesIn_l (xs : List Int) (i : Nat) (hi : i < xs.length) (hx5 : xs.length ≤ 100) (ps : List Int) (hp : ps.length ≤ 1000) (v : List Int) : ∀ (d j : Nat) (out : List Int), j + d = ps.length → out.length ≤ 5000 + j →
    Ev (fun k => impl_placesOf.l0 k (addP out (ps.drop j)) xs (xs.length : Int) ((i + 1 : Nat) : Int)) v →
    Ev (fun k => impl_placesOf.l1 k out xs (xs.length : Int) i ps (ps.length : Int) j) v := by
  intro d
  induction d with
  | zero =>
    intro j out hj ho hv
    rw [List.drop_of_length_le (by omega)] at hv
    refine Ev.step (fun k => ?_) hv
    simp only [impl_placesOf.l1]
    rw [if_neg (by omega), w64 (x := (i : Int) + 1) (by omega) (by omega)]
    rfl
  | succ d ih =>
    intro j out hj ho hv
    rw [rd_drop (show j < ps.length by omega)] at hv
    simp only [addP] at hv
    apply Ev.step
    · intro k
      simp only [impl_placesOf.l1]
      rw [if_pos (by omega), if_pos (by omega), if_pos (by omega), w64 (x := (j : Int) + 1) (by omega) (by omega)]
    · refine (contains_ev out (rd ps (j : Int)) (by omega)).bind ?_
      by_cases c : out.contains (rd ps (j : Int)) = true
      · rw [if_pos c] at hv
        simp only [if_pos c]
        exact ih (j + 1) out (by omega) (by omega) hv
      · rw [if_neg c] at hv
        simp only [if_neg c, if_pos (show out.length < 17592186044416 by omega)]
        exact ih (j + 1) (out ++ [rd ps (j : Int)]) (by omega) (by simp; omega) hv
theorem sort_eq (l : List Int) (h1 : 1 ≤ l.length) (h2 : l.length ≤ 1000000) : slices_Sort_int_int.f l = some (sortI l) := by
  unfold slices_Sort_int_int.f sortI; rw [if_pos ⟨h1, by omega⟩]
theorem addAll_len : ∀ (xs out : List Int), (∀ x ∈ xs, Sm x) → out.Nodup → out.length ≤ (addAll out xs).length ∧ (addAll out xs).length ≤ out.length + 40 * xs.length
  | [], out, _, _ => by simp [addAll]
  | x :: xs, out, hx, h => by
    simp only [addAll, List.length_cons]
    obtain ⟨h1, h2, h3⟩ := addP_spec (primes x) out h
    have ih := addAll_len xs (addP out (primes x)) (fun y hy => hx y (by simp [hy])) h1
    have hp := primes_len x
    have hs := (hx x (by simp)).2
    have hle : out.length ≤ (addP out (primes x)).length := by
      have : ∀ (qs o : List Int), o.length ≤ (addP o qs).length := by
        intro qs
        induction qs with
        | nil => intro o; simp [addP]
        | cons q qs ih => intro o; simp only [addP]; split; exact ih o; have := ih (o ++ [q]); simp at this; omega
      exact this _ _
    omega
theorem placesOut_l (xs : List Int) (hx : ∀ x ∈ xs, Sm x) (hl : xs.length ≤ 100) : ∀ (d i : Nat) (out : List Int), i + d = xs.length → out.Nodup → 1 ≤ out.length → out.length ≤ 10 + 40 * i →
    Ev (fun k => impl_placesOf.l0 k out xs (xs.length : Int) i) (sortI (addAll out (xs.drop i))) := by
  intro d
  induction d with
  | zero =>
    intro i out hi hn h1 h2
    rw [List.drop_of_length_le (by omega)]
    refine Ev.step (f := fun _ => some (sortI out)) (fun k => ?_) (Ev.now _)
    simp only [impl_placesOf.l0]
    rw [if_neg (by omega), sort_eq out h1 (by omega)]; rfl
  | succ d ih =>
    intro i out hi hn h1 h2
    have hm := hx _ (rd_mem (xs := xs) (j := i) (by omega))
    rw [rd_drop (show i < xs.length by omega)]
    simp only [addAll]
    have hs := hm.2
    have hpl := primes_len (rd xs (i : Int))
    obtain ⟨a1, a2, a3⟩ := addP_spec (primes (rd xs (i : Int))) out hn
    have a4 := (addAll_len [rd xs (i : Int)] out (by intro x hx; rw [List.mem_singleton.1 hx]; exact hm) hn)
    simp only [addAll, List.length_cons, List.length_nil] at a4
    apply Ev.step
    · intro k
      simp only [impl_placesOf.l0]
      rw [if_pos (by omega), if_pos (by omega), if_pos (by omega)]
    · refine (primesOf_ev hm.1 (by omega)).bind ?_
      refine placesIn_l xs i (by omega) (by omega) (primes (rd xs (i : Int))) (by omega) _ (primes (rd xs (i : Int))).length 0 out (by omega) (by omega) ?_
      rw [List.drop_zero]
      exact ih (i + 1) _ (by omega) a1 (by omega) (by omega)
theorem placesOf_ev {xs : List Int} (hx : ∀ x ∈ xs, Sm x) (hl : xs.length ≤ 100) : Ev (fun k => impl_placesOf.f k xs) (plc xs) := by
  rw [← sortI_plc hx]
  exact placesOut_l xs hx hl xs.length 0 [0, 2] (by omega) (by decide) (by simp) (by simp)
theorem plc_len (xs : List Int) : (plc xs).length ≤ 11 := by unfold plc; exact List.length_filter_le _ _
theorem implFormPlaces_ev {xs : List Int} (h31 : ∀ x ∈ xs, x.natAbs ≤ 1000000) (hl : xs.length ≤ 100) : Ev (fun k => impl_FormPlaces.f k xs) (if formOk xs = true then plc xs else []) := by
  unfold impl_FormPlaces.f
  refine (implFormValid_ev (xs := xs) h31 (by omega)).bind ?_
  by_cases c : formOk xs = true
  · simp only [if_pos c]
    have hk := formOk_iff.1 c
    exact (placesOf_ev hk.1 (by omega)).bind (f := fun _ t => some t) (Ev.now _)
  · simp only [if_neg c]; exact Ev.now _

/-! ### bad places of a form -/
theorem implBad_l {xs : List Int} (hx : ∀ x ∈ xs, Sm x) (hl : xs.length ≤ 5) (ps : List Int) (hp : ∀ p ∈ ps, Plc p) (h11 : ps.length ≤ 100) : ∀ (d j : Nat) (out : List Int), j + d = ps.length → out.length ≤ j →
    Ev (fun k => impl_FormBad.l0 k xs out ps (ps.length : Int) j) (out ++ (ps.drop j).filter (fun p => !van xs p)) := by
  intro d
  induction d with
  | zero =>
    intro j out hj ho
    rw [List.drop_of_length_le (by omega)]
    refine Ev.step (f := fun _ => some out) (fun k => ?_) (by simpa using Ev.now _)
    simp only [impl_FormBad.l0]
    rw [if_neg (by omega)]
  | succ d ih =>
    intro j out hj ho
    have hP := hp _ (rd_mem (xs := ps) (j := j) (by omega))
    rw [rd_drop (show j < ps.length by omega)]
    apply Ev.step
    · intro k
      simp only [impl_FormBad.l0]
      rw [if_pos (by omega), if_pos (by omega), if_pos (by omega), w64 (x := (j : Int) + 1) (by omega) (by omega)]
    · refine (implVan_ev hP hx hl).bind ?_
      by_cases c : van xs (rd ps (j : Int)) = true
      · rw [List.filter_cons_of_neg (by simp [c])]
        simp only [if_pos c]
        exact ih (j + 1) out (by omega) (by omega)
      · have := ih (j + 1) (out ++ [rd ps (j : Int)]) (by omega) (by simp; omega)
        rw [List.append_assoc, List.singleton_append] at this
        rw [List.filter_cons_of_pos (by simp [c])]
        simp only [if_neg c, if_pos (show out.length < 17592186044416 by omega)]
        exact this
theorem implFormBad_ev {xs : List Int} (h31 : ∀ x ∈ xs, x.natAbs ≤ 1000000) (hl : xs.length ≤ 100) : Ev (fun k => impl_FormBad.f k xs) (if formOk xs = true then bad xs else []) := by
  unfold impl_FormBad.f
  have e1 := implFormPlaces_ev h31 hl
  by_cases c : formOk xs = true
  · have hk := formOk_iff.1 c
    rw [if_pos c] at e1 ⊢
    have := plc_len xs
    first
    | exact e1.bind (implBad_l hk.1 (by omega) (plc xs) (fun p hp => plc_plc hp) (by omega) (plc xs).length 0 [] (by omega) (by simp))
    | (simp only [Option.bind_some]; exact e1.bind (implBad_l hk.1 (by omega) (plc xs) (fun p hp => plc_plc hp) (by omega) (plc xs).length 0 [] (by omega) (by simp)))
  · rw [if_neg c] at e1 ⊢
    have z : Ev (fun k => impl_FormBad.l0 k xs [] [] (([] : List Int).length : Int) 0) ([] : List Int) := Ev.step (f := fun _ => some []) (fun k => by simp [impl_FormBad.l0]) (Ev.now _)
    first
    | exact e1.bind z
    | (simp only [Option.bind_some]; exact e1.bind z)

/-! ### planes everywhere -/
theorem plc_cons (xs : List Int) : ∃ l, plc xs = 0 :: l := by
  unfold plc PP
  exact ⟨_, List.filter_cons_of_pos (by simp [plOf])⟩
theorem minL_head {f : Int → Int} {a b p : Int} {ps : List Int} (ha : f p ≤ a) (hb : b = f p) : minL f (p :: ps) a = minL f (p :: ps) b := by
  simp only [minL]
  congr 1
  unfold mn; split <;> split <;> omega
/-! ### bad places of a number -/
def vall (xs : List Int) (t : Int) : Bool := formOk xs && (tOk t && (vbad xs t).isEmpty)
theorem isE (l : List Int) : ((l.length : Int) == 0) = l.isEmpty := by cases l <;> simp <;> omega

/-! ### TwoIs -/
theorem specTwoIs_l (n : Int) (h0 : 0 < n) (hn : n ≤ 2000) (xs : List Int) (hx : ∀ q ∈ xs, 2 ≤ q) (hl : xs.length ≤ 10000) : ∀ (d j : Nat), j + d = xs.length →
    Ev (fun k => spec_TwoIs.l0 k n xs j) (twoIsL n (xs.drop j)) := by
  intro d
  induction d with
  | zero =>
    intro j hj
    rw [List.drop_of_length_le (by omega)]
    refine Ev.step (f := fun _ => some true) (fun k => ?_) (Ev.now _)
    simp only [spec_TwoIs.l0]
    rw [if_neg (by omega)]
  | succ d ih =>
    intro j hj
    have hm := hx _ (rd_mem (xs := xs) (j := j) (by omega))
    rw [rd_drop (show j < xs.length by omega)]
    generalize hp : rd xs (j : Int) = p at hm
    refine Ev.step (f := fun k => (spec_l1Valuation.f k n p).bind fun bt => if p.tmod 4 = 3 then (if bt.1.tmod 2 = 1 then some false else spec_TwoIs.l0 k n xs ((j + 1 : Nat) : Int)) else spec_TwoIs.l0 k n xs ((j + 1 : Nat) : Int)) (fun k => ?_) ?_
    · simp only [spec_TwoIs.l0]
      rw [if_pos (by omega), if_pos (by omega), hp, w64 (x := (j : Int) + 1) (by omega) (by omega)]
      rfl
    · refine (valuation_ev hm (by omega) (by omega)).bind ?_
      have := ih (j + 1) (by omega)
      simp only [twoIsL]
      by_cases c : p.tmod 4 = 3
      · by_cases c2 : (val p n).tmod 2 = 1
        · simp only [if_pos c, if_pos c2, c, c2, and_self, if_true]; exact Ev.now _
        · simp only [if_pos c, if_neg c2, c2, and_false, if_false]; exact this
      · simp only [if_neg c, c, false_and, if_false]; exact this
theorem specTwoIs_ev (n : Int) : Ev (fun k => spec_TwoIs.f k n) (if 0 ≤ n ∧ n ≤ 2000 then twoIs n else false) := by
  unfold spec_TwoIs.f spec_l8Sum.f spec_l6In.f
  by_cases h : 0 ≤ n ∧ n ≤ 2000
  · simp only [ge_iff_le, if_pos h.1, Option.bind_some, decide_eq_true h.2, if_true, if_pos h]
    unfold spec_l8Primes.f twoIs
    by_cases c : n = 0
    · simp only [if_pos c, Option.bind_some]
      exact specTwoIs_l 1 (by omega) (by omega) [] (by simp) (by simp) 0 0 rfl |> fun _ => Ev.step (f := fun _ => some true) (fun k => by simp [spec_TwoIs.l0]) (Ev.now _)
    · simp only [if_neg c]
      refine Ev.bind (a := primes n) ((l1Primes_ev c (by omega)).bind (Ev.now _)) ?_
      have := primes_len n
      exact specTwoIs_l n (by omega) h.2 (primes n) (fun q hq => primes_ge hq) (by omega) (primes n).length 0 (by omega)
  · rw [if_neg h]
    by_cases h0 : 0 ≤ n
    · have h2 : ¬ n ≤ 2000 := fun h2 => h ⟨h0, h2⟩
      simp only [ge_iff_le, if_pos h0, Option.bind_some, decide_eq_false h2, Bool.false_eq_true, if_false]
      exact Ev.now _
    · simp only [ge_iff_le, if_neg h0, Option.bind_some, Bool.false_eq_true, if_false]
      exact Ev.now _


theorem implTwoIs_l (n : Int) (h0 : 0 < n) (hn : n ≤ 2000) (xs : List Int) (hx : ∀ q ∈ xs, 2 ≤ q) (hl : xs.length ≤ 10000) : ∀ (d j : Nat), j + d = xs.length →
    Ev (fun k => impl_TwoIs.l0 k n xs (xs.length : Int) j) (twoIsL n (xs.drop j)) := by
  intro d
  induction d with
  | zero =>
    intro j hj
    rw [List.drop_of_length_le (by omega)]
    refine Ev.step (f := fun _ => some true) (fun k => ?_) (Ev.now _)
    simp only [impl_TwoIs.l0]
    rw [if_neg (by omega)]
  | succ d ih =>
    intro j hj
    have hm := hx _ (rd_mem (xs := xs) (j := j) (by omega))
    rw [rd_drop (show j < xs.length by omega)]
    generalize hp : rd xs (j : Int) = p at hm
    refine Ev.step (f := fun k => (impl_split.f k n p).bind fun bt => if p.tmod 4 = 3 then (if bt.1.tmod 2 = 0 then impl_TwoIs.l0 k n xs (xs.length : Int) ((j + 1 : Nat) : Int) else some false) else impl_TwoIs.l0 k n xs (xs.length : Int) ((j + 1 : Nat) : Int)) (fun k => ?_) ?_
    · simp only [impl_TwoIs.l0]
      rw [if_pos (by omega), if_pos (by omega), if_pos (by omega), hp, w64 (x := (j : Int) + 1) (by omega) (by omega)]
      rfl
    · refine (split_ev hm (by omega) (by omega)).bind ?_
      have := ih (j + 1) (by omega)
      have hv := (val_spec hm (show n ≠ 0 by omega) (by omega)).2.2.1
      have e : (val p n).tmod 2 = val p n % 2 := Int.tmod_eq_emod_of_nonneg hv
      simp only [twoIsL]
      by_cases c : p.tmod 4 = 3
      · by_cases c2 : (val p n).tmod 2 = 1
        · simp only [if_pos c, c, c2, and_self, if_true]; exact Ev.now _
        · simp only [if_pos c, c2, and_false, if_false, if_pos (show (val p n).tmod 2 = 0 by omega)]; exact this
      · simp only [if_neg c, c, false_and, if_false]; exact this
theorem implTwoIs_ev (n : Int) : Ev (fun k => impl_TwoIs.f k n) (if 0 ≤ n ∧ n ≤ 2000 then twoIs n else false) := by
  unfold impl_TwoIs.f
  by_cases h : 0 ≤ n ∧ n ≤ 2000
  · simp only [if_neg (show ¬ n < 0 by omega), decide_eq_false (show ¬ n > 2000 by omega), if_pos h]
    unfold twoIs
    by_cases c : n = 0
    · exact Ev.step (f := fun _ => some true) (fun k => by simp [impl_TwoIs.j0, c]) (by simpa [c] using Ev.now true)
    · refine Ev.step (f := fun k => (impl_primesOf.f k n).bind fun t => impl_TwoIs.l0 k n t (t.length : Int) 0) (fun k => by simp [impl_TwoIs.j0, c]) ?_
      simp only [if_neg c]
      have := primes_len n
      exact (primesOf_ev c (by omega)).bind (implTwoIs_l n (by omega) h.2 (primes n) (fun q hq => primes_ge hq) (by omega) (primes n).length 0 (by omega))
  · rw [if_neg h]
    refine Ev.step (f := fun _ => some false) (fun k => ?_) (Ev.now _)
    by_cases h0 : n < 0
    · simp [impl_TwoIs.j0, h0]
    · simp [impl_TwoIs.j0, h0, show n > 2000 by omega]


/-- How many divisors up to k leave the rest r by 4. -/
def cnt (n r k : Nat) : Nat := Nat.rec (motive := fun _ => Nat) 0 (fun d ih => Nat.add ih (bif Nat.beq (Nat.mod n (Nat.succ d)) 0 then (bif Nat.beq (Nat.mod (Nat.succ d) 4) r then 1 else 0) else 0)) k
theorem cnt_step (n r k : Nat) : cnt n r (k + 1) = cnt n r k + if n % (k + 1) = 0 ∧ (k + 1) % 4 = r then 1 else 0 := by
  have e : cnt n r (k + 1) = cnt n r k + (bif Nat.beq (n % (k + 1)) 0 then (bif Nat.beq ((k + 1) % 4) r then 1 else 0) else 0) := rfl
  rw [e, beq_iff, beq_iff]
  by_cases c : n % (k + 1) = 0 <;> by_cases c2 : (k + 1) % 4 = r <;> simp [c, c2]
theorem cnt_bd (n r : Nat) : ∀ k, cnt n r k ≤ k
  | 0 => Nat.le_refl 0
  | k + 1 => by have := cnt_bd n r k; rw [cnt_step]; split <;> omega
def twoV (n k : Nat) : Int := 4 * ((cnt n 1 k : Nat) : Int) - 4 * ((cnt n 3 k : Nat) : Int)
theorem twoV_bd (n k : Nat) : -(4 * (k : Int)) ≤ twoV n k ∧ twoV n k ≤ 4 * k := by
  have := cnt_bd n 1 k; have := cnt_bd n 3 k; unfold twoV; omega
theorem twoV_step (n k : Nat) : twoV n (k + 1) = if n % (k + 1) = 0 then (if (k + 1) % 4 = 1 then twoV n k + 4 else if (k + 1) % 4 = 3 then twoV n k - 4 else twoV n k) else twoV n k := by
  unfold twoV
  rw [cnt_step, cnt_step]
  by_cases c : n % (k + 1) = 0 <;> by_cases c1 : (k + 1) % 4 = 1 <;> by_cases c3 : (k + 1) % 4 = 3 <;> simp [c, c1, c3] <;> omega
theorem implTwoMany_l (n : Nat) (hn : n ≤ 2000) : ∀ (d j : Nat), j + d = n →
    Ev (fun k => impl_TwoMany.l0 k n (twoV n j) ((j + 1 : Nat) : Int)) (twoV n n) := by
  intro d
  induction d with
  | zero =>
    intro j hj
    obtain rfl : j = n := by omega
    refine Ev.step (f := fun _ => some _) (fun k => ?_) (Ev.now _)
    simp only [impl_TwoMany.l0]
    rw [if_neg (by omega)]
  | succ d ih =>
    intro j hj
    have hb := twoV_bd n j
    have := ih (j + 1) (by omega)
    rw [twoV_step] at this
    refine Ev.step (fun k => ?_) this
    simp only [impl_TwoMany.l0]
    rw [if_pos (by omega), if_neg (by omega), w64 (x := ((j + 1 : Nat) : Int) + 1) (by omega) (by omega),
      show Int.tmod (n : Int) ((j + 1 : Nat) : Int) = ((n % (j + 1) : Nat) : Int) from (Int.ofNat_tmod _ _).symm,
      show Int.tmod ((j + 1 : Nat) : Int) 4 = (((j + 1) % 4 : Nat) : Int) from (Int.ofNat_tmod (j + 1) 4).symm,
      w64 (x := twoV n j + 4) (by omega) (by omega), w64 (x := twoV n j - 4) (by omega) (by omega)]
    by_cases c : n % (j + 1) = 0
    · rw [if_pos (by omega), if_pos c]
      by_cases c1 : (j + 1) % 4 = 1
      · rw [if_pos (by omega), if_pos c1]; rfl
      · rw [if_neg (by omega), if_neg c1]
        by_cases c3 : (j + 1) % 4 = 3
        · rw [if_pos (by omega), if_pos c3]; rfl
        · rw [if_neg (by omega), if_neg c3]; rfl
    · rw [if_neg (by omega), if_neg c]; rfl
theorem implTwoMany_ev (n : Int) : Ev (fun k => impl_TwoMany.f k n) (if 1 ≤ n ∧ n ≤ 2000 then twoV n.toNat n.toNat else -1) := by
  unfold impl_TwoMany.f
  by_cases h : 1 ≤ n ∧ n ≤ 2000
  · simp only [if_neg (show ¬ n < 1 by omega), decide_eq_false (show ¬ n > 2000 by omega), if_pos h]
    refine Ev.step (f := fun k => impl_TwoMany.l0 k n 0 1) (fun k => by simp [impl_TwoMany.j0]) ?_
    have := implTwoMany_l n.toNat (by omega) n.toNat 0 (by omega)
    rw [show ((n.toNat : Nat) : Int) = n from by omega] at this
    exact this
  · rw [if_neg h]
    refine Ev.step (f := fun _ => some (-1)) (fun k => ?_) (Ev.now _)
    by_cases h0 : n < 1
    · simp [impl_TwoMany.j0, h0]
    · simp [impl_TwoMany.j0, h0, show n > 2000 by omega]

/-! ### TwoFind -/
def pair2 : Option (List Int) → Int × Int × Bool
  | some [a, b] => (a, b, true)
  | _ => (0, 0, false)
theorem sqs0_some {x left : Int} (h : isq left * isq left = left) (h2 : x * x ≤ left) (hx : 0 ≤ x) : sqs 0 x left = some [isq left] := by
  have : x ≤ isq left := le_of_sq (isq_nonneg _) (by omega)
  simp only [sqs]; rw [if_pos ⟨h, this⟩]
theorem sqs0_none {x left : Int} (h : ¬ isq left * isq left = left) : sqs 0 x left = none := by
  simp only [sqs]; rw [if_neg (fun h' => h h'.1)]
theorem sqFrom_len {f : Int → Option (List Int)} {c left : Int} {m : Nat} (hf : ∀ x r, f x = some r → r.length = m) : ∀ (d : Nat) (x : Int) (r : List Int), sqFrom f c left d x = some r → r.length = m + 1
  | 0, _, _, h => by simp [sqFrom] at h
  | d + 1, x, r, h => by
    simp only [sqFrom] at h
    split at h
    · split at h
      · rename_i r' hr
        injection h with h
        rw [← h, List.length_cons, hf x r' hr]
      · exact sqFrom_len hf d (x + 1) r h
    · cases h
theorem sqs_len : ∀ (m : Nat) (low left : Int) (r : List Int), sqs m low left = some r → r.length = m + 1
  | 0, low, left, r, h => by
    simp only [sqs] at h
    split at h
    · injection h with h; rw [← h]; rfl
    · cases h
  | m + 1, low, left, r, h => by
    simp only [sqs] at h
    exact sqFrom_len (fun x r hr => sqs_len m _ _ r hr) _ _ _ h
theorem implTwoFind_eq (n : Int) : impl_TwoFind.f n = some (if 0 ≤ n ∧ n ≤ 2000 then pair2 (sqs 1 0 n) else (0, 0, false)) := by
  unfold impl_TwoFind.f impl_squaresOf.f
  rw [if_pos (by omega)]
  by_cases h : 0 ≤ n ∧ n ≤ 2000
  · rw [if_neg (by omega), if_pos h]
    rw [show ((2 : Int) - 1).toNat = 1 from rfl]
    cases hq : sqs 1 0 n with
    | none => simp [pair2]
    | some r =>
      have hl := sqs_len 1 0 n r hq
      match r, hl with
      | [a, b], _ => simp [pair2, rd]
  · rw [if_pos (by omega), if_neg h]; simp


def okI (n : Nat) : Bool := !(twoIs (n : Int)) || (Nat.ble (cnt n 3 n + 1) (cnt n 1 n) && (!(Nat.ble n 1000) || twoIs ((2 * n : Nat) : Int)))
set_option maxRecDepth 100000 in
theorem okI_t : ∀ n ∈ List.range 495, n = 0 ∨ okI n = true := by decide +kernel
set_option maxRecDepth 100000 in
theorem okI_2000 : okI 2000 = true := by decide +kernel
theorem core_bad {n x y : Int} (hn : 0 < n) (hN : n ≤ 2000) (h : x * x + y * y = n) (hx : 0 ≤ x) (hy : 0 ≤ y) (hk : formOk [1, 1, -(coreF n).1] = true) : bad [1, 1, -(coreF n).1] = [] := by
  have hc := coreF_is (n := n) (by omega) (by omega)
  have hle := core_le hc
  have hr := hc.2.1
  have hk := formOk_iff.1 hk
  have hx2 : x * x ≤ 2000 := by have := sq_nonneg y; omega
  have hy2 : y * y ≤ 2000 := by have := sq_nonneg x; omega
  have bx : x ≤ 2000 := by
    have := sq_bound (c := 1) (left := 2000) (x := x) (by omega) hx (by omega); omega
  have bY : y ≤ 2000 := by
    have := sq_bound (c := 1) (left := 2000) (x := y) (by omega) hy (by omega); omega
  have br : (coreF n).2.natAbs ≤ 2000 := by
    have h1 : (coreF n).2.natAbs ≤ (coreF n).2.natAbs * (coreF n).2.natAbs := Nat.le_mul_of_pos_left _ (by omega)
    omega
  unfold bad
  rw [List.filter_eq_nil_iff]
  intro p hp
  have hz : qv [1, 1, -(coreF n).1] [x, y, (coreF n).2] = 0 := by
    have e := hc.1
    simp only [qv]
    have : -(coreF n).1 * (coreF n).2 * (coreF n).2 = -((coreF n).1 * ((coreF n).2 * (coreF n).2)) := by rw [Int.neg_mul, Int.neg_mul, Int.mul_assoc]
    rw [this, ← e, Int.one_mul, Int.one_mul]; omega
  have := zero_van (plc_plc hp) (xs := [1, 1, -(coreF n).1]) (vs := [x, y, (coreF n).2]) rfl (by simp) hk.1 (by intro v hv; simp only [List.mem_cons, List.not_mem_nil, or_false] at hv; rcases hv with rfl | rfl | rfl <;> omega) hz ⟨(coreF n).2, by simp, by omega⟩
  rw [this]; simp
theorem pair2_good {n : Int} {x y : Int} (h : sqs 1 0 n = some [x, y]) : x * x + y * y = n ∧ 0 ≤ x ∧ x ≤ y := by
  obtain ⟨h1, h2⟩ := sqs_good 1 0 n _ (by omega) h
  rw [sumSq_cons, sumSq_cons] at h2
  have : sumSq [] = 0 := rfl
  exact ⟨by omega, h1.1, h1.2.1⟩
theorem implCoreOf_ev {n : Int} (h0 : 0 ≤ n) (hN : n ≤ 2000) : Ev (fun k => impl_CoreOf.f k n) (if n = 0 then (0, 0, false) else ((coreF n).1, (coreF n).2, true)) := by
  unfold impl_CoreOf.f
  by_cases c : n = 0
  · simp only [if_pos c]; exact Ev.now _
  · have e : impl_isNumber.f n = some true := by
      unfold impl_isNumber.f
      rw [if_pos (by omega), decide_eq_true (by omega)]
    simp only [if_neg c, e, Option.bind_some, if_true]
    exact (implCore_ev c (by omega)).bind (Ev.now _)
theorem holds : laws_FnTwoIs.Pure := by
  intro l0 _ _ hw
  refine Ev.rounds ?_
  unfold laws_FnTwoIs.f
  by_cases big : (l0.length : Int) > 1048576
  · simp only [if_pos big]; exact Ev.now _
  obtain ⟨b, hb, ho⟩ := open_ev hw
  obtain ⟨n, p, hn, hd⟩ := sumDraw_ev hb
  simp only [if_neg big, spec_DrawTwoIs.f, ho, Option.bind_some]
  refine (hd.bind (Ev.now n)).bind ((implTwoIs_ev n).bind ((specTwoIs_ev n).bind ?_))
  simp only [bne_self_eq_false, Bool.false_eq_true, if_false]
  by_cases h : 0 ≤ n ∧ n ≤ 2000 ∧ twoIs n = true
  · obtain ⟨h0, hN, ht⟩ := h
    obtain ⟨m, rfl⟩ := Int.eq_ofNat_of_zero_le h0
    have hm : m ≤ 494 ∨ m = 2000 := by omega
    rw [if_pos ⟨h0, hN⟩, ht]
    have hq : ∃ x y, sqs 1 0 (m : Int) = some [x, y] := by
      have := two_all (n := m) (by omega)
      rw [ht] at this
      cases hs : sqs 1 0 (m : Int) with
      | none => rw [hs] at this; cases this
      | some r =>
        have hl := sqs_len 1 0 _ r hs
        match r, hl with
        | [x, y], _ => exact ⟨x, y, rfl⟩
    obtain ⟨x, y, hq⟩ := hq
    obtain ⟨g1, g2, g3⟩ := pair2_good hq
    have e2 : impl_TwoFind.f (m : Int) = some (x, y, true) := by rw [implTwoFind_eq, if_pos ⟨h0, hN⟩, hq]; rfl
    have hc := implCoreOf_ev h0 hN
    simp only [Bool.not_true]
    apply Ev.step
    · intro k
      simp only [laws_FnTwoIs.j0, Bool.false_eq_true, if_false, e2, Option.bind_some]
      exact rfl
    refine hc.bind ?_
    by_cases c0 : (m : Int) = 0
    · simp only [if_pos c0, Option.bind_some, if_true]
      rw [c0, w64 (x := 2 * 0) (by omega) (by omega)]
      simp only [if_neg (show ¬ (2 * 0 : Int) > 2000 by omega)]
      have gi := implTwoIs_ev (2 * 0)
      rw [if_pos (by omega)] at gi
      refine gi.bind ?_
      have : twoIs (2 * 0) = true := rfl
      simp only [this, if_true]; exact Ev.now _
    · have hok : okI m = true := by
        rcases hm with h1 | h1
        · rcases okI_t m (by rw [List.mem_range]; omega) with h2 | h2
          · omega
          · exact h2
        · rw [h1]; exact okI_2000
      unfold okI at hok
      rw [ht] at hok
      simp only [Bool.not_true, Bool.false_or, Bool.and_eq_true, Bool.or_eq_true, Bool.not_eq_true'] at hok
      obtain ⟨k1, k2⟩ := hok
      have k1' := Nat.le_of_ble_eq_true k1
      have gm := implTwoMany_ev (m : Int)
      rw [if_pos (by omega), Int.toNat_natCast] at gm
      have hpos : twoV m m > 0 := by unfold twoV; omega
      have hle := core_le (coreF_is (n := (m : Int)) (by omega) (by omega))
      have fin : Ev (fun k => (impl_FormValid.f k [1, 1, wrap64 (-(coreF (m : Int)).1)]).bind fun t259 => (if t259 = true then ((impl_FormBad.f k [1, 1, wrap64 (-(coreF (m : Int)).1)]).bind fun t260 => (some ((t260.length : Int) == 0))) else (some true))) true := by
        rw [w64 (x := -(coreF (m : Int)).1) (by omega) (by omega)]
        have h6 : ∀ z ∈ [1, 1, -(coreF (m : Int)).1], z.natAbs ≤ 1000000 := by intro z hz; simp only [List.mem_cons, List.not_mem_nil, or_false] at hz; rcases hz with rfl | rfl | rfl <;> omega
        refine (implFormValid_ev h6 (by simp)).bind ?_
        by_cases ck : formOk [1, 1, -(coreF (m : Int)).1] = true
        · simp only [ck, if_true]
          have := implFormBad_ev h6 (by simp)
          rw [if_pos ck, core_bad (by omega) hN g1 g2 (by omega) ck] at this
          exact this.bind (Ev.now _)
        · simp only [if_neg ck]; exact Ev.now _
      simp only [if_neg c0, Option.bind_some, if_true]
      refine gm.bind ?_
      simp only [if_pos hpos, w64 (x := 2 * (m : Int)) (by omega) (by omega)]
      by_cases c2 : 2 * (m : Int) > 2000
      · simp only [if_pos c2]; exact fin
      · simp only [if_neg c2]
        have gi := implTwoIs_ev (2 * (m : Int))
        rw [if_pos (by omega)] at gi
        have k3 : twoIs (2 * (m : Int)) = true := by
          rcases k2 with k2 | k2
          · rw [Nat.ble_eq_true_of_le (show m ≤ 1000 by omega)] at k2; cases k2
          · exact k2
        refine gi.bind ?_
        simp only [k3, if_true]
        exact fin
  · have e : (if 0 ≤ n ∧ n ≤ 2000 then twoIs n else false) = false := by
      by_cases c : 0 ≤ n ∧ n ≤ 2000
      · rw [if_pos c]; exact Bool.eq_false_iff.2 (fun ht => h ⟨c.1, c.2, ht⟩)
      · rw [if_neg c]
    rw [e]
    refine Ev.step (f := fun _ => some true) (fun k => ?_) (Ev.now _)
    simp [laws_FnTwoIs.j0]

end Go.Proofs.Ytihadpckmcebgaa.QFnTwoIs
