/- Forms. -/
import Derived.Test.YtihadpckmcebgaaTPFnWittx7
import Derived.Test.YtihadpckmcebgaaTWit
set_option linter.unusedVariables false
set_option linter.unusedSimpArgs false
namespace Go.Proofs.Ytihadpckmcebgaa.QFnWitt
open Go.RowKit Go.Proofs.Ytihadpckmcebgaa.PFnWitt Go.Proofs.YtihadpckmcebgaaW.PrintWords Go.Proofs.YtihadpckmcebgaaW.PrintLast Go.Proofs.YtihadpckmcebgaaW.PrintMore Locg

/-! ### draws -/
theorem xor_i64_nat (a b : Nat) (ha : a < 9223372036854775808) (hb : b < 9223372036854775808) : Go.bits .xor .i64 (a : Int) (b : Int) = ((a ^^^ b : Nat) : Int) := by
  have hx : a ^^^ b < 2 ^ 63 := Nat.xor_lt_two_pow (by omega) (by omega)
  have h1 : (BitVec.ofInt 64 (a : Int)).toNat = a := by
    rw [BitVec.ofInt_natCast, BitVec.toNat_ofNat]; exact Nat.mod_eq_of_lt (by omega)
  have h2 : (BitVec.ofInt 64 (b : Int)).toNat = b := by
    rw [BitVec.ofInt_natCast, BitVec.toNat_ofNat]; exact Nat.mod_eq_of_lt (by omega)
  show IntKind.i64.wrap ((BitVec.ofInt 64 (a : Int) ^^^ BitVec.ofInt 64 (b : Int)).toNat : Int) = _
  rw [BitVec.toNat_xor, h1, h2]
  have hw : ∀ n : Int, IntKind.i64.wrap n = wrap64 n := fun n => by simp [IntKind.wrap, wrap64, IntKind.bits, IntKind.signed]; omega
  rw [hw]
  exact w64' (by omega) (by omega)
theorem xor_nonneg (a b : Int) (ha : 0 ≤ a) (hA : a < 9223372036854775808) (hb : 0 ≤ b) (hB : b < 9223372036854775808) : 0 ≤ Go.bits .xor .i64 a b := by
  obtain ⟨a, rfl⟩ := Int.eq_ofNat_of_zero_le ha
  obtain ⟨b, rfl⟩ := Int.eq_ofNat_of_zero_le hb
  rw [xor_i64_nat a b (by omega) (by omega)]
  exact Int.natCast_nonneg _
theorem tmod_range {x n : Int} (hx : 0 ≤ x) (hn : 1 ≤ n) : 0 ≤ x.tmod n ∧ x.tmod n < n := by
  rw [Int.tmod_eq_emod_of_nonneg hx]; exact ⟨Int.emod_nonneg _ (by omega), Int.emod_lt_of_pos _ (by omega)⟩
def BytesB (b : List Int) : Prop := (∀ x ∈ b, 0 ≤ x ∧ x ≤ 255) ∧ b.length ≤ 2000
theorem BytesB.rd_ {b : List Int} (h : BytesB b) (i : Int) : 0 ≤ rd b i ∧ rd b i ≤ 255 := by
  unfold rd
  by_cases c : i.toNat < b.length
  · have := h.1 (b[i.toNat]) (by simp)
    simpa [List.getElem?_eq_getElem c] using this
  · simp [List.getElem?_eq_none (show b.length ≤ i.toNat by omega)]
/-- What the reader mixes at a place. -/
def pv (b : List Int) (p : Int) : Int := if b.length = 0 then 0 else if p < (b.length : Int) then rd b p else
  Go.bits .xor .i64 (rd b (p.tmod b.length) * 131 + rd b ((p * 7 + 3).tmod b.length) * 1117 + p * 29 + p.tdiv b.length * 53) ((rd b (p.tmod b.length) * 131 + rd b ((p * 7 + 3).tmod b.length) * 1117 + p * 29 + p.tdiv b.length * 53).tdiv 64)
theorem pick_at {b : List Int} (hb : BytesB b) {p : Int} (hp : 0 ≤ p) (hP : p ≤ 1000000000000000) {n : Int} (hn : 1 ≤ n) :
    0 ≤ pv b p ∧ Ev (fun k => spec_l6Rd_pick.f k b p n) ((pv b p).tmod n, p + 1) := by
  have hl := hb.2
  unfold pv
  rcases Nat.eq_zero_or_pos b.length with h0 | h0
  · rw [if_pos h0, Int.zero_tmod]
    refine ⟨by omega, Ev.step (f := fun _ => some (0, p + 1)) (fun k => ?_) (Ev.now _)⟩
    simp only [spec_l6Rd_pick.f, spec_l6Rd_pick.j0]
    rw [if_neg (by omega), w64 (x := p + 1) (by omega) (by omega), if_pos (by simp [h0])]
  · have e : ∀ k, spec_l6Rd_pick.f (k + 1) b p n = spec_l6Rd_pick.j0 (k + 1) n false b (p + 1) := by
      intro k
      simp only [spec_l6Rd_pick.f]
      rw [if_neg (by omega), w64 (x := p + 1) (by omega) (by omega)]
      congr 1
      simp; intro h; rw [h] at h0; simp at h0
    have hq : wrap64 (p + 1 - 1) = p := by rw [w64 (by omega) (by omega)]; omega
    rw [if_neg (by omega)]
    by_cases c : p < b.length
    · rw [if_pos c]
      refine ⟨(hb.rd_ p).1, Ev.step (f := fun _ => some ((rd b p).tmod n, p + 1)) (fun k => ?_) (Ev.now _)⟩
      have := hb.rd_ p
      rw [e]
      simp only [spec_l6Rd_pick.j0, hq]
      rw [if_neg (by simp), if_pos c, if_pos hp, if_neg (by omega), w64 (x := rd b p) (by omega) (by omega)]
    · rw [if_neg c]
      have hm := tmod_range hp (n := b.length) (by omega)
      have e7 : wrap64 (p * 7) = p * 7 := w64 (by omega) (by omega)
      have e73 : wrap64 (p * 7 + 3) = p * 7 + 3 := w64 (by omega) (by omega)
      have e29 : wrap64 (p * 29) = p * 29 := w64 (by omega) (by omega)
      have hm2 := tmod_range (x := p * 7 + 3) (by omega) (n := b.length) (by omega)
      have hA := hb.rd_ (p.tmod b.length)
      have hB := hb.rd_ ((p * 7 + 3).tmod b.length)
      have hd : 0 ≤ p.tdiv b.length ∧ p.tdiv b.length ≤ p := by
        rw [Int.tdiv_eq_ediv_of_nonneg hp]; exact ⟨Int.ediv_nonneg hp (by omega), Int.ediv_le_self _ hp⟩
      generalize hAe : rd b (p.tmod b.length) = A at hA
      generalize hBe : rd b ((p * 7 + 3).tmod b.length) = B at hB
      generalize hDe : p.tdiv b.length = D at hd
      have hx64 : 0 ≤ (A * 131 + B * 1117 + p * 29 + D * 53).tdiv 64 ∧ (A * 131 + B * 1117 + p * 29 + D * 53).tdiv 64 ≤ A * 131 + B * 1117 + p * 29 + D * 53 := by
        rw [Int.tdiv_eq_ediv_of_nonneg (by omega)]; omega
      have hx := xor_nonneg (A * 131 + B * 1117 + p * 29 + D * 53) ((A * 131 + B * 1117 + p * 29 + D * 53).tdiv 64) (by omega) (by omega) (by omega) (by omega)
      refine ⟨hx, Ev.step (f := fun _ => some (_, p + 1)) (fun k => ?_) (Ev.now _)⟩
      rw [e]
      simp only [spec_l6Rd_pick.j0, hq, e7, e73, hAe, hBe, hDe, e29]
      rw [if_neg (by simp), if_neg c, if_neg (by omega), if_pos hm.1, if_pos hm.2, if_pos hm2.1, if_pos hm2.2, if_neg (by omega)]
      rw [w64 (x := A) (by omega) (by omega), w64 (x := B) (by omega) (by omega), w64 (x := D) (by omega) (by omega), w64 (x := A * 131) (by omega) (by omega), w64 (x := B * 1117) (by omega) (by omega),
        w64 (x := A * 131 + B * 1117) (by omega) (by omega), w64 (x := A * 131 + B * 1117 + p * 29) (by omega) (by omega), w64 (x := D * 53) (by omega) (by omega),
        w64 (x := A * 131 + B * 1117 + p * 29 + D * 53) (by omega) (by omega), w64 (x := (A * 131 + B * 1117 + p * 29 + D * 53).tdiv 64) (by omega) (by omega)]
theorem pick_ev {b : List Int} (hb : BytesB b) {p : Int} (hp : 0 ≤ p) (hP : p ≤ 1000000000000000) {n : Int} (hn : 1 ≤ n) :
    ∃ v, 0 ≤ v ∧ v < n ∧ Ev (fun k => spec_l6Rd_pick.f k b p n) (v, p + 1) := by
  obtain ⟨h, e⟩ := pick_at hb hp hP hn
  exact ⟨_, (tmod_range h hn).1, (tmod_range h hn).2, e⟩
theorem open_ev {l : List Int} (h : ∀ x ∈ l, (Lit.int .u8 x).wf = true) : ∃ b, BytesB b ∧ spec_l6Open.f l = some (b, 0) := by
  have h' : ∀ x ∈ l, 0 ≤ x ∧ x ≤ 255 := fun x hx => by
    have := h x hx
    simp only [Lit.wf, Bool.and_eq_true, decide_eq_true_eq] at this
    have e1 : IntKind.u8.min = 0 := by decide
    have e2 : IntKind.u8.max = 255 := by decide
    omega
  unfold spec_l6Open.f
  by_cases c : (l.length : Int) > 2000
  · refine ⟨l.take 2000, ⟨fun x hx => h' x (List.mem_of_mem_take hx), by simp; omega⟩, ?_⟩
    rw [if_pos c, if_pos (by omega)]
  · exact ⟨l, ⟨h', by omega⟩, by rw [if_neg c]⟩


/-! ### split -/
theorem split_l {p : Int} (hp : 2 ≤ p) : ∀ (d : Nat) (n j : Int), n ≠ 0 → n.natAbs < 2 ^ d → d ≤ 63 → 0 ≤ j → j + d ≤ 1000 →
    ∀ k, d < k → impl_split.l0 k n p j = some (j + (spl p d n).1, (spl p d n).2) := by
  intro d
  induction d with
  | zero => intro n j hn h; simp at h; omega
  | succ d ih =>
    intro n j hn h hd hj hJ k hk
    obtain ⟨k, rfl⟩ : ∃ m, k = m + 1 := ⟨k - 1, by omega⟩
    simp only [impl_split.l0]
    rw [if_neg (by omega)]
    by_cases c : n.tmod p = 0
    · obtain ⟨h0, h1, h2, h3, _⟩ := tdiv_abs hp hn c
      have hlt : n.natAbs < 2 ^ 63 := Nat.lt_of_lt_of_le h (Nat.pow_le_pow_right (by omega) hd)
      rw [if_pos c, w64 (x := n.tdiv p) (by omega) (by omega), spl_dvd d c, w64 (x := j + 1) (by omega) (by omega),
        ih (n.tdiv p) (j + 1) h0 (by rw [Nat.pow_succ] at h; omega) (by omega) (by omega) (by omega) k (by omega)]
      simp only [Option.some.injEq, Prod.mk.injEq, and_true]; omega
    · rw [if_neg c, spl_not d c]
      simp
theorem split_at {n p : Int} (hp : 2 ≤ p) (hn : n ≠ 0) (h : n.natAbs < 2 ^ 63) (k : Nat) (hk : 63 < k) : impl_split.f k n p = some (val p n, unit p n) := by
  unfold impl_split.f val unit
  rw [split_l hp 63 n 0 hn h (by omega) (by omega) (by omega) k hk, ← spl_more hp 63 n hn h]
  simp
theorem split_ev {n p : Int} (hp : 2 ≤ p) (hn : n ≠ 0) (h : n.natAbs < 2 ^ 63) : Ev (fun k => impl_split.f k n p) (val p n, unit p n) := ⟨64, fun k hk => split_at hp hn h k (by omega)⟩


/-! ### valuations -/
theorem valuation_l {p : Int} (hp : 2 ≤ p) : ∀ (d : Nat) (n j : Int), n ≠ 0 → n.natAbs < 2 ^ d → d ≤ 63 → 0 ≤ j → j + d ≤ 1000 →
    ∀ k, d < k → spec_l1Valuation.l0 k n p j = some (j + (spl p d n).1, (spl p d n).2) := by
  intro d
  induction d with
  | zero => intro n j hn h; simp at h; omega
  | succ d ih =>
    intro n j hn h hd hj hJ k hk
    obtain ⟨k, rfl⟩ : ∃ m, k = m + 1 := ⟨k - 1, by omega⟩
    simp only [spec_l1Valuation.l0]
    rw [if_neg (by omega)]
    by_cases c : n.tmod p = 0
    · obtain ⟨h0, h1, h2, h3, _⟩ := tdiv_abs hp hn c
      have hlt : n.natAbs < 2 ^ 63 := Nat.lt_of_lt_of_le h (Nat.pow_le_pow_right (by omega) hd)
      rw [if_pos c, w64 (x := n.tdiv p) (by omega) (by omega), spl_dvd d c, w64 (x := j + 1) (by omega) (by omega),
        ih (n.tdiv p) (j + 1) h0 (by rw [Nat.pow_succ] at h; omega) (by omega) (by omega) (by omega) k (by omega)]
      simp only [Option.some.injEq, Prod.mk.injEq, and_true]; omega
    · rw [if_neg c, spl_not d c]
      simp
theorem valuation_at {n p : Int} (hp : 2 ≤ p) (hn : n ≠ 0) (h : n.natAbs < 2 ^ 63) (k : Nat) (hk : 63 < k) : spec_l1Valuation.f k n p = some (val p n, unit p n) := by
  unfold spec_l1Valuation.f val unit
  rw [valuation_l hp 63 n 0 hn h (by omega) (by omega) (by omega) k hk, ← spl_more hp 63 n hn h]
  simp
theorem valuation_ev {n p : Int} (hp : 2 ≤ p) (hn : n ≠ 0) (h : n.natAbs < 2 ^ 63) : Ev (fun k => spec_l1Valuation.f k n p) (val p n, unit p n) := ⟨64, fun k hk => valuation_at hp hn h k (by omega)⟩


/-! ### primes -/
theorem primesOf_l : ∀ (d : Nat) (n p : Int) (out : List Int), 0 < n → n ≤ 1000000000000 → 2 ≤ p → p ≤ 1000002 → n + 2 - p ≤ d → 1 ≤ d → out.length + d ≤ 17000000000000 →
    ∀ k, d + 64 < k → impl_primesOf.l0 k n out p = some (out ++ pl d n p) := by
  intro d
  induction d with
  | zero => intro n p out hn hN hp hP hd h1; omega
  | succ d ih =>
    intro n p out hn hN hp hP hd h1 hl k hk
    obtain ⟨k, rfl⟩ : ∃ m, k = m + 1 := ⟨k - 1, by omega⟩
    simp only [impl_primesOf.l0, pl]
    rw [wmul (a := p) (b := p) (by omega) (by omega) (by omega) (by omega)]
    by_cases c : p * p ≤ n
    · have hpn : 2 * p ≤ n := by have := Int.mul_le_mul_of_nonneg_right hp (show 0 ≤ p by omega); omega
      have hp6 : p ≤ 1000000 := le_of_sq (by omega) (by omega)
      rw [if_pos c, if_neg (by omega), if_pos c, w64 (x := p + 1) (by omega) (by omega)]
      by_cases c2 : n.tmod p = 0
      · have hv := val_spec hp (show n ≠ 0 by omega) (by omega)
        rw [if_pos c2, if_pos (by omega), split_at hp (by omega) (by omega) k (by omega), if_pos c2]
        simp only [Option.bind_some]
        rw [ih (unit p n) (p + 1) (out ++ [p]) (hv.2.2.2.2.2.2 hn) (by omega) (by omega) (by omega) (by omega) (by omega) (by simp; omega) k (by omega)]
        simp
      · rw [if_neg c2, if_neg c2]
        exact ih n (p + 1) out hn hN (by omega) (by omega) (by omega) (by omega) (by omega) k (by omega)
    · rw [if_neg c, if_neg c]
      by_cases c2 : n > 1
      · rw [if_pos c2, if_pos c2, if_pos (by omega)]
      · rw [if_neg c2, if_neg c2]; simp
theorem primesOf_ev {n : Int} (hn : n ≠ 0) (h : n.natAbs ≤ 1000000000000) : Ev (fun k => impl_primesOf.f k n) (primes n) := by
  refine ⟨n.natAbs + 67, fun k hk => ?_⟩
  simp only [impl_primesOf.f, impl_size.f, Option.bind_some]
  rw [size_ev (by omega) (by omega), primesOf_l (n.natAbs + 2) (absI n) 2 [] (by unfold absI; omega) (by unfold absI; omega) (by omega) (by omega) (by unfold absI; omega) (by omega) (by simp; omega) k (by omega)]
  rfl


/-! ### primes, of the reference -/
theorem l1Primes_in (p : Int) (hp : 2 ≤ p) (hP : p ≤ 1000001) (out : List Int) : ∀ (d : Nat) (n : Int), 0 < n → n.natAbs < 2 ^ d → d ≤ 63 →
    ∀ k, spec_l1Primes.l1 (k + d) n out p = (match k + d - (spl p d n).1.toNat with | 0 => none | m + 1 => spec_l1Primes.l0 m (spl p d n).2 out (p + 1)) := by
  intro d
  induction d with
  | zero => intro n hn h; simp at h; omega
  | succ d ih =>
    intro n hn h hd k
    have hs := spl_spec hp (d + 1) n (by omega) h
    rw [show k + (d + 1) = (k + d) + 1 from by omega]
    simp only [spec_l1Primes.l1]
    rw [if_neg (by omega)]
    by_cases c : n.tmod p = 0
    · obtain ⟨h0, h1, h2, h3, _⟩ := tdiv_abs hp (show n ≠ 0 by omega) c
      have hlt : n.natAbs < 2 ^ 63 := Nat.lt_of_lt_of_le h (Nat.pow_le_pow_right (by omega) hd)
      have h4 : (n.tdiv p).natAbs < 2 ^ d := by rw [Nat.pow_succ] at h; omega
      have hs' := spl_spec hp d (n.tdiv p) h0 h4
      rw [if_pos c, w64 (x := n.tdiv p) (by omega) (by omega), spl_dvd d c, ih (n.tdiv p) (h3 hn) h4 (by omega) k]
      simp only
      rw [show k + d + 1 - ((spl p d (n.tdiv p)).1 + 1).toNat = k + d - (spl p d (n.tdiv p)).1.toNat from by omega]
    · rw [if_neg c, spl_not d c, w64 (x := p + 1) (by omega) (by omega)]
      simp
theorem l1Primes_l : ∀ (d : Nat) (n p : Int) (out : List Int), 0 < n → n ≤ 1000000000000 → 2 ≤ p → p ≤ 1000002 → n + 2 - p ≤ d → 1 ≤ d → out.length + d ≤ 17000000000000 →
    Ev (fun k => spec_l1Primes.l0 k n out p) (out ++ pl d n p) := by
  intro d
  induction d with
  | zero => intro n p out hn hN hp hP hd h1; omega
  | succ d ih =>
    intro n p out hn hN hp hP hd h1 hl
    by_cases c : p * p ≤ n
    · have hpn : 2 * p ≤ n := by have := Int.mul_le_mul_of_nonneg_right hp (show 0 ≤ p by omega); omega
      have hp6 : p ≤ 1000000 := le_of_sq (by omega) (by omega)
      have hv := val_spec hp (show n ≠ 0 by omega) (by omega)
      have inner : ∀ o : List Int, Ev (fun k => spec_l1Primes.l0 k (unit p n) o (p + 1)) (o ++ pl d (unit p n) (p + 1)) → Ev (fun k => spec_l1Primes.j1 k n o p) (o ++ pl d (unit p n) (p + 1)) := by
        intro o ho
        obtain ⟨K, hK⟩ := ho
        refine ⟨K + 200, fun k hk => ?_⟩
        obtain ⟨k, rfl⟩ : ∃ m, k = m + 64 + 1 := ⟨k - 65, by omega⟩
        simp only [spec_l1Primes.j1]
        have e := l1Primes_in p hp (by omega) o 63 n hn (by omega) (by omega) (k + 1)
        rw [show k + 64 = k + 1 + 63 from by omega, e, ← spl_more hp 63 n (by omega) (by omega)]
        change (match k + 1 + 63 - (val p n).toNat with | 0 => none | m + 1 => spec_l1Primes.l0 m (unit p n) o (p + 1)) = _
        have hb := hv.2.2.2.1
        obtain ⟨m, hm⟩ : ∃ m, k + 1 + 63 - (val p n).toNat = m + 1 := ⟨k + 63 - (val p n).toNat, by omega⟩
        rw [hm]
        exact hK m (by omega)
      by_cases c2 : n.tmod p = 0
      · refine Ev.step (f := fun k => spec_l1Primes.j1 k n (out ++ [p]) p) (fun k => ?_) ?_
        · simp only [spec_l1Primes.l0]
          rw [wmul (a := p) (b := p) (by omega) (by omega) (by omega) (by omega), if_pos c, if_neg (by omega), if_pos c2, if_pos (by omega)]
        · have := inner (out ++ [p]) (ih (unit p n) (p + 1) (out ++ [p]) (hv.2.2.2.2.2.2 hn) (by omega) (by omega) (by omega) (by omega) (by omega) (by simp; omega))
          simp only [pl, if_pos c, if_pos c2]
          simpa using this
      · refine Ev.step (f := fun k => spec_l1Primes.j1 k n out p) (fun k => ?_) ?_
        · simp only [spec_l1Primes.l0]
          rw [wmul (a := p) (b := p) (by omega) (by omega) (by omega) (by omega), if_pos c, if_neg (by omega), if_neg c2]
        · have hu := (val_of_not c2).2
          have := inner out (by rw [hu]; exact ih n (p + 1) out hn hN (by omega) (by omega) (by omega) (by omega) (by omega))
          rw [hu] at this
          simp only [pl, if_pos c, if_neg c2]
          exact this
    · refine Ev.step (f := fun _ => some (out ++ pl (d + 1) n p)) (fun k => ?_) (Ev.now _)
      simp only [spec_l1Primes.l0, pl]
      rw [wmul (a := p) (b := p) (by omega) (by omega) (by omega) (by omega), if_neg c, if_neg c]
      by_cases c2 : n > 1
      · rw [if_pos c2, if_pos c2, if_pos (by omega)]
      · rw [if_neg c2, if_neg c2]; simp
theorem l1Primes_ev {n : Int} (hn : n ≠ 0) (h : n.natAbs ≤ 1000000000000) : Ev (fun k => spec_l1Primes.f k n) (primes n) := by
  simp only [spec_l1Primes.f, spec_l1Size.f, Option.bind_some]
  rw [size_ev (by omega) (by omega)]
  have := l1Primes_l (n.natAbs + 2) (absI n) 2 [] (by unfold absI; omega) (by unfold absI; omega) (by omega) (by omega) (by unfold absI; omega) (by omega) (by simp; omega)
  simpa [primes] using this


/-! ### residues, squares and symbols at a place -/
theorem implRest_eq {a m : Int} (h : 0 < m) (hm : m ≤ 5000) (ha : a.natAbs < 2 ^ 63) : impl_rest.f a m = some (a % m) := by
  unfold impl_rest.f
  have h1 := Int.tmod_lt_of_pos a h
  have h2 : -m < Int.tmod a m := by
    have := Int.tmod_lt_of_pos (-a) h; rw [Int.neg_tmod] at this; omega
  rw [if_neg (by omega), w64 (by omega) (by omega), rest_eq a h]
theorem specMod_eq {a m : Int} (h : 0 < m) (hm : m ≤ 5000) (ha : a.natAbs < 2 ^ 63) : spec_l1Mod.f a m = some (a % m) := by
  unfold spec_l1Mod.f
  have h1 := Int.tmod_lt_of_pos a h
  have h2 : -m < Int.tmod a m := by
    have := Int.tmod_lt_of_pos (-a) h; rw [Int.neg_tmod] at this; omega
  rw [if_neg (by omega), w64 (by omega) (by omega), rest_eq a h]
theorem implResidue_l {p r : Int} (hp : 3 ≤ p) (hP : p ≤ 5000) : ∀ (d : Nat) (x : Int), 1 ≤ x → p.tdiv 2 + 2 ≤ x + d → x ≤ 5001 →
    Ev (fun k => impl_residue.l0 k p r x) (resS p r d x) := by
  have e2 : p.tdiv 2 = p / 2 := tdiv2 (by omega)
  intro d
  induction d with
  | zero =>
    intro x h1 h2 h3
    refine Ev.step (f := fun _ => some (-1)) (fun k => ?_) (Ev.now _)
    simp only [impl_residue.l0]
    rw [w64 (x := p.tdiv 2) (by omega) (by omega), if_neg (by omega)]
  | succ d ih =>
    intro x h1 h2 h3
    by_cases c : x ≤ p.tdiv 2
    · have hxx := wmul (a := x) (b := x) (by omega) (by omega) (by omega) (by omega)
      by_cases c2 : (x * x).tmod p = r
      · refine Ev.step (f := fun _ => some 1) (fun k => ?_) (by simp only [resS, if_pos c, if_pos c2]; exact Ev.now _)
        simp only [impl_residue.l0]
        rw [w64 (x := p.tdiv 2) (by omega) (by omega), if_pos c, if_neg (by omega), hxx, if_pos c2]
      · refine Ev.step (fun k => ?_) (by simp only [resS, if_pos c, if_neg c2]; exact ih (x + 1) (by omega) (by omega) (by omega))
        simp only [impl_residue.l0]
        rw [w64 (x := p.tdiv 2) (by omega) (by omega), if_pos c, if_neg (by omega), hxx, if_neg c2, w64 (x := x + 1) (by omega) (by omega)]
    · refine Ev.step (f := fun _ => some (-1)) (fun k => ?_) (by simp only [resS, if_neg c]; exact Ev.now _)
      simp only [impl_residue.l0]
      rw [w64 (x := p.tdiv 2) (by omega) (by omega), if_neg c]
theorem implResidue_ev {p u : Int} (h : OddP p) (hu : u.natAbs < 2 ^ 63) : Ev (fun k => impl_residue.f k u p) (res p u) := by
  have hp := h.2
  unfold impl_residue.f
  simp only [implRest_eq (show 0 < p by omega) (by omega) hu, Option.bind_some]
  unfold res resR
  by_cases c : u % p = 0
  · simp only [if_pos c]; exact Ev.now _
  · simp only [if_neg c]
    exact implResidue_l (by omega) (by omega) _ 1 (by omega) (by rw [tdiv2 (by omega)]; omega) (by omega)
theorem specPower_l {m : Int} (hm : 3 ≤ m) (hM : m ≤ 5000) : ∀ (d : Nat) (b e acc : Int), 0 ≤ b → b < m → 0 ≤ acc → acc < m → 0 ≤ e → e < 2 ^ d → e ≤ 5000 →
    Ev (fun k => spec_l1Power.l0 k b e m acc) (powS m d b e acc) := by
  intro d
  induction d with
  | zero =>
    intro b e acc h1 h2 h3 h4 h5 h6 h7
    refine Ev.step (f := fun _ => some acc) (fun k => ?_) (Ev.now _)
    simp only [spec_l1Power.l0]
    rw [if_neg (by simp at h6; omega)]
  | succ d ih =>
    intro b e acc h1 h2 h3 h4 h5 h6 h7
    by_cases c : e > 0
    · have hbb := wmul (a := b) (b := b) (by omega) (by omega) (by omega) (by omega)
      have hab := wmul (a := acc) (b := b) (by omega) (by omega) (by omega) (by omega)
      have ht := tdiv2 (n := e) (by omega)
      have hb2 := tmod_range (x := b * b) (n := m) (sq_nonneg b) (by omega)
      have ha2 := tmod_range (x := acc * b) (n := m) (Int.mul_nonneg h3 h1) (by omega)
      have he2 : e.tdiv 2 < 2 ^ d := by rw [ht]; rw [Int.pow_succ] at h6; omega
      by_cases c2 : e.tmod 2 = 1
      · refine Ev.step (fun k => ?_) (by simp only [powS, if_pos c, if_pos c2]; exact ih ((b * b).tmod m) (e.tdiv 2) ((acc * b).tmod m) hb2.1 hb2.2 ha2.1 ha2.2 (by omega) he2 (by omega))
        simp only [spec_l1Power.l0]
        rw [if_pos c, if_pos c2, if_neg (by omega), hbb, hab, w64 (x := e.tdiv 2) (by omega) (by omega)]
      · refine Ev.step (fun k => ?_) (by simp only [powS, if_pos c, if_neg c2]; exact ih ((b * b).tmod m) (e.tdiv 2) acc hb2.1 hb2.2 h3 h4 (by omega) he2 (by omega))
        simp only [spec_l1Power.l0]
        rw [if_pos c, if_neg c2, if_neg (by omega), hbb, w64 (x := e.tdiv 2) (by omega) (by omega)]
    · refine Ev.step (f := fun _ => some acc) (fun k => ?_) (by simp only [powS, if_neg c]; exact Ev.now _)
      simp only [spec_l1Power.l0]
      rw [if_neg c]
theorem specResidue_ev {p u : Int} (h : OddP p) (hu : u.natAbs < 2 ^ 63) : Ev (fun k => spec_l1Residue.f k u p) (res p u) := by
  have hp := h.2
  rw [res_pow h]
  unfold spec_l1Residue.f spec_l1Power.f
  have hr := Int.emod_nonneg u (show p ≠ 0 by omega)
  have hr2 := Int.emod_lt_of_pos u (show 0 < p by omega)
  have h1 := Int.emod_nonneg 1 (show p ≠ 0 by omega)
  have h12 := Int.emod_lt_of_pos 1 (show 0 < p by omega)
  have ht := tdiv2 (n := p - 1) (by omega)
  simp only [if_neg (show ¬ p = 0 by omega), specMod_eq (show 0 < p by omega) (by omega) hu, Option.bind_some, w64 (x := p - 1) (by omega) (by omega), w64 (x := (p - 1).tdiv 2) (by omega) (by omega)]
  refine (specPower_l (by omega) (by omega) 13 (u % p) ((p - 1).tdiv 2) (1 % p) hr hr2 h1 h12 (by omega) (by omega) (by omega)).bind ?_
  unfold resPR powR
  split <;> exact Ev.now _
theorem P8_of6 {p : Int} (h : OddP p) : p = 2 ∨ OddP p := Or.inr h
theorem implSq_ev {n p : Int} (h : Plc p) (hn : n ≠ 0) (hN : n.natAbs < 2 ^ 63) : Ev (fun k => impl_localSquare.f k n p) (sqAt n p) := by
  unfold impl_localSquare.f
  rcases h with rfl | h
  · simp only [if_true, code_zero hn]; exact Ev.now _
  · have hp := P7_bd h
    obtain ⟨_, v2, v3, v4, v5, v6, _⟩ := val_spec hp hn hN
    simp only [if_neg (show ¬ p = 0 by omega)]
    refine (split_ev hp hn hN).bind ?_
    simp only
    have hpar := par_cases (val p n)
    have hm : (val p n).tmod 2 = val p n % 2 := Int.tmod_eq_emod_of_nonneg v3
    by_cases c : (val p n).tmod 2 = 0
    · simp only [if_pos c]
      rcases h with rfl | h6
      · simp only [if_true, implRest_eq (a := unit 2 n) (m := 8) (by omega) (by omega) (by omega), Option.bind_some]
        have := unit2 hn hN
        have e : sqAt n 2 = (unit 2 n % 8 == 1) := by
          unfold sqAt code
          simp only [show ¬ (2 : Int) = 0 from by omega, if_false, if_true, show par (val 2 n) = 0 from by omega]
          rcases this with h | h | h | h <;> rw [h] <;> rfl
        rw [e]; exact Ev.now _
      · have h2 := h6.2
        simp only [if_neg (show ¬ p = 2 by omega)]
        refine (implResidue_ev h6 (by omega)).bind ?_
        have e : sqAt n p = (res p (unit p n) == 1) := by
          unfold sqAt code
          simp only [if_neg (show ¬ p = 0 by omega), if_neg (show ¬ p = 2 by omega), show par (val p n) = 0 from by omega]
          by_cases c : res p (unit p n) = 1
          · simp [c]
          · simp [c]
        rw [e]; exact Ev.now _
    · simp only [if_neg c]
      have e : sqAt n p = false := by
        unfold sqAt code
        simp only [if_neg (show ¬ p = 0 by omega), show par (val p n) = 1 from by omega]
        split
        · rename_i h2; subst h2; rw [show par (val 2 n) = 1 from by omega]; simp
        · simp
      rw [e]; exact Ev.now _
theorem specSq_ev {n p : Int} (h : Plc p) (hn : n ≠ 0) (hN : n.natAbs < 2 ^ 63) : Ev (fun k => spec_l2Square.f k n p) (sqAt n p) := by
  unfold spec_l2Square.f
  rcases h with rfl | h
  · simp only [if_true, code_zero hn]; exact Ev.now _
  · have hp := P7_bd h
    obtain ⟨_, v2, v3, v4, v5, v6, _⟩ := val_spec hp hn hN
    simp only [if_neg (show ¬ p = 0 by omega)]
    refine (valuation_ev hp hn hN).bind ?_
    simp only
    have hpar := par_cases (val p n)
    have hm : (val p n).tmod 2 = val p n % 2 := Int.tmod_eq_emod_of_nonneg v3
    by_cases c : (val p n).tmod 2 = 0
    · simp only [if_pos c]
      rcases h with rfl | h6
      · simp only [if_true, specMod_eq (a := unit 2 n) (m := 8) (by omega) (by omega) (by omega), Option.bind_some]
        have := unit2 hn hN
        have e : sqAt n 2 = (unit 2 n % 8 == 1) := by
          unfold sqAt code
          simp only [show ¬ (2 : Int) = 0 from by omega, if_false, if_true, show par (val 2 n) = 0 from by omega]
          rcases this with h | h | h | h <;> rw [h] <;> rfl
        rw [e]; exact Ev.now _
      · have h2 := h6.2
        simp only [if_neg (show ¬ p = 2 by omega)]
        refine (specResidue_ev h6 (by omega)).bind ?_
        have e : sqAt n p = (res p (unit p n) == 1) := by
          unfold sqAt code
          simp only [if_neg (show ¬ p = 0 by omega), if_neg (show ¬ p = 2 by omega), show par (val p n) = 0 from by omega]
          by_cases c : res p (unit p n) = 1
          · simp [c]
          · simp [c]
        rw [e]; exact Ev.now _
    · simp only [if_neg c]
      have e : sqAt n p = false := by
        unfold sqAt code
        simp only [if_neg (show ¬ p = 0 by omega), show par (val p n) = 1 from by omega]
        split
        · rename_i h2; subst h2; rw [show par (val 2 n) = 1 from by omega]; simp
        · simp
      rw [e]
      split <;> exact Ev.now _


/-! ### symbols -/
theorem power_ev {t e : Int} (he : e = 0 ∨ e = 1) (ht : t = 1 ∨ t = -1) : Ev (fun k => impl_power.f k t e) (if e = 1 then t else 1) := by
  refine ⟨2, fun k hk => ?_⟩
  obtain ⟨m, rfl⟩ : ∃ m, k = m + 2 := ⟨k - 2, by omega⟩
  rcases he with rfl | rfl <;> rcases ht with rfl | rfl <;> simp [impl_power.f, impl_power.l0, wrap64]
theorem symOdd {p a b : Int} (h : OddP p) (ha : a ≠ 0) (hb : b ≠ 0) (hA : a.natAbs < 2 ^ 63) (hB : b.natAbs < 2 ^ 63) :
    sym a b p = (if (val p a * val p b) % 2 = 1 ∧ p % 4 = 3 then -1 else 1) * (if val p b % 2 = 1 then res p (unit p a) else 1) * (if val p a % 2 = 1 then res p (unit p b) else 1) := by
  have hp := h.2
  obtain ⟨_, a2, a3, _⟩ := val_spec (p := p) (by omega) ha hA
  obtain ⟨_, b2, b3, _⟩ := val_spec (p := p) (by omega) hb hB
  have ra := res_pm h (tmod_ne a2)
  have rb := res_pm h (tmod_ne b2)
  have pa := par_cases (val p a)
  have pb := par_cases (val p b)
  unfold sym symC code
  simp only [if_neg (show ¬ p = 0 by omega), if_neg (show ¬ p = 2 by omega), Int.mul_emod (val p a) (val p b) 2]
  rcases ra with r | r <;> rcases rb with s | s <;> rcases pa with ⟨q, q'⟩ | ⟨q, q'⟩ <;> rcases pb with ⟨t, t'⟩ | ⟨t, t'⟩ <;> rw [r, s, q, q', t, t'] <;> simp
theorem half_odd {p m : Int} (h : OddP p) (hm : 0 ≤ m) : ((m * (p - 1)).tdiv 2).tmod 2 = (if m % 2 = 1 ∧ p % 4 = 3 then 1 else 0) ∧ (m * ((p - 1).tdiv 2)).tmod 2 = (if m % 2 = 1 ∧ p % 4 = 3 then 1 else 0) := by
  have hp := h.2
  have ho := prime_odd h.1 hp.1
  have e1 : (p - 1).tdiv 2 = (p - 1) / 2 := tdiv2 (by omega)
  have e2 : m * (p - 1) = 2 * (m * ((p - 1) / 2)) := by
    rw [Int.mul_left_comm]; congr 1; omega
  have h1 : 0 ≤ m * ((p - 1) / 2) := Int.mul_nonneg hm (by omega)
  have e3 : (m * (p - 1)).tdiv 2 = m * ((p - 1) / 2) := by rw [e2]; exact Int.mul_tdiv_cancel_left _ (by omega)
  rw [e3, e1, Int.tmod_eq_emod_of_nonneg h1]
  have key : m * ((p - 1) / 2) % 2 = (if m % 2 = 1 ∧ p % 4 = 3 then 1 else 0) := by
    rw [Int.mul_emod]
    have hm2 : m % 2 = 0 ∨ m % 2 = 1 := by omega
    have hq : (p % 4 = 3 ∧ (p - 1) / 2 % 2 = 1) ∨ (p % 4 = 1 ∧ (p - 1) / 2 % 2 = 0) := by omega
    rcases hm2 with e | e <;> rcases hq with ⟨f, g⟩ | ⟨f, g⟩ <;> rw [e, f, g] <;> rfl
  exact ⟨key, key⟩
theorem two8 {x : Int} (h : x = 1 ∨ x = 3 ∨ x = 5 ∨ x = 7) : wrap64 (Int.tdiv (wrap64 (x - 1)) 2) = (x - 1) / 2 ∧ wrap64 (wrap64 (x * x) - 1) = 8 * ((x * x - 1) / 8) ∧ 0 ≤ (x - 1) / 2 ∧ (x - 1) / 2 ≤ 3 ∧ 0 ≤ (x * x - 1) / 8 ∧ (x * x - 1) / 8 ≤ 6 := by
  rcases h with rfl | rfl | rfl | rfl <;> decide +kernel
theorem two16 {u : Int} (h : u % 8 = 1 ∨ u % 8 = 3 ∨ u % 8 = 5 ∨ u % 8 = 7) : ∃ X1 X2, wrap64 (Int.tdiv (wrap64 (u % 16 - 1)) 2) = X1 ∧ wrap64 (Int.tdiv (wrap64 (wrap64 (u % 16 * (u % 16)) - 1)) 8) = X2 ∧
    0 ≤ X1 ∧ X1 ≤ 7 ∧ 0 ≤ X2 ∧ X2 ≤ 28 ∧ X1 % 2 = (u % 8 - 1) / 2 % 2 ∧ X2 % 2 = (u % 8 * (u % 8) - 1) / 8 % 2 := by
  have h2 : u % 16 = u % 8 ∨ u % 16 = u % 8 + 8 := by omega
  rcases h with h | h | h | h <;> rcases h2 with h2 | h2 <;> rw [h2, h] <;> exact ⟨_, _, rfl, rfl, by decide +kernel⟩
theorem par3 (X1 Y1 X2 Y2 i j : Int) : (X1 * Y1 + i * Y2 + j * X2) % 2 = ((X1 % 2) * (Y1 % 2) + i * (Y2 % 2) + j * (X2 % 2)) % 2 := by
  have h1 : (X1 * Y1) % 2 = ((X1 % 2) * (Y1 % 2)) % 2 := Int.mul_emod _ _ _
  have h2 : (i * Y2) % 2 = (i * (Y2 % 2)) % 2 := by rw [Int.mul_emod, Int.mul_emod i (Y2 % 2)]; simp
  have h3 : (j * X2) % 2 = (j * (X2 % 2)) % 2 := by rw [Int.mul_emod, Int.mul_emod j (X2 % 2)]; simp
  omega
theorem symTwo {a b : Int} (ha : a ≠ 0) (hb : b ≠ 0) (hA : a.natAbs < 2 ^ 63) (hB : b.natAbs < 2 ^ 63) :
    sym a b 2 = (if ((unit 2 a % 8 - 1) / 2 * ((unit 2 b % 8 - 1) / 2) + val 2 a * ((unit 2 b % 8 * (unit 2 b % 8) - 1) / 8) + val 2 b * ((unit 2 a % 8 * (unit 2 a % 8) - 1) / 8)) % 2 = 1 then -1 else 1) := by
  have ua := unit2 ha hA
  have ub := unit2 hb hB
  have pa := par_cases (val 2 a)
  have pb := par_cases (val 2 b)
  unfold sym code
  simp only [show ¬ (2 : Int) = 0 from by omega, if_false, if_true]
  rcases ua with h | h | h | h <;> rcases ub with h' | h' | h' | h' <;> rw [h, h'] <;>
    rcases pa with ⟨q, q'⟩ | ⟨q, q'⟩ <;> rcases pb with ⟨t, t'⟩ | ⟨t, t'⟩ <;> rw [q, t] <;>
    first
    | (rw [if_pos (by omega)]; decide)
    | (rw [if_neg (by omega)]; decide)
theorem implSymbol_ev {p a b : Int} (h : Plc p) (ha : a ≠ 0) (hb : b ≠ 0) (hA : a.natAbs < 2 ^ 63) (hB : b.natAbs < 2 ^ 63) : Ev (fun k => impl_symbol.f k a b p) (sym a b p) := by
  unfold impl_symbol.f
  rcases h with rfl | h
  · simp only [if_true]
    unfold sym symC code
    by_cases c1 : a < 0
    · by_cases c2 : b < 0
      · simp only [if_pos c1, if_pos c2]; exact Ev.now _
      · simp only [if_pos c1, if_neg c2]; exact Ev.now _
    · simp only [if_neg c1]
      by_cases c2 : b < 0
      · simp only [if_pos c2]; exact Ev.now _
      · simp only [if_neg c2]; exact Ev.now _
  · have hp := P7_bd h
    obtain ⟨_, a2, a3, a4, a5, a6, _⟩ := val_spec hp ha hA
    obtain ⟨_, b2, b3, b4, b5, b6, _⟩ := val_spec hp hb hB
    simp only [if_neg (show ¬ p = 0 by omega)]
    refine (split_ev hp ha hA).bind ((split_ev hp hb hB).bind ?_)
    simp only
    rcases h with rfl | h6
    · simp only [if_true, implRest_eq (a := unit 2 a) (m := 8) (by omega) (by omega) (by omega), implRest_eq (a := unit 2 b) (m := 8) (by omega) (by omega) (by omega), Option.bind_some]
      have ta := two8 (unit2 ha hA)
      have tb := two8 (unit2 hb hB)
      rw [symTwo ha hb hA hB]
      generalize unit 2 a % 8 = x at ta
      generalize unit 2 b % 8 = y at tb
      generalize val 2 a = i at a3 a4
      generalize val 2 b = j at b3 b4
      simp only [ta.1, tb.1, ta.2.1, tb.2.1]
      obtain ⟨_, _, x1, x2, x3, x4⟩ := ta
      obtain ⟨_, _, y1, y2, y3, y4⟩ := tb
      generalize (x - 1) / 2 = X1 at x1 x2
      generalize (y - 1) / 2 = Y1 at y1 y2
      generalize (x * x - 1) / 8 = X2 at x3 x4
      generalize (y * y - 1) / 8 = Y2 at y3 y4
      have m0 := Int.mul_nonneg x1 y1
      have M0 := mul_le2 x1 x2 y1 y2
      have m1 := Int.mul_nonneg a3 y3
      have M1 := mul_le2 a3 (show i ≤ 63 by omega) y3 y4
      have m2 := Int.mul_nonneg b3 x3
      have M2 := mul_le2 b3 (show j ≤ 63 by omega) x3 x4
      have d1 : i * (8 * Y2) = 8 * (i * Y2) := by rw [Int.mul_left_comm]
      have d2 : j * (8 * X2) = 8 * (j * X2) := by rw [Int.mul_left_comm]
      rw [d1, d2]
      generalize X1 * Y1 = A at m0 M0
      generalize i * Y2 = B at m1 M1
      generalize j * X2 = C at m2 M2
      have e1 : (8 * B).tdiv 8 = B := Int.mul_tdiv_cancel_left _ (by omega)
      have e2 : (8 * C).tdiv 8 = C := Int.mul_tdiv_cancel_left _ (by omega)
      simp only [w64 (x := A) (by omega) (by omega), w64 (x := 8 * B) (by omega) (by omega), w64 (x := 8 * C) (by omega) (by omega), e1, e2, w64 (x := B) (by omega) (by omega), w64 (x := C) (by omega) (by omega),
        w64 (x := A + B) (by omega) (by omega), w64 (x := A + B + C) (by omega) (by omega), Int.tmod_eq_emod_of_nonneg (show 0 ≤ A + B + C by omega)]
      refine (power_ev (t := -1) (e := (A + B + C) % 2) (by omega) (by omega)).bind ?_
      exact Ev.now _
    · have h2 := h6.2
      simp only [if_neg (show ¬ p = 2 by omega)]
      have ra := res_pm h6 (tmod_ne a2)
      have rb := res_pm h6 (tmod_ne b2)
      have ea := implResidue_ev h6 (u := unit p a) (by omega)
      have eb := implResidue_ev h6 (u := unit p b) (by omega)
      rw [symOdd h6 ha hb hA hB]
      generalize res p (unit p a) = r at ra ea
      generalize res p (unit p b) = s at rb eb
      have m1 := Int.mul_nonneg a3 b3
      have M1 := mul_le2 a3 (show val p a ≤ 63 by omega) b3 (show val p b ≤ 63 by omega)
      have m2 := Int.mul_nonneg m1 (show 0 ≤ p - 1 by omega)
      have M2 := mul_le2 m1 (show val p a * val p b ≤ 4000 by omega) (show 0 ≤ p - 1 by omega) (show p - 1 ≤ 4999 by omega)
      have hh := (half_odd h6 m1).1
      have e1 : (val p b).tmod 2 = val p b % 2 := Int.tmod_eq_emod_of_nonneg b3
      have e2 : (val p a).tmod 2 = val p a % 2 := Int.tmod_eq_emod_of_nonneg a3
      have ht := tdiv2 m2
      simp only [w64 (x := val p a * val p b) (by omega) (by omega), w64 (x := p - 1) (by omega) (by omega), w64 (x := val p a * val p b * (p - 1)) (by omega) (by omega), w64 (x := (val p a * val p b * (p - 1)).tdiv 2) (by omega) (by omega), hh, e1, e2]
      refine (power_ev (t := -1) (by split <;> simp) (by omega)).bind (ea.bind ((power_ev (t := r) (e := val p b % 2) (by omega) (by omega)).bind (eb.bind ((power_ev (t := s) (e := val p a % 2) (by omega) (by omega)).bind ?_))))
      have w1 : ∀ x : Int, x = 1 ∨ x = -1 → wrap64 x = x := fun x hx => w64 (by omega) (by omega)
      have f1 : ∀ c : Prop, ∀ _ : Decidable c, (if (if c then (1 : Int) else 0) = 1 then (-1 : Int) else 1) = if c then -1 else 1 := by intro c _; split <;> simp
      rw [f1]
      generalize hX : (if (val p a * val p b) % 2 = 1 ∧ p % 4 = 3 then (-1 : Int) else 1) = X
      generalize hY : (if val p b % 2 = 1 then r else 1) = Y
      generalize hZ : (if val p a % 2 = 1 then s else 1) = Z
      have gX : X = 1 ∨ X = -1 := by rw [← hX]; split <;> simp
      have gY : Y = 1 ∨ Y = -1 := by rw [← hY]; split <;> omega
      have gZ : Z = 1 ∨ Z = -1 := by rw [← hZ]; split <;> omega
      have e3 : wrap64 (wrap64 (X * Y) * Z) = X * Y * Z := by rcases gX with rfl | rfl <;> rcases gY with rfl | rfl <;> rcases gZ with rfl | rfl <;> decide +kernel
      rw [e3]; exact Ev.now _
theorem specHalf_eq (e : Int) (h : 0 ≤ e) : spec_l3Half.f e = some (if e % 2 = 1 then -1 else 1) := by
  unfold spec_l3Half.f
  rw [Int.tmod_eq_emod_of_nonneg h]
  by_cases c : e % 2 = 0
  · rw [if_pos c, if_neg (by omega)]
  · rw [if_neg c, if_pos (by omega)]
theorem specSymbol_ev {p a b : Int} (h : Plc p) (ha : a ≠ 0) (hb : b ≠ 0) (hA : a.natAbs < 2 ^ 63) (hB : b.natAbs < 2 ^ 63) : Ev (fun k => spec_l3Symbol.f k a b p) (sym a b p) := by
  unfold spec_l3Symbol.f
  rcases h with rfl | h
  · simp only [if_true]
    unfold sym symC code
    by_cases c1 : a < 0
    · by_cases c2 : b < 0
      · simp only [if_pos c1, if_pos c2]; exact Ev.now _
      · simp only [if_pos c1, if_neg c2]; exact Ev.now _
    · simp only [if_neg c1]
      by_cases c2 : b < 0
      · simp only [if_pos c2]; exact Ev.now _
      · simp only [if_neg c2]; exact Ev.now _
  · have hp := P7_bd h
    obtain ⟨_, a2, a3, a4, a5, a6, _⟩ := val_spec hp ha hA
    obtain ⟨_, b2, b3, b4, b5, b6, _⟩ := val_spec hp hb hB
    simp only [if_neg (show ¬ p = 0 by omega)]
    refine (valuation_ev hp ha hA).bind ((valuation_ev hp hb hB).bind ?_)
    simp only
    rcases h with rfl | h6
    · simp only [if_true, specMod_eq (a := unit 2 a) (m := 16) (by omega) (by omega) (by omega), specMod_eq (a := unit 2 b) (m := 16) (by omega) (by omega) (by omega), Option.bind_some]
      obtain ⟨X1, X2, f1, f2, x1, x2, x3, x4, x5, x6⟩ := two16 (unit2 ha hA)
      obtain ⟨Y1, Y2, g1, g2, y1, y2, y3, y4, y5, y6⟩ := two16 (unit2 hb hB)
      rw [symTwo ha hb hA hB, par3, ← x5, ← x6, ← y5, ← y6, ← par3]
      simp only [f1, f2, g1, g2]
      generalize val 2 a = i at a3 a4
      generalize val 2 b = j at b3 b4
      have m0 := Int.mul_nonneg x1 y1
      have M0 := mul_le2 x1 x2 y1 y2
      have m1 := Int.mul_nonneg a3 y3
      have M1 := mul_le2 a3 (show i ≤ 63 by omega) y3 y4
      have m2 := Int.mul_nonneg b3 x3
      have M2 := mul_le2 b3 (show j ≤ 63 by omega) x3 x4
      simp only [w64 (x := X1 * Y1) (by omega) (by omega), w64 (x := i * Y2) (by omega) (by omega), w64 (x := j * X2) (by omega) (by omega), w64 (x := X1 * Y1 + i * Y2) (by omega) (by omega), w64 (x := X1 * Y1 + i * Y2 + j * X2) (by omega) (by omega),
        specHalf_eq (X1 * Y1 + i * Y2 + j * X2) (by omega), Option.bind_some]
      exact Ev.now _
    · have h2 := h6.2
      simp only [if_neg (show ¬ p = 2 by omega)]
      have ra := res_pm h6 (tmod_ne a2)
      have rb := res_pm h6 (tmod_ne b2)
      have ea := specResidue_ev h6 (u := unit p a) (by omega)
      have eb := specResidue_ev h6 (u := unit p b) (by omega)
      rw [symOdd h6 ha hb hA hB]
      generalize res p (unit p a) = r at ra ea
      generalize res p (unit p b) = s at rb eb
      have m1 := Int.mul_nonneg a3 b3
      have M1 := mul_le2 a3 (show val p a ≤ 63 by omega) b3 (show val p b ≤ 63 by omega)
      have h3 := tdiv2 (n := p - 1) (by omega)
      have m2 := Int.mul_nonneg m1 (show 0 ≤ (p - 1).tdiv 2 by omega)
      have M2 := mul_le2 m1 (show val p a * val p b ≤ 4000 by omega) (show 0 ≤ (p - 1).tdiv 2 by omega) (show (p - 1).tdiv 2 ≤ 2500 by omega)
      have hh := (half_odd h6 m1).2
      rw [Int.tmod_eq_emod_of_nonneg m2] at hh
      have e1 : (val p b).tmod 2 = val p b % 2 := Int.tmod_eq_emod_of_nonneg b3
      have e2 : (val p a).tmod 2 = val p a % 2 := Int.tmod_eq_emod_of_nonneg a3
      simp only [w64 (x := val p a * val p b) (by omega) (by omega), w64 (x := p - 1) (by omega) (by omega), w64 (x := (p - 1).tdiv 2) (by omega) (by omega), w64 (x := val p a * val p b * (p - 1).tdiv 2) (by omega) (by omega), specHalf_eq _ m2, hh, e1, e2, Option.bind_some]
      have f1 : ∀ c : Prop, ∀ _ : Decidable c, (if (if c then (1 : Int) else 0) = 1 then (-1 : Int) else 1) = if c then -1 else 1 := by intro c _; split <;> simp
      rw [f1]
      generalize hX : (if (val p a * val p b) % 2 = 1 ∧ p % 4 = 3 then (-1 : Int) else 1) = X
      have gX : X = 1 ∨ X = -1 := by rw [← hX]; split <;> simp
      have w2 : ∀ x y : Int, x = 1 ∨ x = -1 → y = 1 ∨ y = -1 → wrap64 (x * y) = x * y ∧ (x * y = 1 ∨ x * y = -1) := by
        intro x y hx hy; rcases hx with rfl | rfl <;> rcases hy with rfl | rfl <;> decide +kernel
      by_cases c1 : val p b % 2 = 1
      · simp only [if_pos c1]
        refine ea.bind ?_
        by_cases c2 : val p a % 2 = 1
        · simp only [if_pos c2]
          refine eb.bind ?_
          rw [(w2 X r gX ra).1, (w2 (X * r) s (w2 X r gX ra).2 rb).1]
          exact Ev.now _
        · simp only [if_neg c2, (w2 X r gX ra).1, Int.mul_one]; exact Ev.now _
      · simp only [if_neg c1]
        by_cases c2 : val p a % 2 = 1
        · simp only [if_pos c2]
          refine eb.bind ?_
          rw [(w2 X s gX rb).1, Int.mul_one]; exact Ev.now _
        · simp only [if_neg c2, Int.mul_one]; exact Ev.now _


/-! ### forms -/
theorem implFormValid_l (xs : List Int) (hx : ∀ x ∈ xs, x.natAbs ≤ 1000000) (hl : xs.length ≤ 100) : ∀ (d j : Nat), j + d = xs.length →
    Ev (fun k => impl_FormValid.l0 k xs xs (xs.length : Int) j) ((xs.drop j).all (fun x => decide (x ≠ 0) && decide (x.natAbs ≤ 30)) && (decide (1 ≤ xs.length) && decide (xs.length ≤ 4))) := by
  intro d
  induction d with
  | zero =>
    intro j hj
    rw [List.drop_of_length_le (by omega)]
    refine Ev.step (f := fun _ => some (decide (1 ≤ xs.length) && decide (xs.length ≤ 4))) (fun k => ?_) (by simpa using Ev.now _)
    simp only [impl_FormValid.l0]
    rw [if_neg (by omega)]
    by_cases c : 1 ≤ xs.length
    · rw [if_pos (by omega), decide_eq_true c, Bool.true_and]; congr 1; exact decide_eq_decide.2 (by omega)
    · rw [if_neg (by omega), decide_eq_false c, Bool.false_and]
  | succ d ih =>
    intro j hj
    have hm := hx _ (rd_mem (xs := xs) (j := j) (by omega))
    rw [rd_drop (show j < xs.length by omega)]
    have := ih (j + 1) (by omega)
    generalize hp : rd xs (j : Int) = p at hm
    rw [List.all_cons]
    by_cases c0 : p = 0
    · rw [decide_eq_false (by omega : ¬ p ≠ 0), Bool.false_and, Bool.false_and, Bool.false_and]
      refine Ev.step (f := fun _ => some false) (fun k => ?_) (Ev.now _)
      simp only [impl_FormValid.l0]
      rw [if_pos (by omega), if_pos (by omega), if_pos (by omega), hp, if_pos c0]
    · have hs : impl_size.f p = some (absI p) := by simp only [impl_size.f]; rw [size_ev (by omega) (by omega)]
      by_cases c : p.natAbs ≤ 30
      · rw [decide_eq_true c0, decide_eq_true c, Bool.true_and, Bool.true_and]
        refine Ev.step (fun k => ?_) this
        simp only [impl_FormValid.l0]
        rw [if_pos (by omega), if_pos (by omega), if_pos (by omega), hp, if_neg c0, hs, Option.bind_some, if_neg (by unfold absI; omega), w64 (x := (j : Int) + 1) (by omega) (by omega)]
        rfl
      · rw [decide_eq_false c, Bool.and_false, Bool.false_and, Bool.false_and]
        refine Ev.step (f := fun _ => some false) (fun k => ?_) (Ev.now _)
        simp only [impl_FormValid.l0]
        rw [if_pos (by omega), if_pos (by omega), if_pos (by omega), hp, if_neg c0, hs, Option.bind_some, if_pos (by unfold absI; omega)]
theorem implFormValid_ev {xs : List Int} (hx : ∀ x ∈ xs, x.natAbs ≤ 1000000) (hl : xs.length ≤ 100) : Ev (fun k => impl_FormValid.f k xs) (formOk xs) :=
  implFormValid_l xs hx hl xs.length 0 (by omega)
theorem specIn_eq (x a b : Int) : spec_l6In.f x a b = some (decide (a ≤ x) && decide (x ≤ b)) := by
  unfold spec_l6In.f
  by_cases c : x ≥ a
  · simp [c, show a ≤ x from c]
  · simp [c, show ¬ a ≤ x from c]
theorem specFormValid_l (xs : List Int) (hl : xs.length ≤ 100) : ∀ (d j : Nat), j + d = xs.length →
    Ev (fun k => spec_FormValid.l0 k xs j) ((xs.drop j).all (fun x => decide (x ≠ 0) && decide (x.natAbs ≤ 30)) && (decide (1 ≤ xs.length) && decide (xs.length ≤ 4))) := by
  intro d
  induction d with
  | zero =>
    intro j hj
    rw [List.drop_of_length_le (by omega)]
    refine Ev.step (f := fun _ => some (decide (1 ≤ xs.length) && decide (xs.length ≤ 4))) (fun k => ?_) (by simpa using Ev.now _)
    simp only [spec_FormValid.l0, specIn_eq, Option.bind_some]
    rw [if_neg (by omega), show decide ((1 : Int) ≤ (xs.length : Int)) = decide (1 ≤ xs.length) from decide_eq_decide.2 (by omega), show decide ((xs.length : Int) ≤ 4) = decide (xs.length ≤ 4) from decide_eq_decide.2 (by omega)]
  | succ d ih =>
    intro j hj
    rw [rd_drop (show j < xs.length by omega)]
    have := ih (j + 1) (by omega)
    generalize hp : rd xs (j : Int) = p
    rw [List.all_cons]
    by_cases c0 : p = 0
    · rw [decide_eq_false (by omega : ¬ p ≠ 0), Bool.false_and, Bool.false_and, Bool.false_and]
      refine Ev.step (f := fun _ => some false) (fun k => ?_) (Ev.now _)
      simp only [spec_FormValid.l0]
      rw [if_pos (by omega), if_pos (by omega), hp, if_pos c0]
    · have hb : (decide (-30 ≤ p) && decide (p ≤ 30)) = decide (p.natAbs ≤ 30) := by
        rw [← Bool.decide_and]; exact decide_eq_decide.2 (by omega)
      by_cases c : p.natAbs ≤ 30
      · rw [decide_eq_true c0, decide_eq_true c, Bool.true_and, Bool.true_and]
        refine Ev.step (fun k => ?_) this
        simp only [spec_FormValid.l0, specIn_eq, Option.bind_some]
        rw [if_pos (by omega), if_pos (by omega), hp, if_neg c0, hb, if_pos (decide_eq_true c), w64 (x := (j : Int) + 1) (by omega) (by omega)]
        rfl
      · rw [decide_eq_false c, Bool.and_false, Bool.false_and, Bool.false_and]
        refine Ev.step (f := fun _ => some false) (fun k => ?_) (Ev.now _)
        simp only [spec_FormValid.l0, specIn_eq, Option.bind_some]
        rw [if_pos (by omega), if_pos (by omega), hp, if_neg c0, hb, decide_eq_false c]
        simp
theorem specFormValid_ev {xs : List Int} (hl : xs.length ≤ 100) : Ev (fun k => spec_FormValid.f k xs) (formOk xs) :=
  specFormValid_l xs hl xs.length 0 (by omega)
theorem pow30 {j : Nat} (h : j ≤ 5) : 30 ^ j ≤ 24300000 := by
  have : 30 ^ j ≤ 30 ^ 5 := Nat.pow_le_pow_right (by omega) h
  omega
theorem implProduct_l (xs : List Int) (hx : ∀ x ∈ xs, Sm x) (hl : xs.length ≤ 5) : ∀ (d j : Nat) (acc : Int), j + d = xs.length → acc.natAbs ≤ 30 ^ j →
    Ev (fun k => impl_product.l0 k acc xs (xs.length : Int) j) (prodF (xs.drop j) acc) := by
  intro d
  induction d with
  | zero =>
    intro j acc hj hA
    rw [List.drop_of_length_le (by omega)]
    refine Ev.step (f := fun _ => some acc) (fun k => ?_) (Ev.now _)
    simp only [impl_product.l0]
    rw [if_neg (by omega)]
  | succ d ih =>
    intro j acc hj hA
    have hm := hx _ (rd_mem (xs := xs) (j := j) (by omega))
    rw [rd_drop (show j < xs.length by omega)]
    have h2 : (acc * rd xs j).natAbs ≤ 30 ^ (j + 1) := by rw [Int.natAbs_mul, Nat.pow_succ]; exact Nat.mul_le_mul hA hm.2
    have h3 := pow30 (show j + 1 ≤ 5 by omega)
    refine Ev.step (fun k => ?_) (ih (j + 1) (acc * rd xs j) (by omega) h2)
    simp only [impl_product.l0]
    rw [if_pos (by omega), if_pos (by omega), if_pos (by omega), w64 (x := acc * rd xs j) (by omega) (by omega), w64 (x := (j : Int) + 1) (by omega) (by omega)]
    rfl
theorem implProduct_ev {xs : List Int} (hx : ∀ x ∈ xs, Sm x) (hl : xs.length ≤ 5) : Ev (fun k => impl_product.f k xs) (prod xs) :=
  implProduct_l xs hx hl xs.length 0 1 (by omega) (by simp)
theorem specProduct_l (xs : List Int) (hx : ∀ x ∈ xs, Sm x) (hl : xs.length ≤ 5) : ∀ (d j : Nat) (acc : Int), j + d = xs.length → acc.natAbs ≤ 30 ^ j →
    Ev (fun k => spec_l4Product.l0 k xs acc j) (prodF (xs.drop j) acc) := by
  intro d
  induction d with
  | zero =>
    intro j acc hj hA
    rw [List.drop_of_length_le (by omega)]
    refine Ev.step (f := fun _ => some acc) (fun k => ?_) (Ev.now _)
    simp only [spec_l4Product.l0]
    rw [if_neg (by omega)]
  | succ d ih =>
    intro j acc hj hA
    have hm := hx _ (rd_mem (xs := xs) (j := j) (by omega))
    rw [rd_drop (show j < xs.length by omega)]
    have h2 : (acc * rd xs j).natAbs ≤ 30 ^ (j + 1) := by rw [Int.natAbs_mul, Nat.pow_succ]; exact Nat.mul_le_mul hA hm.2
    have h3 := pow30 (show j + 1 ≤ 5 by omega)
    refine Ev.step (fun k => ?_) (ih (j + 1) (acc * rd xs j) (by omega) h2)
    simp only [spec_l4Product.l0]
    rw [if_pos (by omega), if_pos (by omega), w64 (x := acc * rd xs j) (by omega) (by omega), w64 (x := (j : Int) + 1) (by omega) (by omega)]
    rfl
theorem specProduct_ev {xs : List Int} (hx : ∀ x ∈ xs, Sm x) (hl : xs.length ≤ 5) : Ev (fun k => spec_l4Product.f k xs) (prod xs) :=
  specProduct_l xs hx hl xs.length 0 1 (by omega) (by simp)
theorem implLess_l (xs : List Int) (hl : xs.length ≤ 100) : ∀ (d j : Nat) (acc : Int), j + d = xs.length → 0 ≤ acc → acc ≤ j →
    Ev (fun k => impl_lessTerms.l0 k acc xs (xs.length : Int) j) (lessF (xs.drop j) acc) := by
  intro d
  induction d with
  | zero =>
    intro j acc hj h0 hA
    rw [List.drop_of_length_le (by omega)]
    refine Ev.step (f := fun _ => some acc) (fun k => ?_) (Ev.now _)
    simp only [impl_lessTerms.l0]
    rw [if_neg (by omega)]
  | succ d ih =>
    intro j acc hj h0 hA
    rw [rd_drop (show j < xs.length by omega)]
    simp only [lessF]
    by_cases c : rd xs j < 0
    · simp only [if_pos c]
      refine Ev.step (fun k => ?_) (ih (j + 1) (acc + 1) (by omega) (by omega) (by omega))
      simp only [impl_lessTerms.l0]
      rw [if_pos (by omega), if_pos (by omega), if_pos (by omega), if_pos c, w64 (x := acc + 1) (by omega) (by omega), w64 (x := (j : Int) + 1) (by omega) (by omega)]
      rfl
    · simp only [if_neg c]
      refine Ev.step (fun k => ?_) (ih (j + 1) acc (by omega) (by omega) (by omega))
      simp only [impl_lessTerms.l0]
      rw [if_pos (by omega), if_pos (by omega), if_pos (by omega), if_neg c, w64 (x := (j : Int) + 1) (by omega) (by omega)]
      rfl
theorem implLess_ev {xs : List Int} (hl : xs.length ≤ 100) : Ev (fun k => impl_lessTerms.f k xs) (less xs) := implLess_l xs hl xs.length 0 0 (by omega) (by omega) (by omega)
theorem specLess_l (xs : List Int) (hl : xs.length ≤ 100) : ∀ (d j : Nat) (acc : Int), j + d = xs.length → 0 ≤ acc → acc ≤ j →
    Ev (fun k => spec_l4Less.l0 k xs acc j) (lessF (xs.drop j) acc) := by
  intro d
  induction d with
  | zero =>
    intro j acc hj h0 hA
    rw [List.drop_of_length_le (by omega)]
    refine Ev.step (f := fun _ => some acc) (fun k => ?_) (Ev.now _)
    simp only [spec_l4Less.l0]
    rw [if_neg (by omega)]
  | succ d ih =>
    intro j acc hj h0 hA
    rw [rd_drop (show j < xs.length by omega)]
    simp only [lessF]
    by_cases c : rd xs j < 0
    · simp only [if_pos c]
      refine Ev.step (fun k => ?_) (ih (j + 1) (acc + 1) (by omega) (by omega) (by omega))
      simp only [spec_l4Less.l0]
      rw [if_pos (by omega), if_pos (by omega), if_pos c, w64 (x := acc + 1) (by omega) (by omega), w64 (x := (j : Int) + 1) (by omega) (by omega)]
      rfl
    · simp only [if_neg c]
      refine Ev.step (fun k => ?_) (ih (j + 1) acc (by omega) (by omega) (by omega))
      simp only [spec_l4Less.l0]
      rw [if_pos (by omega), if_pos (by omega), if_neg c, w64 (x := (j : Int) + 1) (by omega) (by omega)]
      rfl
theorem specLess_ev {xs : List Int} (hl : xs.length ≤ 100) : Ev (fun k => spec_l4Less.f k xs) (less xs) := specLess_l xs hl xs.length 0 0 (by omega) (by omega) (by omega)
theorem rd_take {xs : List Int} {i j : Nat} (h : j < i) : rd (xs.take i) (j : Int) = rd xs (j : Int) := by
  simp [rd, List.getElem?_take, h]
theorem implInn_l {p : Int} (hp : Plc p) (xs : List Int) (hx : ∀ x ∈ xs, Sm x) (hl : xs.length ≤ 5) (i : Nat) (hi : i < xs.length) (v : Int) : ∀ (d j : Nat) (acc : Int), j + d = i → (acc = 1 ∨ acc = -1) →
    Ev (fun k => impl_invariant.l0 k xs p (inn p (rd xs i) ((xs.take i).drop j) acc) xs (xs.length : Int) ((i + 1 : Nat) : Int)) v →
    Ev (fun k => impl_invariant.l1 k xs p acc (rd xs i) xs (xs.length : Int) i (xs.take ((i : Nat) : Int).toNat) ((xs.take ((i : Nat) : Int).toNat).length : Int) j) v := by
  have hlen : (xs.take ((i : Nat) : Int).toNat).length = i := by simp; omega
  intro d
  induction d with
  | zero =>
    intro j acc hj hA hv
    rw [List.drop_of_length_le (by simp; omega)] at hv
    refine Ev.step (fun k => ?_) hv
    simp only [impl_invariant.l1]
    rw [if_neg (by omega), w64 (x := (i : Int) + 1) (by omega) (by omega)]
    rfl
  | succ d ih =>
    intro j acc hj hA hv
    rw [rd_drop (show j < (xs.take i).length by simp; omega), rd_take (by omega)] at hv
    have hm := hx _ (rd_mem (xs := xs) (j := j) (by omega))
    have hm2 := hx _ (rd_mem (xs := xs) (j := i) (by omega))
    have hs := implSymbol_ev hp hm2.1 hm.1 (by have := hm2.2; omega) (by have := hm.2; omega)
    have hpm := pm_mul hA (sym_pm (rd xs i) (rd xs j) p)
    have := ih (j + 1) (acc * sym (rd xs i) (rd xs j) p) (by omega) hpm.1 hv
    refine Ev.step (f := fun k => (impl_symbol.f k (rd xs i) (rd xs j) p).bind fun t127 => (impl_invariant.l1 k xs p (wrap64 (acc * t127)) (rd xs i) xs (xs.length : Int) i (xs.take ((i : Nat) : Int).toNat) ((xs.take ((i : Nat) : Int).toNat).length : Int) ((j + 1 : Nat) : Int))) (fun k => ?_) ?_
    · simp only [impl_invariant.l1]
      rw [if_pos (by omega), if_pos (by omega), if_pos (by omega), show rd (xs.take ((i : Nat) : Int).toNat) (j : Int) = rd xs (j : Int) from rd_take (by omega), w64 (x := (j : Int) + 1) (by omega) (by omega)]
      rfl
    · refine hs.bind ?_
      rw [hpm.2]
      exact this
theorem take_rd {xs : List Int} {i : Nat} (h : i < xs.length) : xs.take (i + 1) = xs.take i ++ [rd xs (i : Int)] := by
  rw [List.take_add_one]; simp [rd, List.getElem?_eq_getElem h]
theorem implInv_l {p : Int} (hp : Plc p) (xs : List Int) (hx : ∀ x ∈ xs, Sm x) (hl : xs.length ≤ 5) : ∀ (d i : Nat) (acc : Int), i + d = xs.length → (acc = 1 ∨ acc = -1) →
    Ev (fun k => impl_invariant.l0 k xs p acc xs (xs.length : Int) i) (outr p (xs.take i) (xs.drop i) acc) := by
  intro d
  induction d with
  | zero =>
    intro i acc hi hA
    rw [List.drop_of_length_le (by omega)]
    refine Ev.step (f := fun _ => some acc) (fun k => ?_) (Ev.now _)
    simp only [impl_invariant.l0]
    rw [if_neg (by omega)]
  | succ d ih =>
    intro i acc hi hA
    rw [rd_drop (show i < xs.length by omega)]
    simp only [outr]
    rw [← take_rd (by omega)]
    have h1 := ih (i + 1) (inn p (rd xs i) (xs.take i) acc) (by omega) (inn_pm _ _ _ _ hA)
    have h2 := implInn_l hp xs hx hl i (by omega) _ i 0 acc (by omega) hA h1
    refine Ev.step (fun k => ?_) h2
    simp only [impl_invariant.l0]
    rw [if_pos (by omega), if_pos (by omega), if_pos (by omega), if_pos (by omega)]
    rfl
theorem implInv_ev {p : Int} (hp : Plc p) {xs : List Int} (hx : ∀ x ∈ xs, Sm x) (hl : xs.length ≤ 5) : Ev (fun k => impl_invariant.f k xs p) (inv xs p) :=
  implInv_l hp xs hx hl xs.length 0 1 (by omega) (by omega)
theorem specInn_l {p : Int} (hp : Plc p) (xs : List Int) (hx : ∀ x ∈ xs, Sm x) (hl : xs.length ≤ 5) (i : Nat) (hi : i < xs.length) (v : Int) : ∀ (d j : Nat) (acc : Int), j + d = i → (acc = 1 ∨ acc = -1) →
    Ev (fun k => spec_l4Invariant.l0 k xs p (inn p (rd xs i) ((xs.take i).drop j) acc) ((i + 1 : Nat) : Int)) v →
    Ev (fun k => spec_l4Invariant.l1 k xs p acc i j) v := by
  intro d
  induction d with
  | zero =>
    intro j acc hj hA hv
    rw [List.drop_of_length_le (by simp; omega)] at hv
    refine Ev.step (fun k => ?_) hv
    simp only [spec_l4Invariant.l1]
    rw [if_neg (by omega), w64 (x := (i : Int) + 1) (by omega) (by omega)]
    rfl
  | succ d ih =>
    intro j acc hj hA hv
    rw [rd_drop (show j < (xs.take i).length by simp; omega), rd_take (by omega)] at hv
    have hm := hx _ (rd_mem (xs := xs) (j := j) (by omega))
    have hm2 := hx _ (rd_mem (xs := xs) (j := i) (by omega))
    have hs := specSymbol_ev hp hm.1 hm2.1 (by have := hm.2; omega) (by have := hm2.2; omega)
    rw [sym_comm] at hs
    have hpm := pm_mul hA (sym_pm (rd xs i) (rd xs j) p)
    have := ih (j + 1) (acc * sym (rd xs i) (rd xs j) p) (by omega) hpm.1 hv
    refine Ev.step (f := fun k => (spec_l3Symbol.f k (rd xs j) (rd xs i) p).bind fun t297 => (spec_l4Invariant.l1 k xs p (wrap64 (acc * t297)) i ((j + 1 : Nat) : Int))) (fun k => ?_) ?_
    · simp only [spec_l4Invariant.l1]
      rw [if_pos (by omega), if_pos (by omega), if_pos (by omega), if_pos (by omega), if_pos (by omega), w64 (x := (j : Int) + 1) (by omega) (by omega)]
      rfl
    · refine hs.bind ?_
      rw [hpm.2]
      exact this
theorem specInv_l {p : Int} (hp : Plc p) (xs : List Int) (hx : ∀ x ∈ xs, Sm x) (hl : xs.length ≤ 5) : ∀ (d i : Nat) (acc : Int), i + d = xs.length → (acc = 1 ∨ acc = -1) →
    Ev (fun k => spec_l4Invariant.l0 k xs p acc i) (outr p (xs.take i) (xs.drop i) acc) := by
  intro d
  induction d with
  | zero =>
    intro i acc hi hA
    rw [List.drop_of_length_le (by omega)]
    refine Ev.step (f := fun _ => some acc) (fun k => ?_) (Ev.now _)
    simp only [spec_l4Invariant.l0]
    rw [if_neg (by omega)]
  | succ d ih =>
    intro i acc hi hA
    rw [rd_drop (show i < xs.length by omega)]
    simp only [outr]
    rw [← take_rd (by omega)]
    have h1 := ih (i + 1) (inn p (rd xs i) (xs.take i) acc) (by omega) (inn_pm _ _ _ _ hA)
    have h2 := specInn_l hp xs hx hl i (by omega) _ i 0 acc (by omega) hA h1
    refine Ev.step (fun k => ?_) h2
    simp only [spec_l4Invariant.l0]
    rw [if_pos (by omega)]
    rfl
theorem specInv_ev {p : Int} (hp : Plc p) {xs : List Int} (hx : ∀ x ∈ xs, Sm x) (hl : xs.length ≤ 5) : Ev (fun k => spec_l4Invariant.f k xs p) (inv xs p) :=
  specInv_l hp xs hx hl xs.length 0 1 (by omega) (by omega)


/-! ### forms vanish -/
theorem sm_neg {n : Int} (h : n ≠ 0 ∧ n.natAbs ≤ 24300000) : wrap64 (-n) = -n ∧ -n ≠ 0 ∧ (-n).natAbs < 2 ^ 63 := ⟨w64 (by omega) (by omega), by omega, by omega⟩
theorem implVan_ev {p : Int} (hp : Plc p) {xs : List Int} (hx : ∀ x ∈ xs, Sm x) (hl : xs.length ≤ 5) : Ev (fun k => impl_vanishes.f k xs p) (van xs p) := by
  unfold impl_vanishes.f van
  have hb := prod_bd4 hx hl
  have hn := sm_neg hb
  refine (implProduct_ev hx hl).bind ?_
  by_cases c0 : p = 0
  · simp only [if_pos c0]
    refine (implLess_ev (by omega)).bind ?_
    by_cases c : less xs > 0
    · simp only [if_pos c, decide_eq_true c, Bool.true_and]; exact Ev.now _
    · simp only [if_neg c, decide_eq_false c, Bool.false_and]; exact Ev.now _
  · simp only [if_neg c0, hn.1]
    by_cases c2 : (xs.length : Int) = 2
    · simp only [if_pos c2]
      refine (implSq_ev hp hn.2.1 hn.2.2).bind ?_
      exact Ev.now _
    · simp only [if_neg c2]
      by_cases c3 : (xs.length : Int) = 3
      · simp only [if_pos c3]
        refine (implInv_ev hp hx hl).bind ((implSymbol_ev hp (by omega) hn.2.1 (by omega) hn.2.2).bind ?_)
        exact Ev.now _
      · simp only [if_neg c3]
        by_cases c4 : (xs.length : Int) = 4
        · simp only [if_pos c4]
          refine (implSq_ev hp hb.1 (by omega)).bind ?_
          by_cases c5 : sqAt (prod xs) p = true
          · simp only [c5, if_true, Bool.not_true, Bool.false_or]
            refine (implInv_ev hp hx hl).bind ((implSymbol_ev hp (by omega) (by omega) (by omega) (by omega)).bind ?_)
            exact Ev.now _
          · simp only [Bool.eq_false_iff.2 c5, Bool.false_eq_true, if_false, Bool.not_false, Bool.true_or]; exact Ev.now _
        · simp only [if_neg c4]; exact Ev.now _
theorem specVan_ev {p : Int} (hp : Plc p) {xs : List Int} (hx : ∀ x ∈ xs, Sm x) (h1 : 1 ≤ xs.length) (hl : xs.length ≤ 5) (h5 : xs.length = 5 → p = 0) : Ev (fun k => spec_l4Vanishes.f k xs p) (van xs p) := by
  unfold spec_l4Vanishes.f van
  have hb := prod_bd4 hx hl
  have hn := sm_neg hb
  by_cases c0 : p = 0
  · simp only [if_pos c0]
    refine (specLess_ev (by omega)).bind ?_
    by_cases c : less xs > 0
    · simp only [if_pos c, decide_eq_true c, Bool.true_and]
      refine (specLess_ev (by omega)).bind ?_
      exact Ev.now _
    · simp only [if_neg c, decide_eq_false c, Bool.false_and]; exact Ev.now _
  · simp only [if_neg c0, hn.1]
    refine (specProduct_ev hx hl).bind ?_
    simp only [hn.1]
    by_cases c1 : (xs.length : Int) = 1
    · simp only [if_pos c1, if_neg (show ¬ (xs.length : Int) = 2 by omega), if_neg (show ¬ (xs.length : Int) = 3 by omega), if_neg (show ¬ (xs.length : Int) = 4 by omega)]; exact Ev.now _
    simp only [if_neg c1]
    by_cases c2 : (xs.length : Int) = 2
    · simp only [if_pos c2]
      refine (specSq_ev hp hn.2.1 hn.2.2).bind ?_
      exact Ev.now _
    · simp only [if_neg c2]
      by_cases c3 : (xs.length : Int) = 3
      · simp only [if_pos c3]
        refine (specInv_ev hp hx hl).bind ((specSymbol_ev hp (by omega) hn.2.1 (by omega) hn.2.2).bind ?_)
        exact Ev.now _
      · simp only [if_neg c3, if_pos (show (xs.length : Int) = 4 by omega)]
        refine (specSq_ev hp hb.1 (by omega)).bind ?_
        by_cases c5 : sqAt (prod xs) p = true
        · simp only [c5, if_true, Bool.not_true, Bool.false_or]
          refine (specInv_ev hp hx hl).bind ((specSymbol_ev hp (by omega) (by omega) (by omega) (by omega)).bind ?_)
          exact Ev.now _
        · simp only [Bool.eq_false_iff.2 c5, Bool.false_eq_true, if_false, Bool.not_false, Bool.true_or]; exact Ev.now _
theorem implPlanes_ev {p : Int} (hp : Plc p) {xs : List Int} (hx : ∀ x ∈ xs, Sm x) (hl : xs.length ≤ 4) : Ev (fun k => impl_planes.f k xs p) (planes xs p) := by
  unfold impl_planes.f planes
  have hb := prod_bd4 hx (by omega)
  have hn := sm_neg hb
  have hs := less_bd xs
  by_cases c0 : p = 0
  · simp only [if_pos c0]
    refine (implLess_ev (by omega)).bind ?_
    rw [w64 (x := (xs.length : Int) - less xs) (by omega) (by omega)]
    exact Ev.now _
  · simp only [if_neg c0]
    refine (implVan_ev hp hx (by omega)).bind ?_
    by_cases cv : van xs p = true
    · simp only [if_pos cv]
      by_cases c4 : (xs.length : Int) = 4
      · simp only [c4, if_true, true_and]
        refine (implProduct_ev hx (by omega)).bind ((implSq_ev hp hb.1 (by omega)).bind ?_)
        by_cases c5 : sqAt (prod xs) p = true
        · simp only [c5, if_true]
          refine (implInv_ev hp hx (by omega)).bind ((implSymbol_ev hp (by omega) (by omega) (by omega) (by omega)).bind ?_)
          have : inv xs p = sym (-1) (-1) p := by
            unfold van at cv
            rw [if_neg c0, if_neg (by omega), if_neg (by omega), if_pos c4, c5] at cv
            simpa using cv
          simp only [if_pos this]; exact Ev.now _
        · simp only [if_neg c5]; exact Ev.now _
      · simp only [c4, false_and, if_false]; exact Ev.now _
    · simp only [if_neg cv]; exact Ev.now _
theorem specPlanes_ev {p : Int} (hp : Plc p) {xs : List Int} (hx : ∀ x ∈ xs, Sm x) (h1 : 1 ≤ xs.length) (hl : xs.length ≤ 4) : Ev (fun k => spec_l9Planes.f k xs p) (planes xs p) := by
  unfold spec_l9Planes.f planes
  have hb := prod_bd4 hx (by omega)
  have hs := less_bd xs
  by_cases c0 : p = 0
  · simp only [if_pos c0]
    refine (specLess_ev (by omega)).bind ((specLess_ev (by omega)).bind ?_)
    rw [w64 (x := (xs.length : Int) - less xs) (by omega) (by omega)]
    exact Ev.now _
  · simp only [if_neg c0]
    refine (specVan_ev hp hx h1 (by omega) (by omega)).bind ?_
    by_cases cv : van xs p = true
    · simp only [if_pos cv]
      by_cases c4 : (xs.length : Int) = 4
      · simp only [c4, if_true, true_and]
        refine (specProduct_ev hx (by omega)).bind ((specSq_ev hp hb.1 (by omega)).bind ?_)
        by_cases c5 : sqAt (prod xs) p = true
        · simp only [c5, if_true]; exact Ev.now _
        · simp only [if_neg c5]; exact Ev.now _
      · simp only [c4, false_and, if_false]; exact Ev.now _
    · simp only [if_neg cv]; exact Ev.now _

/-! ### places -/

/-! ### forms and places are drawn -/
theorem rd_mem' {xs : List Int} {v : Int} (h0 : 0 ≤ v) (h : v < (xs.length : Int)) : rd xs v ∈ xs := by
  have := rd_mem (xs := xs) (j := v.toNat) (by omega)
  rwa [Int.toNat_of_nonneg h0] at this
def PL : List Int := [0, 1, 4, -3, 97, 9, 2, 3, 5, 7, 11, 13]
def GoodF (n : Nat) (xs : List Int) : Prop := xs.length ≤ n ∧ (∀ x ∈ xs, x.natAbs ≤ 31) ∧ (formOk xs = true → ∀ x ∈ xs, x ∈ TT)
theorem form_draw_l {b : List Int} (hb : BytesB b) (n : Nat) (hn : n ≤ 5) (hn1 : 1 ≤ n) : ∀ (d j : Nat) (out : List Int) (q : Int), j + d = n → out.length = j → (∀ x ∈ out, x ∈ TT) → 0 ≤ q → q + 2 * d ≤ 999999999999900 →
    ∃ xs q', GoodF n xs ∧ q ≤ q' ∧ q' ≤ q + 2 * d + 2 ∧ Ev (fun k => spec_l91Form.l0 k out n j b q) (xs, q') := by
  intro d
  induction d with
  | zero =>
    intro j out q hj ho hT hq hQ
    obtain ⟨v1, h1, g1, e1⟩ := pick_ev hb (p := q) (by omega) (by omega) (n := 40) (by omega)
    have hsm : ∀ x ∈ out, x.natAbs ≤ 31 := fun x hx => by have := (TT_sm (hT x hx)).2; omega
    by_cases c : v1 = 0
    · obtain ⟨v2, h2, g2, e2⟩ := pick_ev hb (p := q + 1) (by omega) (by omega) (n := 2) (by omega)
      have hm := rd_mem' (xs := [0, 31]) h2 (by simp; omega)
      refine ⟨out.set 0 (rd [0, 31] v2), q + 1 + 1, ⟨by simp; omega, ?_, ?_⟩, by omega, by omega, ?_⟩
      · intro x hx
        rcases List.mem_or_eq_of_mem_set hx with h | h
        · exact hsm x h
        · subst h; simp only [List.mem_cons, List.not_mem_nil, or_false] at hm; omega
      · intro hk
        exfalso
        obtain ⟨hk, _⟩ := formOk_iff.1 hk
        have := hk (rd [0, 31] v2) (List.mem_set (by omega) _)
        unfold Sm at this
        simp only [List.mem_cons, List.not_mem_nil, or_false] at hm; omega
      · apply Ev.step
        · intro k
          simp only [spec_l91Form.l0, if_neg (show ¬ (j : Int) < (n : Int) by omega)]
          exact rfl
        · refine e1.bind ?_
          simp only [if_pos c, Option.bind_some]
          refine e2.bind ?_
          simp only [if_pos h2, if_pos (show v2 < ((List.length [(0 : Int), 31] : Nat) : Int) from by simp; omega), if_pos (show 0 < (out.length : Int) by omega)]
          exact Ev.now _
    · by_cases c1 : v1 = 1
      · refine ⟨[], q + 1, ⟨by simp, by simp, by simp⟩, by omega, by omega, ?_⟩
        apply Ev.step
        · intro k
          simp only [spec_l91Form.l0, if_neg (show ¬ (j : Int) < (n : Int) by omega)]
          exact rfl
        · refine e1.bind ?_
          simp only [if_neg c, if_pos c1]; exact Ev.now _
      · refine ⟨out, q + 1, ⟨by omega, hsm, fun _ => hT⟩, by omega, by omega, ?_⟩
        apply Ev.step
        · intro k
          simp only [spec_l91Form.l0, if_neg (show ¬ (j : Int) < (n : Int) by omega)]
          exact rfl
        · refine e1.bind ?_
          simp only [if_neg c, if_neg c1]; exact Ev.now _
  | succ d ih =>
    intro j out q hj ho hT hq hQ
    obtain ⟨v1, h1, g1, e1⟩ := pick_ev hb (p := q) (by omega) (by omega) (n := 16) (by omega)
    obtain ⟨v2, h2, g2, e2⟩ := pick_ev hb (p := q + 1) (by omega) (by omega) (n := 5) (by omega)
    have hm := rd_mem' (xs := [1, 2, 3, 5, 6, 7, 1, 10, 12, 3, 15, 4, 21, 1, 30, 8]) h1 (by simp; omega)
    have hlen : v1 < ((List.length [(1 : Int), 2, 3, 5, 6, 7, 1, 10, 12, 3, 15, 4, 21, 1, 30, 8] : Nat) : Int) := by simp; omega
    have ht : rd [1, 2, 3, 5, 6, 7, 1, 10, 12, 3, 15, 4, 21, 1, 30, 8] v1 ∈ TT ∧ -(rd [1, 2, 3, 5, 6, 7, 1, 10, 12, 3, 15, 4, 21, 1, 30, 8] v1) ∈ TT := by
      have : ∀ x ∈ ([1, 2, 3, 5, 6, 7, 1, 10, 12, 3, 15, 4, 21, 1, 30, 8] : List Int), x ∈ TT ∧ -x ∈ TT := by decide +kernel
      exact this _ hm
    generalize hx : rd [1, 2, 3, 5, 6, 7, 1, 10, 12, 3, 15, 4, 21, 1, 30, 8] v1 = x at ht
    have hs := TT_sm ht.1
    unfold Sm at hs
    by_cases c : v2 < 2
    · obtain ⟨xs, q', hg, hq1, hq2, e3⟩ := ih (j + 1) (out ++ [-x]) (q + 1 + 1) (by omega) (by simp; omega) (by intro y hy; rcases List.mem_append.1 hy with h | h; exact hT y h; rw [List.mem_singleton.1 h]; exact ht.2) (by omega) (by omega)
      refine ⟨xs, q', hg, by omega, by omega, ?_⟩
      apply Ev.step
      · intro k
        simp only [spec_l91Form.l0, if_pos (show (j : Int) < (n : Int) by omega), Option.bind_some]
        exact rfl
      · refine e1.bind ?_
        simp only [if_pos h1, if_pos hlen]
        refine e2.bind ?_
        simp only [if_pos c, if_pos (show out.length < 17592186044416 by omega), hx, w64 (x := -x) (by omega) (by omega), w64 (x := (j : Int) + 1) (by omega) (by omega)]
        exact e3
    · obtain ⟨xs, q', hg, hq1, hq2, e3⟩ := ih (j + 1) (out ++ [x]) (q + 1 + 1) (by omega) (by simp; omega) (by intro y hy; rcases List.mem_append.1 hy with h | h; exact hT y h; rw [List.mem_singleton.1 h]; exact ht.1) (by omega) (by omega)
      refine ⟨xs, q', hg, by omega, by omega, ?_⟩
      apply Ev.step
      · intro k
        simp only [spec_l91Form.l0, if_pos (show (j : Int) < (n : Int) by omega), Option.bind_some]
        exact rfl
      · refine e1.bind ?_
        simp only [if_pos h1, if_pos hlen]
        refine e2.bind ?_
        simp only [if_neg c, if_pos (show out.length < 17592186044416 by omega), hx, w64 (x := (j : Int) + 1) (by omega) (by omega)]
        exact e3
theorem form_draw {b : List Int} (hb : BytesB b) {q : Int} (hq : 0 ≤ q) (hQ : q ≤ 999999999999000) (m : Nat) (hm : m ≤ 5) (hm1 : 1 ≤ m) : ∃ xs q', GoodF m xs ∧ q ≤ q' ∧ q' ≤ q + 2 * m + 3 ∧ Ev (fun k => spec_l91Form.f k b q m) (xs, q') := by
  obtain ⟨v1, h1, g1, e1⟩ := pick_ev hb (p := q) (by omega) (by omega) (n := (m : Int)) (by omega)
  obtain ⟨n, hn⟩ : ∃ n : Nat, 1 + v1 = (n : Int) := ⟨(1 + v1).toNat, by omega⟩
  obtain ⟨xs, q', hg, h2, h3, e2⟩ := form_draw_l hb n (by omega) (by omega) n 0 [] (q + 1) (by omega) rfl (by simp) (by omega) (by omega)
  refine ⟨xs, q', ⟨by have := hg.1; omega, hg.2⟩, by omega, by omega, ?_⟩
  unfold spec_l91Form.f
  refine e1.bind ?_
  simp only [hn, w64 (x := (n : Int)) (by omega) (by omega)]
  exact e2

/-! ### cores -/
theorem implCoreIn_l {q : Int} (hq : 2 ≤ q) (hQ : q ≤ 1000000000) (qs : List Int) (i : Nat) (hi : i ≤ 1000000000) (v : Int × Int) : ∀ (d : Nat) (n r : Int), n ≠ 0 → n.natAbs < 2 ^ d → d ≤ 63 → 1 ≤ r → (n * (r * r)).natAbs ≤ 1000000000 →
    Ev (fun k => impl_coreOf.l0 k (coreW q d n r).1 (coreW q d n r).2 qs (qs.length : Int) ((i + 1 : Nat) : Int)) v →
    Ev (fun k => impl_coreOf.l1 k n r q qs (qs.length : Int) i) v := by
  intro d
  have hqq : 4 ≤ q * q := by have := sq_le (show (0 : Int) ≤ 2 by omega) hq; omega
  have hqQ : q * q ≤ 1000000000 * 1000000000 := sq_le (by omega) hQ
  induction d with
  | zero => intro n r hn h; simp at h; omega
  | succ d ih =>
    intro n r hn h hd hr hb hv
    have hnb : n.natAbs ≤ 1000000000 := by
      have h1 : r * r ≠ 0 := Int.mul_ne_zero (by omega) (by omega)
      have := mul_natAbs_le (a := n) h1; omega
    simp only [coreW] at hv
    by_cases c : n.tmod (q * q) = 0
    · rw [if_pos c] at hv
      obtain ⟨h1, h2, h3⟩ := sq_div hq hn c
      have hrq : 1 ≤ r * q := by have := Int.mul_le_mul hr (show (1 : Int) ≤ q by omega) (by omega) (by omega); omega
      have e : n * (r * r) = n.tdiv (q * q) * ((r * q) * (r * q)) := by
        conv => lhs; rw [h2]
        grind
      have hrqb : (r * q).natAbs ≤ 1000000000 := by
        have h4 : (n.tdiv (q * q) * ((r * q) * (r * q))).natAbs ≤ 1000000000 := by rw [← e]; exact hb
        rw [Int.natAbs_mul, Int.natAbs_mul] at h4
        have h5 : 1 ≤ (n.tdiv (q * q)).natAbs := by omega
        have h6 : (r * q).natAbs ≤ (r * q).natAbs * (r * q).natAbs := Nat.le_mul_of_pos_left _ (by omega)
        have h7 := Nat.le_mul_of_pos_left ((r * q).natAbs * (r * q).natAbs) h5
        omega
      refine Ev.step (fun k => ?_) (ih (n.tdiv (q * q)) (r * q) h1 (by rw [Nat.pow_succ] at h; omega) (by omega) hrq (by rw [← e]; exact hb) hv)
      simp only [impl_coreOf.l1]
      rw [w64 (x := q * q) (by omega) (by omega), if_neg (by omega), if_pos c, w64 (x := n.tdiv (q * q)) (by omega) (by omega), w64 (x := r * q) (by omega) (by omega)]
    · rw [if_neg c] at hv
      refine Ev.step (fun k => ?_) hv
      simp only [impl_coreOf.l1]
      rw [w64 (x := q * q) (by omega) (by omega), if_neg (by omega), if_neg c, w64 (x := (i : Int) + 1) (by omega) (by omega)]
      rfl
theorem coreW_more {q : Int} (hq : 2 ≤ q) : ∀ (d e : Nat) (n r : Int), n ≠ 0 → n.natAbs < 2 ^ d → d ≤ e → coreW q e n r = coreW q d n r := by
  intro d
  induction d with
  | zero => intro e n r hn h; simp at h; omega
  | succ d ih =>
    intro e n r hn h he
    obtain ⟨e, rfl⟩ : ∃ m, e = m + 1 := ⟨e - 1, by omega⟩
    simp only [coreW]
    by_cases c : n.tmod (q * q) = 0
    · rw [if_pos c, if_pos c]
      obtain ⟨h1, h2, h3⟩ := sq_div hq hn c
      exact ih e _ _ h1 (by rw [Nat.pow_succ] at h; omega) (by omega)
    · rw [if_neg c, if_neg c]
theorem implCore_l (qs : List Int) (hq : ∀ q ∈ qs, 2 ≤ q ∧ q ≤ 1000000000) (hl : qs.length ≤ 1000000000) : ∀ (d j : Nat) (n r : Int), j + d = qs.length → n ≠ 0 → 1 ≤ r → (n * (r * r)).natAbs ≤ 1000000000 →
    Ev (fun k => impl_coreOf.l0 k n r qs (qs.length : Int) j) (coreLs (qs.drop j) n r) := by
  intro d
  induction d with
  | zero =>
    intro j n r hj hn hr hb
    rw [List.drop_of_length_le (by omega)]
    refine Ev.step (f := fun _ => some (n, r)) (fun k => ?_) (Ev.now _)
    simp only [impl_coreOf.l0]
    rw [if_neg (by omega)]
  | succ d ih =>
    intro j n r hj hn hr hb
    have hm := hq _ (rd_mem (xs := qs) (j := j) (by omega))
    rw [rd_drop (show j < qs.length by omega)]
    simp only [coreLs]
    have hnb : n.natAbs ≤ 1000000000 := by
      have h1 : r * r ≠ 0 := Int.mul_ne_zero (by omega) (by omega)
      have := mul_natAbs_le (a := n) h1; omega
    obtain ⟨g1, g2, g3, g4, g5⟩ := coreW_spec hm.1 64 n r hn (by omega) hr
    have h63 : n.natAbs < 2 ^ 63 := by omega
    have e := coreW_more hm.1 63 64 n r hn h63 (by omega)
    have := implCoreIn_l hm.1 hm.2 qs j (by omega) (coreLs (qs.drop (j + 1)) (coreW (rd qs (j : Int)) 64 n r).1 (coreW (rd qs (j : Int)) 64 n r).2) 63 n r hn h63 (by omega) hr hb (by
      rw [← e]
      exact ih (j + 1) _ _ (by omega) g1 g2 (by rw [← g3]; exact hb))
    refine Ev.step (fun k => ?_) this
    simp only [impl_coreOf.l0]
    rw [if_pos (by omega), if_pos (by omega), if_pos (by omega)]
theorem primes_le {n q : Int} (hn : n ≠ 0) (h : n.natAbs < 2 ^ 63) (hq : q ∈ primes n) : 2 ≤ q ∧ q.natAbs ≤ n.natAbs := by
  obtain ⟨h1, h2⟩ := (primes_iff hn h).1 hq
  exact ⟨h1.1, Nat.le_of_dvd (by omega) (Int.natAbs_dvd_natAbs.2 h2)⟩
theorem implCore_ev {n : Int} (hn : n ≠ 0) (h : n.natAbs ≤ 100000000) : Ev (fun k => impl_coreOf.f k n) (coreF n) := by
  unfold impl_coreOf.f
  refine (primesOf_ev hn (by omega)).bind ?_
  have hp := primes_len n
  exact implCore_l (primes n) (fun q hq => by have := primes_le hn (by omega) hq; omega) (by omega) (primes n).length 0 n 1 (by omega) hn (by omega) (by simpa using by omega)
theorem specCoreIn_l {q : Int} (hq : 2 ≤ q) (hQ : q ≤ 1000000) (v : Int × Int) : ∀ (d : Nat) (n r : Int), n ≠ 0 → n.natAbs < 2 ^ d → d ≤ 63 → 1 ≤ r → (n * (r * r)).natAbs ≤ 1000000000 →
    Ev (fun k => spec_l1Core.l0 k (coreW q d n r).1 (coreW q d n r).2 (q + 1)) v →
    Ev (fun k => spec_l1Core.l1 k n r q) v := by
  intro d
  have hqq : 4 ≤ q * q := by have := sq_le (show (0 : Int) ≤ 2 by omega) hq; omega
  have hqQ : q * q ≤ 1000000 * 1000000 := sq_le (by omega) hQ
  induction d with
  | zero => intro n r hn h; simp at h; omega
  | succ d ih =>
    intro n r hn h hd hr hb hv
    have hnb : n.natAbs ≤ 1000000000 := by
      have h1 : r * r ≠ 0 := Int.mul_ne_zero (by omega) (by omega)
      have := mul_natAbs_le (a := n) h1; omega
    simp only [coreW] at hv
    by_cases c : n.tmod (q * q) = 0
    · rw [if_pos c] at hv
      obtain ⟨h1, h2, h3⟩ := sq_div hq hn c
      have hrq : 1 ≤ r * q := by have := Int.mul_le_mul hr (show (1 : Int) ≤ q by omega) (by omega) (by omega); omega
      have e : n * (r * r) = n.tdiv (q * q) * ((r * q) * (r * q)) := by
        conv => lhs; rw [h2]
        grind
      have hrqb : (r * q).natAbs ≤ 1000000000 := by
        have h4 : (n.tdiv (q * q) * ((r * q) * (r * q))).natAbs ≤ 1000000000 := by rw [← e]; exact hb
        rw [Int.natAbs_mul, Int.natAbs_mul] at h4
        have h5 : 1 ≤ (n.tdiv (q * q)).natAbs := by omega
        have h6 : (r * q).natAbs ≤ (r * q).natAbs * (r * q).natAbs := Nat.le_mul_of_pos_left _ (by omega)
        have h7 := Nat.le_mul_of_pos_left ((r * q).natAbs * (r * q).natAbs) h5
        omega
      refine Ev.step (fun k => ?_) (ih (n.tdiv (q * q)) (r * q) h1 (by rw [Nat.pow_succ] at h; omega) (by omega) hrq (by rw [← e]; exact hb) hv)
      simp only [spec_l1Core.l1]
      rw [w64 (x := q * q) (by omega) (by omega), if_neg (by omega), if_pos c, w64 (x := n.tdiv (q * q)) (by omega) (by omega), w64 (x := r * q) (by omega) (by omega)]
    · rw [if_neg c] at hv
      refine Ev.step (fun k => ?_) hv
      simp only [spec_l1Core.l1]
      rw [w64 (x := q * q) (by omega) (by omega), if_neg (by omega), if_neg c, w64 (x := q + 1) (by omega) (by omega)]
theorem specSize_eq {n : Int} (h : n.natAbs < 2 ^ 63) : spec_l1Size.f n = some (absI n) := by
  unfold spec_l1Size.f
  first
  | rw [size_ev (n := n) (by omega) (by omega)]
  | rw [Int.zero_sub, size_ev (n := n) (by omega) (by omega)]
theorem specCore_l : ∀ (d : Nat) (n r p : Int), n ≠ 0 → 1 ≤ r → (n * (r * r)).natAbs ≤ 1000000000 → 2 ≤ p → 40000 ≤ p + d → p ≤ 50000 → (∀ q : Int, 2 ≤ q → q < p → ¬ q * q ∣ n) →
    ∃ c s, IsCore (n * (r * r)) c s ∧ Ev (fun k => spec_l1Core.l0 k n r p) (c, s) := by
  intro d
  have fin : ∀ (n r p : Int), n ≠ 0 → 1 ≤ r → n.natAbs ≤ 1000000000 → 2 ≤ p → p ≤ 50000 → (∀ q : Int, 2 ≤ q → q < p → ¬ q * q ∣ n) → ¬ p * p ≤ absI n →
      ∃ c s, IsCore (n * (r * r)) c s ∧ Ev (fun k => spec_l1Core.l0 k n r p) (c, s) := by
    intro n r p hn hr hnb hp hP hq c
    have hpp : p * p ≤ 50000 * 50000 := sq_le (by omega) hP
    have hp0 := sq_nonneg p
    refine ⟨n, r, ⟨rfl, hr, hn, fun e he hd => ?_⟩, ?_⟩
    · rcases Int.lt_or_le e p with h | h
      · exact hq e he h hd
      · have h1 := sq_le (by omega) h
        have h2 : (e * e).natAbs ≤ n.natAbs := Nat.le_of_dvd (by omega) (Int.natAbs_dvd_natAbs.2 hd)
        unfold absI at c; omega
    · refine Ev.step (f := fun _ => some (n, r)) (fun k => ?_) (Ev.now _)
      simp only [spec_l1Core.l0, specSize_eq (n := n) (by omega), Option.bind_some]
      rw [w64 (x := p * p) (by omega) (by omega), if_neg c]
  have bd : ∀ (n r : Int), n ≠ 0 → 1 ≤ r → (n * (r * r)).natAbs ≤ 1000000000 → n.natAbs ≤ 1000000000 := by
    intro n r hn hr hb
    have h1 : r * r ≠ 0 := Int.mul_ne_zero (by omega) (by omega)
    have := mul_natAbs_le (a := n) h1; omega
  induction d with
  | zero =>
    intro n r p hn hr hb hp hd hP hq
    have hnb := bd n r hn hr hb
    have := sq_le (show (0 : Int) ≤ 40000 by omega) (show 40000 ≤ p by omega)
    exact fin n r p hn hr hnb hp hP hq (by unfold absI; omega)
  | succ d ih =>
    intro n r p hn hr hb hp hd hP hq
    have hnb := bd n r hn hr hb
    by_cases c : p * p ≤ absI n
    · have hpp : p * p ≤ 50000 * 50000 := sq_le (by omega) hP
      have hp0 := sq_nonneg p
      have hp4 : p < 40000 := by
        rcases Int.lt_or_le p 40000 with h | h
        · exact h
        · have := sq_le (show (0 : Int) ≤ 40000 by omega) h
          unfold absI at c; omega
      have h63 : n.natAbs < 2 ^ 63 := by omega
      obtain ⟨g1, g2, g3, g4, g5⟩ := coreW_spec hp 63 n r hn h63 hr
      obtain ⟨cc, s, hc, he⟩ := ih (coreW p 63 n r).1 (coreW p 63 n r).2 (p + 1) g1 g2 (by rw [← g3]; exact hb) (by omega) (by omega) (by omega) (fun q q1 q2 hqd => by
        rcases Int.lt_or_eq_of_le (show q ≤ p by omega) with h | h
        · exact hq q q1 h (Int.dvd_trans hqd g4)
        · subst h; exact g5 hqd)
      refine ⟨cc, s, by rw [g3]; exact hc, ?_⟩
      refine Ev.step (fun k => ?_) (specCoreIn_l hp (by omega) (cc, s) 63 n r hn h63 (by omega) hr hb he)
      simp only [spec_l1Core.l0, specSize_eq (n := n) (by omega), Option.bind_some]
      rw [w64 (x := p * p) (by omega) (by omega), if_pos c]
    · exact fin n r p hn hr hnb hp hP hq c
theorem specCore_ev {n : Int} (hn : n ≠ 0) (h : n.natAbs ≤ 100000000) : Ev (fun k => spec_l1Core.f k n) (coreF n) := by
  unfold spec_l1Core.f
  obtain ⟨c, s, hc, he⟩ := specCore_l 40000 n 1 2 hn (by omega) (by simpa using by omega) (by omega) (by omega) (by omega) (fun q q1 q2 => by omega)
  have e := core_is hn (by omega) (show IsCore n c s by have := hc; simp only [Int.mul_one] at this; exact this)
  rw [e]; exact he
theorem specCore_zero : Ev (fun k => spec_l1Core.f k 0) (0, 1) := by
  unfold spec_l1Core.f
  refine Ev.step (f := fun _ => some (0, 1)) (fun k => ?_) (Ev.now _)
  simp only [spec_l1Core.l0, specSize_eq (n := 0) (by omega), Option.bind_some]
  rw [w64 (x := (2 : Int) * 2) (by omega) (by omega), if_neg (by unfold absI; omega)]
/-- The core as the reference tells it, of 0 too. -/
def coreZ (n : Int) : Int × Int := if n = 0 then (0, 1) else coreF n
theorem specCoreZ_ev {n : Int} (h : n.natAbs ≤ 100000000) : Ev (fun k => spec_l1Core.f k n) (coreZ n) := by
  unfold coreZ
  by_cases c : n = 0
  · rw [if_pos c, c]; exact specCore_zero
  · rw [if_neg c]; exact specCore_ev c h


/-! ### places of forms -/
theorem index_l (xs : List Int) (v : Int) (hl : xs.length ≤ 1000000) : ∀ (d j : Nat), j + d = xs.length →
    Ev (fun k => slices_Index_int_int.l0 k xs v (xs.length : Int) j) (if (xs.drop j).contains v then (j + (xs.drop j).findIdx (· == v) : Int) else -1) := by
  intro d
  induction d with
  | zero =>
    intro j hj
    rw [List.drop_of_length_le (by omega)]
    refine Ev.step (f := fun _ => some (-1)) (fun k => ?_) (by simpa using Ev.now _)
    simp only [slices_Index_int_int.l0]
    rw [if_neg (by omega)]
  | succ d ih =>
    intro j hj
    rw [rd_drop (show j < xs.length by omega)]
    by_cases c : v = rd xs (j : Int)
    · have e : (if (rd xs (j : Int) :: xs.drop (j + 1)).contains v then ((j : Int) + ((rd xs (j : Int) :: xs.drop (j + 1)).findIdx (· == v) : Int)) else -1) = (j : Int) := by
        rw [← c, List.findIdx_cons, beq_self_eq_true]; simp
      rw [e]
      refine Ev.step (f := fun _ => some (j : Int)) (fun k => ?_) (Ev.now _)
      simp only [slices_Index_int_int.l0]
      rw [if_pos (by omega), if_pos (by omega), if_pos (by omega), if_pos c]
    · have h2 := ih (j + 1) (by omega)
      have e : (if (rd xs (j : Int) :: xs.drop (j + 1)).contains v then ((j : Int) + ((rd xs (j : Int) :: xs.drop (j + 1)).findIdx (· == v) : Int)) else -1) = (if (xs.drop (j + 1)).contains v then (((j + 1 : Nat) : Int) + ((xs.drop (j + 1)).findIdx (· == v) : Int)) else -1) := by
        rw [List.contains_cons, List.findIdx_cons, show (v == rd xs (j : Int)) = false from by simpa using c, show (rd xs (j : Int) == v) = false from by simpa using fun h => c h.symm]
        simp only [Bool.false_or, cond_false]
        split
        · omega
        · rfl
      rw [e]
      refine Ev.step (fun k => ?_) h2
      simp only [slices_Index_int_int.l0]
      rw [if_pos (by omega), if_pos (by omega), if_pos (by omega), if_neg c, w64 (x := (j : Int) + 1) (by omega) (by omega)]
      rfl
theorem contains_ev (xs : List Int) (v : Int) (hl : xs.length ≤ 1000000) : Ev (fun k => slices_Contains_int_int.f k xs v) (xs.contains v) := by
  unfold slices_Contains_int_int.f slices_Index_int_int.f
  refine (index_l xs v hl xs.length 0 (by omega)).bind ?_
  rw [List.drop_zero]
  by_cases c : xs.contains v = true
  · rw [if_pos c, c]
    have : decide ((((0 : Nat) : Int) + ((xs.findIdx (· == v) : Nat) : Int)) ≥ 0) = true := decide_eq_true (by omega)
    rw [this]; exact Ev.now _
  · rw [if_neg c, Bool.eq_false_iff.2 c]; exact Ev.now _
theorem placesIn_l (xs : List Int) (i : Nat) (hi : i < xs.length) (hx5 : xs.length ≤ 100) (ps : List Int) (hp : ps.length ≤ 1000) (v : List Int) : ∀ (d j : Nat) (out : List Int), j + d = ps.length → out.length ≤ 5000 + j →
    Ev (fun k => impl_placesOf.l0 k (addP out (ps.drop j)) xs (xs.length : Int) ((i + 1 : Nat) : Int)) v →
    Ev (fun k => impl_placesOf.l1 k out xs (xs.length : Int) i ps (ps.length : Int) j) v := by
  intro d
  induction d with
  | zero =>
    intro j out hj ho hv
    rw [List.drop_of_length_le (by omega)] at hv
    refine Ev.step (fun k => ?_) hv
    simp only [impl_placesOf.l1]
    rw [if_neg (by omega), w64 (x := (i : Int) + 1) (by omega) (by omega)]
    rfl
  | succ d ih =>
    intro j out hj ho hv
    rw [rd_drop (show j < ps.length by omega)] at hv
    simp only [addP] at hv
    apply Ev.step
    · intro k
      simp only [impl_placesOf.l1]
      rw [if_pos (by omega), if_pos (by omega), if_pos (by omega), w64 (x := (j : Int) + 1) (by omega) (by omega)]
    · refine (contains_ev out (rd ps (j : Int)) (by omega)).bind ?_
      by_cases c : out.contains (rd ps (j : Int)) = true
      · rw [if_pos c] at hv
        simp only [if_pos c]
        exact ih (j + 1) out (by omega) (by omega) hv
      · rw [if_neg c] at hv
        simp only [if_neg c, if_pos (show out.length < 17592186044416 by omega)]
        exact ih (j + 1) (out ++ [rd ps (j : Int)]) (by omega) (by simp; omega) hv
theorem sort_eq (l : List Int) (h1 : 1 ≤ l.length) (h2 : l.length ≤ 1000000) : slices_Sort_int_int.f l = some (sortI l) := by
  unfold slices_Sort_int_int.f sortI; rw [if_pos ⟨h1, by omega⟩]
theorem addAll_len : ∀ (xs out : List Int), (∀ x ∈ xs, Sm x) → out.Nodup → out.length ≤ (addAll out xs).length ∧ (addAll out xs).length ≤ out.length + 40 * xs.length
  | [], out, _, _ => by simp [addAll]
  | x :: xs, out, hx, h => by
    simp only [addAll, List.length_cons]
    obtain ⟨h1, h2, h3⟩ := addP_spec (primes x) out h
    have ih := addAll_len xs (addP out (primes x)) (fun y hy => hx y (by simp [hy])) h1
    have hp := primes_len x
    have hs := (hx x (by simp)).2
    have hle : out.length ≤ (addP out (primes x)).length := by
      have : ∀ (qs o : List Int), o.length ≤ (addP o qs).length := by
        intro qs
        induction qs with
        | nil => intro o; simp [addP]
        | cons q qs ih => intro o; simp only [addP]; split; exact ih o; have := ih (o ++ [q]); simp at this; omega
      exact this _ _
    omega
theorem placesOut_l (xs : List Int) (hx : ∀ x ∈ xs, Sm x) (hl : xs.length ≤ 100) : ∀ (d i : Nat) (out : List Int), i + d = xs.length → out.Nodup → 1 ≤ out.length → out.length ≤ 10 + 40 * i →
    Ev (fun k => impl_placesOf.l0 k out xs (xs.length : Int) i) (sortI (addAll out (xs.drop i))) := by
  intro d
  induction d with
  | zero =>
    intro i out hi hn h1 h2
    rw [List.drop_of_length_le (by omega)]
    refine Ev.step (f := fun _ => some (sortI out)) (fun k => ?_) (Ev.now _)
    simp only [impl_placesOf.l0]
    rw [if_neg (by omega), sort_eq out h1 (by omega)]; rfl
  | succ d ih =>
    intro i out hi hn h1 h2
    have hm := hx _ (rd_mem (xs := xs) (j := i) (by omega))
    rw [rd_drop (show i < xs.length by omega)]
    simp only [addAll]
    have hs := hm.2
    have hpl := primes_len (rd xs (i : Int))
    obtain ⟨a1, a2, a3⟩ := addP_spec (primes (rd xs (i : Int))) out hn
    have a4 := (addAll_len [rd xs (i : Int)] out (by intro x hx; rw [List.mem_singleton.1 hx]; exact hm) hn)
    simp only [addAll, List.length_cons, List.length_nil] at a4
    apply Ev.step
    · intro k
      simp only [impl_placesOf.l0]
      rw [if_pos (by omega), if_pos (by omega), if_pos (by omega)]
    · refine (primesOf_ev hm.1 (by omega)).bind ?_
      refine placesIn_l xs i (by omega) (by omega) (primes (rd xs (i : Int))) (by omega) _ (primes (rd xs (i : Int))).length 0 out (by omega) (by omega) ?_
      rw [List.drop_zero]
      exact ih (i + 1) _ (by omega) a1 (by omega) (by omega)
theorem placesOf_ev {xs : List Int} (hx : ∀ x ∈ xs, Sm x) (hl : xs.length ≤ 100) : Ev (fun k => impl_placesOf.f k xs) (plc xs) := by
  rw [← sortI_plc hx]
  exact placesOut_l xs hx hl xs.length 0 [0, 2] (by omega) (by decide) (by simp) (by simp)
theorem l2Places_l (ps : List Int) (hl : ps.length ≤ 100000100) : ∀ (d j : Nat) (out : List Int), j + d = ps.length → out.length ≤ 2 + j →
    Ev (fun k => spec_l2Places.l0 k out ps j) (out ++ (ps.drop j).filter (fun x => decide (x > 2))) := by
  intro d
  induction d with
  | zero =>
    intro j out hj ho
    rw [List.drop_of_length_le (by omega)]
    refine Ev.step (f := fun _ => some out) (fun k => ?_) (by simpa using Ev.now _)
    simp only [spec_l2Places.l0]
    rw [if_neg (by omega)]
  | succ d ih =>
    intro j out hj ho
    rw [rd_drop (show j < ps.length by omega)]
    by_cases c : rd ps (j : Int) > 2
    · rw [List.filter_cons_of_pos (by simpa using c)]
      have := ih (j + 1) (out ++ [rd ps (j : Int)]) (by omega) (by simp; omega)
      rw [List.append_assoc, List.singleton_append] at this
      refine Ev.step (fun k => ?_) this
      simp only [spec_l2Places.l0]
      rw [if_pos (by omega), if_pos (by omega), if_pos c, if_pos (by omega), w64 (x := (j : Int) + 1) (by omega) (by omega)]
      rfl
    · rw [List.filter_cons_of_neg (by simpa using c)]
      refine Ev.step (fun k => ?_) (ih (j + 1) out (by omega) (by omega))
      simp only [spec_l2Places.l0]
      rw [if_pos (by omega), if_pos (by omega), if_neg c, w64 (x := (j : Int) + 1) (by omega) (by omega)]
      rfl
theorem l2Places_ev {n : Int} (hn : n ≠ 0) (h : n.natAbs ≤ 100000000) : Ev (fun k => spec_l2Places.f k n) (placesL n) := by
  unfold spec_l2Places.f
  refine (l1Primes_ev hn (by omega)).bind ?_
  have := primes_len n
  exact l2Places_l (primes n) (by omega) (primes n).length 0 [0, 2] (by omega) (by simp)
theorem specFormPlaces_ev {xs : List Int} (hl : xs.length ≤ 100) : Ev (fun k => spec_FormPlaces.f k xs) (if formOk xs = true then plc xs else []) := by
  unfold spec_FormPlaces.f
  refine (specFormValid_ev (xs := xs) (by omega)).bind ?_
  by_cases c : formOk xs = true
  · simp only [if_pos c]
    have hk := formOk_iff.1 c
    have hb := prod_bd4 hk.1 (by omega)
    refine (specProduct_ev hk.1 (by omega)).bind ((l2Places_ev hb.1 (by omega)).bind ?_)
    rw [places_prod hk.1 (by omega)]
    exact Ev.now _
  · simp only [if_neg c]; exact Ev.now _
theorem plc_len (xs : List Int) : (plc xs).length ≤ 11 := by unfold plc; exact List.length_filter_le _ _
/-! ### bad places of a form -/
/-! ### planes everywhere -/
theorem implPAll_l {xs : List Int} (hx : ∀ x ∈ xs, Sm x) (hl : xs.length ≤ 4) (ps : List Int) (hp : ∀ p ∈ ps, Plc p) (h11 : ps.length ≤ 100) : ∀ (d j : Nat) (acc : Int), j + d = ps.length →
    Ev (fun k => impl_PlanesAll.l0 k xs acc ps (ps.length : Int) j) (minL (planes xs) (ps.drop j) acc) := by
  intro d
  induction d with
  | zero =>
    intro j acc hj
    rw [List.drop_of_length_le (by omega)]
    refine Ev.step (f := fun _ => some acc) (fun k => ?_) (Ev.now _)
    simp only [impl_PlanesAll.l0]
    rw [if_neg (by omega)]
  | succ d ih =>
    intro j acc hj
    have hP := hp _ (rd_mem (xs := ps) (j := j) (by omega))
    rw [rd_drop (show j < ps.length by omega)]
    apply Ev.step
    · intro k
      simp only [impl_PlanesAll.l0]
      rw [if_pos (by omega), if_pos (by omega), if_pos (by omega), w64 (x := (j : Int) + 1) (by omega) (by omega)]
    · refine (implPlanes_ev hP hx hl).bind ?_
      exact ih (j + 1) _ (by omega)
theorem implPlanesAll_ev {xs : List Int} (h31 : ∀ x ∈ xs, x.natAbs ≤ 1000000) (hl : xs.length ≤ 100) : Ev (fun k => impl_PlanesAll.f k xs) (if formOk xs = true then pall xs else -1) := by
  unfold impl_PlanesAll.f
  refine (implFormValid_ev (xs := xs) h31 (by omega)).bind ?_
  by_cases c : formOk xs = true
  · have hk := formOk_iff.1 c
    have := plc_len xs
    simp only [if_pos c]
    exact (placesOf_ev hk.1 (by omega)).bind (implPAll_l hk.1 hk.2.2 (plc xs) (fun p hp => plc_plc hp) (by omega) (plc xs).length 0 _ (by omega))
  · simp only [if_neg c]; exact Ev.now _
theorem specPAll_l {xs : List Int} (hx : ∀ x ∈ xs, Sm x) (h1 : 1 ≤ xs.length) (hl : xs.length ≤ 4) (ps : List Int) (hp : ∀ p ∈ ps, Plc p) (h11 : ps.length ≤ 100) : ∀ (d j : Nat) (acc : Int), j + d = ps.length →
    Ev (fun k => spec_PlanesAll.l0 k xs ps acc j) (minL (planes xs) (ps.drop j) acc) := by
  intro d
  induction d with
  | zero =>
    intro j acc hj
    rw [List.drop_of_length_le (by omega)]
    refine Ev.step (f := fun _ => some acc) (fun k => ?_) (Ev.now _)
    simp only [spec_PlanesAll.l0]
    rw [if_neg (by omega)]
  | succ d ih =>
    intro j acc hj
    have hP := hp _ (rd_mem (xs := ps) (j := j) (by omega))
    rw [rd_drop (show j < ps.length by omega)]
    apply Ev.step
    · intro k
      simp only [spec_PlanesAll.l0]
      rw [if_pos (by omega), if_pos (by omega), w64 (x := (j : Int) + 1) (by omega) (by omega)]
    · refine (specPlanes_ev hP hx h1 hl).bind ?_
      exact ih (j + 1) _ (by omega)
theorem plc_cons (xs : List Int) : ∃ l, plc xs = 0 :: l := by
  unfold plc PP
  exact ⟨_, List.filter_cons_of_pos (by simp [plOf])⟩
theorem minL_head {f : Int → Int} {a b p : Int} {ps : List Int} (ha : f p ≤ a) (hb : b = f p) : minL f (p :: ps) a = minL f (p :: ps) b := by
  simp only [minL]
  congr 1
  unfold mn; split <;> split <;> omega
theorem specPlanesAll_ev {xs : List Int} (hl : xs.length ≤ 100) : Ev (fun k => spec_PlanesAll.f k xs) (if formOk xs = true then pall xs else -1) := by
  unfold spec_PlanesAll.f
  refine (specFormPlaces_ev (xs := xs) (by omega)).bind ?_
  by_cases c : formOk xs = true
  · have hk := formOk_iff.1 c
    have hln := plc_len xs
    obtain ⟨l, he⟩ := plc_cons xs
    have hne : ¬ ((plc xs).length : Int) = 0 := by rw [he]; simp; omega
    simp only [if_pos c, if_neg hne]
    refine (specPlanes_ev (p := 0) (Or.inl rfl) hk.1 hk.2.1 hk.2.2).bind ?_
    have e : pall xs = minL (planes xs) (plc xs) (planes xs 0) := by
      unfold pall
      rw [he]
      exact minL_head (by have := planes_half xs 0; omega) rfl
    rw [e]
    exact specPAll_l hk.1 hk.2.1 hk.2.2 (plc xs) (fun p hp => plc_plc hp) (by omega) (plc xs).length 0 _ (by omega)
  · simp only [if_neg c]
    simp only [List.length_nil, Int.natCast_zero, if_true]
    exact Ev.now _

/-! ### bad places of a number -/
def vall (xs : List Int) (t : Int) : Bool := formOk xs && (tOk t && (vbad xs t).isEmpty)
theorem isE (l : List Int) : ((l.length : Int) == 0) = l.isEmpty := by cases l <;> simp <;> omega

/-! ### a form that is like another one is drawn -/
theorem b31_set {xs : List Int} {i : Nat} {x : Int} (hx : ∀ y ∈ xs, y.natAbs ≤ 31) (h : x.natAbs ≤ 31) : ∀ y ∈ xs.set i x, y.natAbs ≤ 31 := by
  intro y hy
  rcases List.mem_or_eq_of_mem_set hy with h1 | h1
  · exact hx y h1
  · rw [h1]; exact h
theorem coreZ_bd {n : Int} (h : n.natAbs ≤ 100000000) : (coreZ n).1.natAbs ≤ n.natAbs := by
  unfold coreZ
  by_cases c : n = 0
  · rw [if_pos c, c]; decide
  · rw [if_neg c]; exact (core_le (coreF_is c (by omega))).1
theorem same_j0 {b : List Int} {q : Int} {xs : List Int} (hx : ∀ y ∈ xs, y.natAbs ≤ 31) (hl : xs.length ≤ 5) {i : Int} (h0 : 0 ≤ i) (h1 : i + 1 < (xs.length : Int)) {u w t : Int} (hu : u.natAbs ≤ 31) (hw : w.natAbs ≤ 31) (ht : t.natAbs ≤ 160) (flag : Bool) :
    ∃ ys, (∀ y ∈ ys, y.natAbs ≤ 31) ∧ ys.length = xs.length ∧ Ev (fun k => spec_l91Same.j0 k xs i u w t flag b q) (ys, q) := by
  have e1 : wrap64 (i + 1) = i + 1 := w64 (by omega) (by omega)
  have swap : ∃ ys, (∀ y ∈ ys, y.natAbs ≤ 31) ∧ ys.length = xs.length ∧ (if 0 ≤ i then (if i < (xs.length : Int) then (if 0 ≤ i + 1 then (if i + 1 < (xs.length : Int) then (some (((xs.set (i : Int).toNat w).set (i + 1).toNat u), q)) else none) else none) else none) else none) = some (ys, q) :=
    ⟨(xs.set (i : Int).toNat w).set (i + 1).toNat u, b31_set (b31_set hx hw) hu, by simp, by rw [if_pos h0, if_pos (by omega), if_pos (by omega), if_pos h1]⟩
  obtain ⟨ys, hy1, hy2, hy3⟩ := swap
  cases flag with
  | false =>
    refine ⟨ys, hy1, hy2, Ev.step (f := fun _ => some (ys, q)) (fun k => ?_) (Ev.now _)⟩
    simp only [spec_l91Same.j0, Bool.false_eq_true, if_false, e1]
    exact hy3
  | true =>
    have hm2 : (u * w).natAbs ≤ 961 := by rw [Int.natAbs_mul]; exact Nat.mul_le_mul hu hw
    have hm : (u * w * t).natAbs ≤ 153760 := by rw [Int.natAbs_mul]; exact Nat.mul_le_mul hm2 ht
    have c3 := specCoreZ_ev (n := t) (by omega)
    have d3 := specCoreZ_ev (n := u * w * t) (by omega)
    have c2 := coreZ_bd (n := t) (by omega)
    have d2 := coreZ_bd (n := u * w * t) (by omega)
    have start : ∀ v, Ev (fun k => (spec_l1Size.f (coreZ t).1).bind fun t201 => (if t201 ≤ 30 then ((spec_l1Size.f (coreZ (u * w * t)).1).bind fun t202 => (if t202 ≤ 30 then (if 0 ≤ i then (if i < (xs.length : Int) then (if 0 ≤ i + 1 then (if i + 1 < (xs.length : Int) then (some (((xs.set (i : Int).toNat (coreZ t).1).set (i + 1).toNat (coreZ (u * w * t)).1), q)) else none) else none) else none) else none) else some (ys, q))) else some (ys, q))) v →
        Ev (fun k => spec_l91Same.j0 k xs i u w t true b q) v := by
      intro v hv
      apply Ev.step
      · intro k
        simp only [spec_l91Same.j0, if_true, e1, hy3, w64 (x := u * w) (by omega) (by omega), w64 (x := u * w * t) (by omega) (by omega)]
        exact rfl
      · exact c3.bind (d3.bind hv)
    simp only [specSize_eq (n := (coreZ t).1) (by omega), specSize_eq (n := (coreZ (u * w * t)).1) (by omega), Option.bind_some] at start
    by_cases k1 : absI (coreZ t).1 ≤ 30
    · by_cases k2 : absI (coreZ (u * w * t)).1 ≤ 30
      · refine ⟨(xs.set (i : Int).toNat (coreZ t).1).set (i + 1).toNat (coreZ (u * w * t)).1, b31_set (b31_set hx (by unfold absI at k1; omega)) (by unfold absI at k2; omega), by simp, start _ ?_⟩
        simp only [if_pos k1, if_pos k2, if_pos h0, if_pos (show i < (xs.length : Int) by omega), if_pos (show 0 ≤ i + 1 by omega), if_pos h1]
        exact Ev.now _
      · refine ⟨ys, hy1, hy2, start _ ?_⟩
        simp only [if_pos k1, if_neg k2]; exact Ev.now _
    · refine ⟨ys, hy1, hy2, start _ ?_⟩
      simp only [if_neg k1]; exact Ev.now _
theorem same_draw {b : List Int} (hb : BytesB b) {q : Int} (hq : 0 ≤ q) (hQ : q ≤ 999999999990000) {xs : List Int} (hx : ∀ y ∈ xs, y.natAbs ≤ 31) (hl : xs.length ≤ 5) :
    ∃ ys q', (∀ y ∈ ys, y.natAbs ≤ 31) ∧ ys.length = xs.length ∧ q ≤ q' ∧ q' ≤ q + 4 ∧ Ev (fun k => spec_l91Same.f k b q xs) (ys, q') := by
  by_cases c : (xs.length : Int) < 2
  · refine ⟨xs, q, hx, rfl, by omega, by omega, ?_⟩
    simp only [spec_l91Same.f, Option.bind_some, List.length_nil, List.nil_append, if_pos (show 0 + xs.length < 17592186044416 by omega), if_pos c]
    exact Ev.now _
  · obtain ⟨v1, h1, g1, e1⟩ := pick_ev hb (p := q) (by omega) (by omega) (n := (xs.length : Int) - 1) (by omega)
    obtain ⟨v2, h2, g2, e2⟩ := pick_ev hb (p := q + 1) (by omega) (by omega) (n := 2) (by omega)
    obtain ⟨v3, h3, g3, e3⟩ := pick_ev hb (p := q + 1 + 1) (by omega) (by omega) (n := 2) (by omega)
    obtain ⟨v4, h4, g4, e4⟩ := pick_ev hb (p := q + 1 + 1 + 1) (by omega) (by omega) (n := 3) (by omega)
    have hu := hx _ (rd_mem' (xs := xs) (v := v1) h1 (by omega))
    have hw := hx _ (rd_mem' (xs := xs) (v := v1 + 1) (by omega) (by omega))
    generalize hU : rd xs v1 = u at hu
    generalize hW : rd xs (v1 + 1) = w at hw
    -- the number t
    have ht : ∃ t : Int, t.natAbs ≤ 160 ∧ wrap64 (wrap64 (wrap64 (u * v2) * v2) + wrap64 (wrap64 (w * wrap64 (1 + v3)) * wrap64 (1 + v3))) = t := by
      have c2 : v2 = 0 ∨ v2 = 1 := by omega
      have c3 : v3 = 0 ∨ v3 = 1 := by omega
      rcases c2 with rfl | rfl <;> rcases c3 with rfl | rfl
      · refine ⟨w, by omega, ?_⟩
        rw [w64 (x := (1 : Int) + 0) (by omega) (by omega), w64 (x := w * (1 + 0)) (by omega) (by omega)]; unfold wrap64; omega
      · refine ⟨4 * w, by omega, ?_⟩
        rw [w64 (x := (1 : Int) + 1) (by omega) (by omega), w64 (x := w * (1 + 1)) (by omega) (by omega)]; unfold wrap64; omega
      · refine ⟨u + w, by omega, ?_⟩
        rw [w64 (x := (1 : Int) + 0) (by omega) (by omega), w64 (x := w * (1 + 0)) (by omega) (by omega)]; unfold wrap64; omega
      · refine ⟨u + 4 * w, by omega, ?_⟩
        rw [w64 (x := (1 : Int) + 1) (by omega) (by omega), w64 (x := w * (1 + 1)) (by omega) (by omega)]; unfold wrap64; omega
    obtain ⟨t, ht1, ht2⟩ := ht
    have start : ∀ v, Ev (fun k => if t = 0 then (spec_l91Same.j0 k xs v1 u w t false b (q + 1 + 1 + 1)) else ((spec_l6Rd_pick.f k b (q + 1 + 1 + 1) 3).bind fun bt195 => (spec_l91Same.j0 k xs v1 u w t (decide (bt195.1 > 0)) b bt195.2))) v → Ev (fun k => spec_l91Same.f k b q xs) v := by
      intro v hv
      simp only [spec_l91Same.f, Option.bind_some, List.length_nil, List.nil_append, if_pos (show 0 + xs.length < 17592186044416 by omega), if_neg c, w64 (x := (xs.length : Int) - 1) (by omega) (by omega)]
      refine e1.bind ?_
      simp only [if_pos h1, if_pos (show v1 < (xs.length : Int) by omega), w64 (x := v1 + 1) (by omega) (by omega), if_pos (show 0 ≤ v1 + 1 by omega), if_pos (show v1 + 1 < (xs.length : Int) by omega)]
      refine e2.bind (e3.bind ?_)
      simp only [hU, hW, ht2]
      exact hv
    by_cases c0 : t = 0
    · obtain ⟨ys, y1, y2, y3⟩ := same_j0 (b := b) (q := q + 1 + 1 + 1) hx hl h1 (by omega) hu hw ht1 false
      refine ⟨ys, q + 1 + 1 + 1, y1, y2, by omega, by omega, start _ ?_⟩
      simp only [if_pos c0]; exact y3
    · obtain ⟨ys, y1, y2, y3⟩ := same_j0 (b := b) (q := q + 1 + 1 + 1 + 1) hx hl h1 (by omega) hu hw ht1 (decide (v4 > 0))
      refine ⟨ys, q + 1 + 1 + 1 + 1, y1, y2, by omega, by omega, start _ ?_⟩
      simp only [if_neg c0]
      exact e4.bind y3


/-! ### opposite terms -/
theorem minus_l (xs : List Int) (hx : ∀ x ∈ xs, x.natAbs ≤ 1000000) (hl : xs.length ≤ 1000) : ∀ (d j : Nat) (out : List Int), j + d = xs.length → out.length ≤ j →
    Ev (fun k => spec_l9Minus.l0 k xs out j) (out ++ negF (xs.drop j)) := by
  intro d
  induction d with
  | zero =>
    intro j out hj ho
    rw [List.drop_of_length_le (by omega)]
    refine Ev.step (f := fun _ => some out) (fun k => ?_) (by simpa [negF] using Ev.now _)
    simp only [spec_l9Minus.l0]
    rw [if_neg (by omega)]
  | succ d ih =>
    intro j out hj ho
    have hm := hx _ (rd_mem (xs := xs) (j := j) (by omega))
    rw [rd_drop (show j < xs.length by omega)]
    have h2 := ih (j + 1) (out ++ [-(rd xs (j : Int))]) (by omega) (by simp; omega)
    have e : out ++ negF (rd xs (j : Int) :: xs.drop (j + 1)) = out ++ [-(rd xs (j : Int))] ++ negF (xs.drop (j + 1)) := by simp [negF]
    rw [e]
    refine Ev.step (fun k => ?_) h2
    simp only [spec_l9Minus.l0]
    rw [if_pos (by omega), if_pos (by omega), if_pos (by omega), w64 (x := -(rd xs (j : Int))) (by omega) (by omega), w64 (x := (j : Int) + 1) (by omega) (by omega)]
    rfl
theorem minus_ev {xs : List Int} (hx : ∀ x ∈ xs, x.natAbs ≤ 1000000) (hl : xs.length ≤ 1000) : Ev (fun k => spec_l9Minus.f k xs) (negF xs) := by
  unfold spec_l9Minus.f
  exact minus_l xs hx hl xs.length 0 [] (by omega) (by simp)


/-! ### discriminants; forms that are the same -/
def disc (xs : List Int) : Int := (coreF (prod xs)).1
theorem implDisc_ev {xs : List Int} (h31 : ∀ x ∈ xs, x.natAbs ≤ 1000000) (hl : xs.length ≤ 100) : Ev (fun k => impl_FormDisc.f k xs) (if formOk xs = true then disc xs else 0) := by
  unfold impl_FormDisc.f
  refine (implFormValid_ev (xs := xs) h31 (by omega)).bind ?_
  by_cases c : formOk xs = true
  · have hk := formOk_iff.1 c
    have hb := prod_bd4 hk.1 (by omega)
    simp only [if_pos c]
    refine (implProduct_ev hk.1 (by omega)).bind ((implCore_ev hb.1 (by omega)).bind ?_)
    exact Ev.now _
  · simp only [if_neg c]; exact Ev.now _
theorem implAlike_ev {xs ys : List Int} {p : Int} (hp : Plc p) (hx : ∀ x ∈ xs, Sm x) (hy : ∀ x ∈ ys, Sm x) (h1 : xs.length ≤ 4) (h2 : ys.length ≤ 4) : Ev (fun k => impl_alike.f k xs ys p) (alk xs ys p) := by
  have m := pp_sm hx hy (by omega) (by omega)
  unfold impl_alike.f alk
  by_cases c : p = 0
  · simp only [if_pos c]
    exact (implLess_ev (by omega)).bind ((implLess_ev (by omega)).bind (Ev.now _))
  · simp only [if_neg c]
    refine (implProduct_ev hx (by omega)).bind ((implProduct_ev hy (by omega)).bind ?_)
    rw [w64 (x := prod xs * prod ys) (by omega) (by omega)]
    refine (implSq_ev hp m.1 m.2).bind ?_
    by_cases cs : sqAt (prod xs * prod ys) p = true
    · simp only [cs, if_true, Bool.true_and]
      exact (implInv_ev hp hx (by omega)).bind ((implInv_ev hp hy (by omega)).bind (Ev.now _))
    · simp only [cs, Bool.false_eq_true, if_false, Bool.false_and]; exact Ev.now _
theorem implSame_l {xs ys : List Int} (hx : ∀ x ∈ xs, Sm x) (hy : ∀ x ∈ ys, Sm x) (h1 : xs.length ≤ 4) (h2 : ys.length ≤ 4) (ps : List Int) (hp : ∀ p ∈ ps, Plc p) (h11 : ps.length ≤ 100) : ∀ (d j : Nat), j + d = ps.length →
    Ev (fun k => impl_FormSame.l0 k xs ys ps (ps.length : Int) j) ((ps.drop j).all (fun p => alk xs ys p)) := by
  intro d
  induction d with
  | zero =>
    intro j hj
    rw [List.drop_of_length_le (by omega)]
    refine Ev.step (f := fun _ => some true) (fun k => ?_) (Ev.now _)
    simp only [impl_FormSame.l0]
    rw [if_neg (by omega)]
  | succ d ih =>
    intro j hj
    have hP := hp _ (rd_mem (xs := ps) (j := j) (by omega))
    rw [rd_drop (show j < ps.length by omega), List.all_cons]
    apply Ev.step
    · intro k
      simp only [impl_FormSame.l0]
      rw [if_pos (by omega), if_pos (by omega), if_pos (by omega), w64 (x := (j : Int) + 1) (by omega) (by omega)]
    · refine (implAlike_ev hP hx hy h1 h2).bind ?_
      by_cases c : alk xs ys (rd ps (j : Int)) = true
      · simp only [c, if_true, Bool.true_and]
        exact ih (j + 1) (by omega)
      · simp only [c, Bool.false_eq_true, if_false, Bool.false_and]; exact Ev.now _
/-- Forms with one discriminant, alike at all their places, are the same. -/
theorem implSame_true {xs ys : List Int} (cx : formOk xs = true) (cy : formOk ys = true) (hl : xs.length = ys.length) (hd : disc xs = disc ys) (ha : ∀ p ∈ plc (xs ++ ys), alk xs ys p = true) : Ev (fun k => impl_FormSame.f k xs ys) true := by
  have hx := formOk_iff.1 cx
  have hy := formOk_iff.1 cy
  have bx : ∀ x ∈ xs, x.natAbs ≤ 1000000 := fun x h => by have := (hx.1 x h).2; omega
  have bY : ∀ x ∈ ys, x.natAbs ≤ 1000000 := fun x h => by have := (hy.1 x h).2; omega
  unfold impl_FormSame.f
  refine (implFormValid_ev (xs := xs) bx (by omega)).bind ?_
  simp only [cx, if_true]
  refine (implFormValid_ev (xs := ys) bY (by omega)).bind ?_
  simp only [cy, if_true, if_pos (show (xs.length : Int) = (ys.length : Int) by omega)]
  have e1 := implDisc_ev bx (by omega)
  have e2 := implDisc_ev bY (by omega)
  rw [if_pos cx] at e1
  rw [if_pos cy] at e2
  refine e1.bind (e2.bind ?_)
  rw [hd, bne_self_eq_false]
  apply Ev.step
  · intro k
    simp only [impl_FormSame.j0, Bool.false_eq_true, if_false, slices_Clone_int_int.f, if_pos (show xs.length ≤ 17592186044416 by omega), Option.bind_some, if_pos (show xs.length + ys.length < 17592186044416 by omega)]
    exact rfl
  · have h3 : ∀ x ∈ xs ++ ys, Sm x := by intro x h; rcases List.mem_append.1 h with e | e; exact hx.1 x e; exact hy.1 x e
    have h2 := plc_len (xs ++ ys)
    refine (placesOf_ev h3 (by simp; omega)).bind ?_
    have := implSame_l hx.1 hy.1 hx.2.2 hy.2.2 (plc (xs ++ ys)) (fun p hp => plc_plc hp) (by omega) (plc (xs ++ ys)).length 0 (by omega)
    rw [List.drop_zero, List.all_eq_true.2 ha] at this
    exact this


/-! ### Witt classes -/
def witt (a b : List Int) : Bool := formOk a && (formOk b && (decide (a.length + b.length ≤ 4) && decide (2 * pall (joinW a b) = ((joinW a b).length : Int))))
theorem joinW_len (a b : List Int) : (joinW a b).length = a.length + b.length := by unfold joinW; rw [List.length_append, negF_len]
theorem negF_ok {b : List Int} : formOk (negF b) = formOk b := by
  rw [Bool.eq_iff_iff, formOk_iff, formOk_iff, negF_len]
  constructor
  · rintro ⟨h, h2⟩
    refine ⟨fun x hx => ?_, h2⟩
    have := sm_opp (h (-x) (List.mem_map.2 ⟨x, hx, rfl⟩))
    rwa [Int.neg_neg] at this
  · rintro ⟨h, h2⟩; exact ⟨negF_sm h, h2⟩
theorem joinW_ok {a b : List Int} (ha : formOk a = true) (hb : formOk b = true) : formOk (joinW a b) = decide (a.length + b.length ≤ 4) := by
  have h1 := formOk_iff.1 ha
  have h2 := formOk_iff.1 hb
  rw [Bool.eq_iff_iff, formOk_iff, joinW_len, decide_eq_true_eq]
  constructor
  · rintro ⟨_, _, h⟩; exact h
  · intro h
    refine ⟨fun x hx => ?_, by omega, h⟩
    unfold joinW at hx
    rcases List.mem_append.1 hx with e | e
    · exact h1.1 x e
    · exact negF_sm h2.1 x e
theorem implWitt_l {xs : List Int} (hx : ∀ x ∈ xs, x.natAbs ≤ 1000000) (hl : xs.length ≤ 1000) {v : Bool} (full : List Int) : ∀ (d j : Nat) (out : List Int), j + d = xs.length → out.length ≤ 1000 + j → out ++ negF (xs.drop j) = full →
    Ev (fun k => (impl_PlanesAll.f k full).bind fun t286 => (some ((wrap64 (2 * t286)) == (full.length : Int)))) v →
    Ev (fun k => impl_WittSame.l0 k out xs (xs.length : Int) j) v := by
  intro d
  induction d with
  | zero =>
    intro j out hj ho hf hv
    rw [List.drop_of_length_le (by omega)] at hf
    have : out = full := by simpa [negF] using hf
    subst this
    apply Ev.step
    · intro k
      simp only [impl_WittSame.l0]
      rw [if_neg (by omega)]
    · exact hv
  | succ d ih =>
    intro j out hj ho hf hv
    have hm := hx _ (rd_mem (xs := xs) (j := j) (by omega))
    rw [rd_drop (show j < xs.length by omega)] at hf
    refine Ev.step (fun k => ?_) (ih (j + 1) (out ++ [-(rd xs (j : Int))]) (by omega) (by simp; omega) (by rw [← hf]; simp [negF]) hv)
    simp only [impl_WittSame.l0]
    rw [if_pos (by omega), if_pos (by omega), if_pos (by omega), if_pos (by omega), w64 (x := -(rd xs (j : Int))) (by omega) (by omega), w64 (x := (j : Int) + 1) (by omega) (by omega)]
    rfl
theorem joinW_bd {a b : List Int} (ha : ∀ x ∈ a, x.natAbs ≤ 1000000) (hb : ∀ x ∈ b, x.natAbs ≤ 1000000) : ∀ x ∈ joinW a b, x.natAbs ≤ 1000000 := by
  intro x hx
  unfold joinW at hx
  rcases List.mem_append.1 hx with e | e
  · exact ha x e
  · obtain ⟨y, hy, rfl⟩ := List.mem_map.1 e
    have := hb y hy; omega
theorem implWitt_ev {a b : List Int} (ha : ∀ x ∈ a, x.natAbs ≤ 1000000) (hb : ∀ x ∈ b, x.natAbs ≤ 1000000) (hla : a.length ≤ 50) (hlb : b.length ≤ 50) : Ev (fun k => impl_WittSame.f k a b) (witt a b) := by
  have stop : Ev (fun k => impl_WittSame.j0 k a b true) false := Ev.step (f := fun _ => some false) (fun k => by simp [impl_WittSame.j0]) (Ev.now _)
  unfold impl_WittSame.f witt
  refine (implFormValid_ev (xs := a) ha (by omega)).bind ?_
  by_cases c1 : formOk a = true
  · simp only [c1, if_true, Bool.true_and]
    refine (implFormValid_ev (xs := b) hb (by omega)).bind ?_
    by_cases c2 : formOk b = true
    · simp only [c2, if_true, Bool.true_and, w64 (x := (a.length : Int) + (b.length : Int)) (by omega) (by omega)]
      by_cases c3 : a.length + b.length ≤ 4
      · have hj : formOk (joinW a b) = true := by rw [joinW_ok c1 c2]; exact decide_eq_true c3
        have hp := pall_bd (joinW a b)
        have hjl := joinW_len a b
        simp only [decide_eq_false (show ¬ (a.length : Int) + (b.length : Int) > 4 by omega), decide_eq_true c3, Bool.true_and]
        apply Ev.step
        · intro k
          simp only [impl_WittSame.j0, Bool.false_eq_true, if_false, slices_Clone_int_int.f, if_pos (show a.length ≤ 17592186044416 by omega), Option.bind_some]
          exact rfl
        · refine implWitt_l hb (by omega) (joinW a b) b.length 0 a (by omega) (by omega) (by rw [List.drop_zero]; rfl) ?_
          have := implPlanesAll_ev (joinW_bd ha hb) (by omega)
          rw [if_pos hj] at this
          refine this.bind ?_
          rw [w64 (x := 2 * pall (joinW a b)) (by omega) (by omega)]
          have e : (2 * pall (joinW a b) == ((joinW a b).length : Int)) = decide (2 * pall (joinW a b) = ((joinW a b).length : Int)) := by rw [Bool.eq_iff_iff]; simp
          rw [e]; exact Ev.now _
      · simp only [decide_eq_true (show (a.length : Int) + (b.length : Int) > 4 by omega), decide_eq_false c3, Bool.false_and]
        exact stop
    · simp only [c2, Bool.false_eq_true, if_false, Bool.false_and]; exact stop
  · simp only [c1, Bool.false_eq_true, if_false, Bool.false_and]; exact stop
theorem specWitt_ev {a b : List Int} (hb : ∀ x ∈ b, x.natAbs ≤ 1000000) (hla : a.length ≤ 50) (hlb : b.length ≤ 50) : Ev (fun k => spec_WittSame.f k a b) (witt a b) := by
  have hn := negF_len b
  unfold spec_WittSame.f witt
  refine (minus_ev (xs := b) hb (by omega)).bind ?_
  unfold spec_FormJoin.f
  simp only [Option.bind_some, List.length_nil, List.nil_append, if_pos (show 0 + a.length < 17592186044416 by omega), if_pos (show a.length + (negF b).length < 17592186044416 by omega)]
  by_cases c1 : formOk a = true
  · by_cases c2 : formOk b = true
    · by_cases c3 : a.length + b.length ≤ 4
      · have hj : formOk (joinW a b) = true := by rw [joinW_ok c1 c2]; exact decide_eq_true c3
        have hp := pall_bd (joinW a b)
        have hjl := joinW_len a b
        have e0 : Ev (fun k => (spec_FormValid.f k a).bind fun t374 => (if t374 = true then ((spec_FormValid.f k (negF b)).bind fun t375 => (if t375 = true then ((spec_FormValid.f k (a ++ negF b)).bind fun t376 => (if t376 = true then (some (a ++ negF b, true)) else (some ((([] : List Int)), false)))) else (some ((([] : List Int)), false)))) else (some ((([] : List Int)), false)))) (joinW a b, true) := by
          refine (specFormValid_ev (xs := a) (by omega)).bind ?_
          simp only [c1, if_true]
          refine (specFormValid_ev (xs := negF b) (by omega)).bind ?_
          simp only [negF_ok, c2, if_true]
          refine (specFormValid_ev (xs := a ++ negF b) (by rw [List.length_append]; omega)).bind ?_
          have : formOk (a ++ negF b) = true := hj
          simp only [this, if_true]
          exact Ev.now _
        refine e0.bind ?_
        simp only [if_true]
        have := specPlanesAll_ev (xs := joinW a b) (by omega)
        rw [if_pos hj] at this
        refine this.bind ?_
        rw [w64 (x := 2 * pall (joinW a b)) (by omega) (by omega)]
        have e : (2 * pall (joinW a b) == ((joinW a b).length : Int)) = decide (2 * pall (joinW a b) = ((joinW a b).length : Int)) := by rw [Bool.eq_iff_iff]; simp
        rw [e, c1, c2, decide_eq_true c3, Bool.true_and, Bool.true_and, Bool.true_and]; exact Ev.now _
      · have hj : formOk (joinW a b) = false := by rw [joinW_ok c1 c2]; exact decide_eq_false c3
        have e0 : Ev (fun k => (spec_FormValid.f k a).bind fun t374 => (if t374 = true then ((spec_FormValid.f k (negF b)).bind fun t375 => (if t375 = true then ((spec_FormValid.f k (a ++ negF b)).bind fun t376 => (if t376 = true then (some (a ++ negF b, true)) else (some ((([] : List Int)), false)))) else (some ((([] : List Int)), false)))) else (some ((([] : List Int)), false)))) (([] : List Int), false) := by
          refine (specFormValid_ev (xs := a) (by omega)).bind ?_
          simp only [c1, if_true]
          refine (specFormValid_ev (xs := negF b) (by omega)).bind ?_
          simp only [negF_ok, c2, if_true]
          refine (specFormValid_ev (xs := a ++ negF b) (by rw [List.length_append]; omega)).bind ?_
          have : formOk (a ++ negF b) = false := hj
          simp only [this, Bool.false_eq_true, if_false]
          exact Ev.now _
        refine e0.bind ?_
        simp only [Bool.false_eq_true, if_false, decide_eq_false c3, Bool.false_and, Bool.and_false]
        exact Ev.now _
    · have e0 : Ev (fun k => (spec_FormValid.f k a).bind fun t374 => (if t374 = true then ((spec_FormValid.f k (negF b)).bind fun t375 => (if t375 = true then ((spec_FormValid.f k (a ++ negF b)).bind fun t376 => (if t376 = true then (some (a ++ negF b, true)) else (some ((([] : List Int)), false)))) else (some ((([] : List Int)), false)))) else (some ((([] : List Int)), false)))) (([] : List Int), false) := by
        refine (specFormValid_ev (xs := a) (by omega)).bind ?_
        simp only [c1, if_true]
        refine (specFormValid_ev (xs := negF b) (by omega)).bind ?_
        simp only [negF_ok, c2, Bool.false_eq_true, if_false]
        exact Ev.now _
      refine e0.bind ?_
      simp only [Bool.false_eq_true, if_false, c2, Bool.false_and, Bool.and_false]
      exact Ev.now _
  · have e0 : Ev (fun k => (spec_FormValid.f k a).bind fun t374 => (if t374 = true then ((spec_FormValid.f k (negF b)).bind fun t375 => (if t375 = true then ((spec_FormValid.f k (a ++ negF b)).bind fun t376 => (if t376 = true then (some (a ++ negF b, true)) else (some ((([] : List Int)), false)))) else (some ((([] : List Int)), false)))) else (some ((([] : List Int)), false)))) (([] : List Int), false) := by
      refine (specFormValid_ev (xs := a) (by omega)).bind ?_
      simp only [c1, Bool.false_eq_true, if_false]
      exact Ev.now _
    refine e0.bind ?_
    simp only [Bool.false_eq_true, if_false, c1, Bool.false_and]
    exact Ev.now _


theorem wittDraw_ev {l : List Int} (h : ∀ x ∈ l, (Lit.int .u8 x).wf = true) : ∃ a b, a.length ≤ 10 ∧ b.length ≤ 10 ∧ (∀ x ∈ a, x.natAbs ≤ 31) ∧ (∀ x ∈ b, x.natAbs ≤ 31) ∧ Ev (fun k => spec_DrawWittSame.f k l) (a, b) := by
  obtain ⟨b, hb, ho⟩ := open_ev h
  obtain ⟨xs, q1, hg, h2, h3, e2⟩ := form_draw hb (q := 0) (by omega) (by omega) 2 (by omega) (by omega)
  have hl := hg.1
  obtain ⟨v, h4, g4, e4⟩ := pick_ev hb (p := q1) (by omega) (by omega) (n := 3) (by omega)
  obtain ⟨zs, q3, hz, z2, z3, ez⟩ := form_draw hb (q := q1 + 1) (by omega) (by omega) 3 (by omega) (by omega)
  obtain ⟨ws, q5, hw, w2, w3, ew⟩ := form_draw hb (q := q1 + 1) (by omega) (by omega) 1 (by omega) (by omega)
  obtain ⟨ys, q2, y1, y2, y3, y4, ey⟩ := same_draw hb (q := q1 + 1) (by omega) (by omega) hg.2.1 (by omega)
  have hzl := hz.1
  have hwl := hw.1
  by_cases c0 : v = 0
  · by_cases ck : formOk xs = true
    · refine ⟨xs, ys, by omega, by omega, hg.2.1, y1, ?_⟩
      simp only [spec_DrawWittSame.f, ho, Option.bind_some]
      refine e2.bind (e4.bind ?_)
      simp only [if_pos c0]
      refine (specFormValid_ev (xs := xs) (by omega)).bind ?_
      simp only [ck, if_true]
      exact ey.bind (Ev.now _)
    · refine ⟨xs, zs, by omega, by omega, hg.2.1, hz.2.1, ?_⟩
      simp only [spec_DrawWittSame.f, ho, Option.bind_some]
      refine e2.bind (e4.bind ?_)
      simp only [if_pos c0]
      refine (specFormValid_ev (xs := xs) (by omega)).bind ?_
      simp only [ck, Bool.false_eq_true, if_false]
      exact ez.bind (Ev.now _)
  · by_cases c1 : v = 1
    · refine ⟨xs ++ [1, -1], ws, by simp; omega, by omega, ?_, hw.2.1, ?_⟩
      · intro x hx
        rcases List.mem_append.1 hx with e | e
        · exact hg.2.1 x e
        · simp only [List.mem_cons, List.not_mem_nil, or_false] at e; omega
      · simp only [spec_DrawWittSame.f, ho, Option.bind_some]
        refine e2.bind (e4.bind ?_)
        simp only [if_neg c0, if_pos c1, if_pos (show xs.length + ([1, -1] : List Int).length < 17592186044416 by simp; omega)]
        exact ew.bind (Ev.now _)
    · refine ⟨xs, zs, by omega, by omega, hg.2.1, hz.2.1, ?_⟩
      simp only [spec_DrawWittSame.f, ho, Option.bind_some]
      refine e2.bind (e4.bind ?_)
      simp only [if_neg c0, if_neg c1]
      exact ez.bind (Ev.now _)
theorem holds : laws_FnWitt.Pure := by
  intro l0 _ _ hw
  refine Ev.rounds ?_
  unfold laws_FnWitt.f
  by_cases big : (l0.length : Int) > 1048576
  · simp only [if_pos big]; exact Ev.now _
  obtain ⟨a, b, hla, hlb, ha31, hb31, hd⟩ := wittDraw_ev hw
  have ha : ∀ x ∈ a, x.natAbs ≤ 1000000 := fun x h => by have := ha31 x h; omega
  have hb : ∀ x ∈ b, x.natAbs ≤ 1000000 := fun x h => by have := hb31 x h; omega
  simp only [if_neg big]
  refine hd.bind ((implWitt_ev ha hb (by omega) (by omega)).bind ((specWitt_ev (a := a) hb (by omega) (by omega)).bind ?_))
  simp only [bne_self_eq_false, Bool.false_eq_true, if_false]
  by_cases c : witt a b = true
  · have c0 := c
    unfold witt at c0
    simp only [Bool.and_eq_true, decide_eq_true_eq] at c0
    obtain ⟨k1, k2, k3, k4⟩ := c0
    have h1 := formOk_iff.1 k1
    have h2 := formOk_iff.1 k2
    have hs := witt_symm h1.1 h2.1 h1.2.1 h2.2.1 k3 k4
    have hba : witt b a = true := by
      unfold witt
      rw [k1, k2, decide_eq_true (show b.length + a.length ≤ 4 by omega), decide_eq_true hs]; rfl
    simp only [c, Bool.not_true]
    apply Ev.step
    · intro k
      simp only [laws_FnWitt.j0, Bool.false_eq_true, if_false]
      exact rfl
    refine (implWitt_ev hb ha (by omega) (by omega)).bind ?_
    have hjl := joinW_len a b
    have hev : ((a.length : Int) + (b.length : Int)).tmod 2 = 0 := by rw [Int.tmod_eq_emod_of_nonneg (by omega)]; omega
    simp only [hba, if_true, w64 (x := (a.length : Int) + (b.length : Int)) (by omega) (by omega), if_pos hev]
    by_cases ce : (a.length : Int) = (b.length : Int)
    · simp only [if_pos ce]
      have hel : a.length = b.length := by omega
      exact (implSame_true k1 k2 hel (witt_disc h1.1 h2.1 h1.2.1 hel k3 k4) (fun p hp => (witt_alike h1.1 h2.1 h1.2.1 hel k3 k4 hp).2)).bind (f := fun _ t => some t) (Ev.now _)
    · simp only [if_neg ce]; exact Ev.now _
  · simp only [Bool.eq_false_iff.2 c, Bool.not_false]
    refine Ev.step (f := fun _ => some true) (fun k => ?_) (Ev.now _)
    simp [laws_FnWitt.j0]

end Go.Proofs.Ytihadpckmcebgaa.QFnWitt
