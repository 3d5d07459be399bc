/- Quaternions. -/
import Derived.Test.YtfhehcgefbknbaaPFnQuatMulx5
import Derived.Test.YtfhehcgefbknbaaQuat
import Derived.Test.YtfhehcgefbknbaaPrm
set_option linter.unusedVariables false
set_option linter.unusedSimpArgs false
namespace Go.Proofs.Ytfhehcgefbknbaa.QFnQuatMul
open Go.RowKit Go.Proofs.Ytfhehcgefbknbaa.PFnQuatMul Go.Proofs.YtfhehcgefbknbaaW.PrintWords Go.Proofs.YtfhehcgefbknbaaW.PrintLast Go.Proofs.YtfhehcgefbknbaaW.PrintMore Locg

/-! ### draws -/
theorem xor_i64_nat (a b : Nat) (ha : a < 9223372036854775808) (hb : b < 9223372036854775808) : Go.bits .xor .i64 (a : Int) (b : Int) = ((a ^^^ b : Nat) : Int) := by
  have hx : a ^^^ b < 2 ^ 63 := Nat.xor_lt_two_pow (by omega) (by omega)
  have h1 : (BitVec.ofInt 64 (a : Int)).toNat = a := by
    rw [BitVec.ofInt_natCast, BitVec.toNat_ofNat]; exact Nat.mod_eq_of_lt (by omega)
  have h2 : (BitVec.ofInt 64 (b : Int)).toNat = b := by
    rw [BitVec.ofInt_natCast, BitVec.toNat_ofNat]; exact Nat.mod_eq_of_lt (by omega)
  show IntKind.i64.wrap ((BitVec.ofInt 64 (a : Int) ^^^ BitVec.ofInt 64 (b : Int)).toNat : Int) = _
  rw [BitVec.toNat_xor, h1, h2]
  have hw : ∀ n : Int, IntKind.i64.wrap n = wrap64 n := fun n => by simp [IntKind.wrap, wrap64, IntKind.bits, IntKind.signed]; omega
  rw [hw]
  exact w64' (by omega) (by omega)
theorem xor_nonneg (a b : Int) (ha : 0 ≤ a) (hA : a < 9223372036854775808) (hb : 0 ≤ b) (hB : b < 9223372036854775808) : 0 ≤ Go.bits .xor .i64 a b := by
  obtain ⟨a, rfl⟩ := Int.eq_ofNat_of_zero_le ha
  obtain ⟨b, rfl⟩ := Int.eq_ofNat_of_zero_le hb
  rw [xor_i64_nat a b (by omega) (by omega)]
  exact Int.natCast_nonneg _
theorem tmod_range {x n : Int} (hx : 0 ≤ x) (hn : 1 ≤ n) : 0 ≤ x.tmod n ∧ x.tmod n < n := by
  rw [Int.tmod_eq_emod_of_nonneg hx]; exact ⟨Int.emod_nonneg _ (by omega), Int.emod_lt_of_pos _ (by omega)⟩
def BytesB (b : List Int) : Prop := (∀ x ∈ b, 0 ≤ x ∧ x ≤ 255) ∧ b.length ≤ 2000
theorem BytesB.rd_ {b : List Int} (h : BytesB b) (i : Int) : 0 ≤ rd b i ∧ rd b i ≤ 255 := by
  unfold rd
  by_cases c : i.toNat < b.length
  · have := h.1 (b[i.toNat]) (by simp)
    simpa [List.getElem?_eq_getElem c] using this
  · simp [List.getElem?_eq_none (show b.length ≤ i.toNat by omega)]
theorem pick_ev {b : List Int} (hb : BytesB b) {p : Int} (hp : 0 ≤ p) (hP : p ≤ 1000000) {n : Int} (hn : 1 ≤ n) :
    ∃ v, 0 ≤ v ∧ v < n ∧ Ev (fun k => spec_l6Rd_pick.f k b p n) (v, p + 1) := by
  have hl := hb.2
  rcases Nat.eq_zero_or_pos b.length with h0 | h0
  · refine ⟨0, by omega, by omega, Ev.step (f := fun _ => some (0, p + 1)) (fun k => ?_) (Ev.now _)⟩
    simp only [spec_l6Rd_pick.f, spec_l6Rd_pick.j0]
    rw [if_neg (by omega), w64 (x := p + 1) (by omega) (by omega), if_pos (by simp [h0])]
  · have e : ∀ k, spec_l6Rd_pick.f (k + 1) b p n = spec_l6Rd_pick.j0 (k + 1) n false b (p + 1) := by
      intro k
      simp only [spec_l6Rd_pick.f]
      rw [if_neg (by omega), w64 (x := p + 1) (by omega) (by omega)]
      congr 1
      simp; intro h; rw [h] at h0; simp at h0
    have hq : wrap64 (p + 1 - 1) = p := by rw [w64 (by omega) (by omega)]; omega
    by_cases c : p < b.length
    · refine ⟨(rd b p).tmod n, ?_, ?_, Ev.step (f := fun _ => some ((rd b p).tmod n, p + 1)) (fun k => ?_) (Ev.now _)⟩
      · exact (tmod_range (hb.rd_ p).1 hn).1
      · exact (tmod_range (hb.rd_ p).1 hn).2
      · have := hb.rd_ p
        rw [e]
        simp only [spec_l6Rd_pick.j0, hq]
        rw [if_neg (by simp), if_pos c, if_pos hp, if_neg (by omega), w64 (x := rd b p) (by omega) (by omega)]
    · have hm := tmod_range hp (n := b.length) (by omega)
      have e7 : wrap64 (p * 7) = p * 7 := w64 (by omega) (by omega)
      have e73 : wrap64 (p * 7 + 3) = p * 7 + 3 := w64 (by omega) (by omega)
      have e29 : wrap64 (p * 29) = p * 29 := w64 (by omega) (by omega)
      have hm2 := tmod_range (x := p * 7 + 3) (by omega) (n := b.length) (by omega)
      have hA := hb.rd_ (p.tmod b.length)
      have hB := hb.rd_ ((p * 7 + 3).tmod b.length)
      have hd : 0 ≤ p.tdiv b.length ∧ p.tdiv b.length ≤ p := by
        rw [Int.tdiv_eq_ediv_of_nonneg hp]; exact ⟨Int.ediv_nonneg hp (by omega), Int.ediv_le_self _ hp⟩
      generalize hAe : rd b (p.tmod b.length) = A at hA
      generalize hBe : rd b ((p * 7 + 3).tmod b.length) = B at hB
      generalize hDe : p.tdiv b.length = D at hd
      have hx64 : 0 ≤ (A * 131 + B * 1117 + p * 29 + D * 53).tdiv 64 ∧ (A * 131 + B * 1117 + p * 29 + D * 53).tdiv 64 ≤ A * 131 + B * 1117 + p * 29 + D * 53 := by
        rw [Int.tdiv_eq_ediv_of_nonneg (by omega)]; omega
      have hx := xor_nonneg (A * 131 + B * 1117 + p * 29 + D * 53) ((A * 131 + B * 1117 + p * 29 + D * 53).tdiv 64) (by omega) (by omega) (by omega) (by omega)
      refine ⟨(Go.bits .xor .i64 (A * 131 + B * 1117 + p * 29 + D * 53) ((A * 131 + B * 1117 + p * 29 + D * 53).tdiv 64)).tmod n, (tmod_range hx hn).1, (tmod_range hx hn).2, Ev.step (f := fun _ => some (_, p + 1)) (fun k => ?_) (Ev.now _)⟩
      rw [e]
      simp only [spec_l6Rd_pick.j0, hq, e7, e73, hAe, hBe, hDe, e29]
      rw [if_neg (by simp), if_neg c, if_neg (by omega), if_pos hm.1, if_pos hm.2, if_pos hm2.1, if_pos hm2.2, if_neg (by omega)]
      rw [w64 (x := A) (by omega) (by omega), w64 (x := B) (by omega) (by omega), w64 (x := D) (by omega) (by omega), w64 (x := A * 131) (by omega) (by omega), w64 (x := B * 1117) (by omega) (by omega),
        w64 (x := A * 131 + B * 1117) (by omega) (by omega), w64 (x := A * 131 + B * 1117 + p * 29) (by omega) (by omega), w64 (x := D * 53) (by omega) (by omega),
        w64 (x := A * 131 + B * 1117 + p * 29 + D * 53) (by omega) (by omega), w64 (x := (A * 131 + B * 1117 + p * 29 + D * 53).tdiv 64) (by omega) (by omega)]
theorem open_ev {l : List Int} (h : ∀ x ∈ l, (Lit.int .u8 x).wf = true) : ∃ b, BytesB b ∧ spec_l6Open.f l = some (b, 0) := by
  have h' : ∀ x ∈ l, 0 ≤ x ∧ x ≤ 255 := fun x hx => by
    have := h x hx
    simp only [Lit.wf, Bool.and_eq_true, decide_eq_true_eq] at this
    have e1 : IntKind.u8.min = 0 := by decide
    have e2 : IntKind.u8.max = 255 := by decide
    omega
  unfold spec_l6Open.f
  by_cases c : (l.length : Int) > 2000
  · refine ⟨l.take 2000, ⟨fun x hx => h' x (List.mem_of_mem_take hx), by simp; omega⟩, ?_⟩
    rw [if_pos c, if_pos (by omega)]
  · exact ⟨l, ⟨h', by omega⟩, by rw [if_neg c]⟩


/-! ### quaternions -/
theorem implQuatValid_l (xs : List Int) (hx : ∀ x ∈ xs, I64 x) (hl : xs.length ≤ 9223372036854775806) : ∀ (d j : Nat), j + d = xs.length →
    Ev (fun k => impl_QuatValid.l0 k xs xs (xs.length : Int) j) ((xs.drop j).all qIn && ((xs.length : Int) == 4)) := by
  intro d
  induction d with
  | zero =>
    intro j hj
    rw [List.drop_of_length_le (by omega)]
    refine Ev.step (f := fun _ => some ((xs.length : Int) == 4)) (fun k => ?_) (by simpa using Ev.now _)
    simp only [impl_QuatValid.l0]
    rw [if_neg (by omega)]
  | succ d ih =>
    intro j hj
    have hm := hx _ (rd_mem (xs := xs) (j := j) (by omega))
    rw [rd_drop (show j < xs.length by omega)]
    have := ih (j + 1) (by omega)
    generalize hp : rd xs (j : Int) = p at hm
    unfold I64 at hm
    by_cases c : qIn p = true
    · have hq := qIn_iff.1 c
      rw [List.all_cons, c, Bool.true_and]
      refine Ev.step (fun k => ?_) this
      simp only [impl_QuatValid.l0, impl_size.f, Option.bind_some]
      rw [if_pos (by omega), if_pos (by omega), if_pos (by omega), hp, w64 (x := -p) (by omega) (by omega), if_neg (by unfold mx; split <;> omega), if_neg (by omega), w64 (x := (j : Int) + 1) (by omega) (by omega)]
      rfl
    · have hq : ¬ (-10000 ≤ p ∧ p ≤ 10000) := fun h => c (qIn_iff.2 h)
      rw [List.all_cons, Bool.eq_false_iff.2 c, Bool.false_and, Bool.false_and]
      refine Ev.step (f := fun _ => some false) (fun k => ?_) (Ev.now _)
      simp only [impl_QuatValid.l0, impl_size.f, Option.bind_some]
      rw [if_pos (by omega), if_pos (by omega), if_pos (by omega), hp]
      by_cases c1 : mx p (wrap64 (-p)) > 10000
      · rw [if_pos c1]
      · rw [if_neg c1, if_pos (by unfold mx at c1; split at c1 <;> omega)]
theorem implQuatValid_ev {xs : List Int} (hx : ∀ x ∈ xs, I64 x) (hl : xs.length ≤ 9223372036854775806) : Ev (fun k => impl_QuatValid.f k xs) (qv xs) :=
  implQuatValid_l xs hx hl xs.length 0 (by omega)
theorem specQuatValid_l (xs : List Int) (hx : ∀ x ∈ xs, I64 x) (hl : xs.length ≤ 9223372036854775806) : ∀ (d j : Nat), j + d = xs.length →
    Ev (fun k => spec_QuatValid.l0 k xs j) ((xs.drop j).all qIn && ((xs.length : Int) == 4)) := by
  intro d
  induction d with
  | zero =>
    intro j hj
    rw [List.drop_of_length_le (by omega)]
    refine Ev.step (f := fun _ => some ((xs.length : Int) == 4)) (fun k => ?_) (by simpa using Ev.now _)
    simp only [spec_QuatValid.l0]
    rw [if_neg (by omega)]
  | succ d ih =>
    intro j hj
    rw [rd_drop (show j < xs.length by omega)]
    have := ih (j + 1) (by omega)
    generalize hp : rd xs (j : Int) = p
    by_cases c : qIn p = true
    · have hq := qIn_iff.1 c
      rw [List.all_cons, c, Bool.true_and]
      refine Ev.step (fun k => ?_) this
      simp only [spec_QuatValid.l0, spec_l6In.f]
      rw [if_pos (by omega), if_pos (by omega), hp, if_pos hq.1, decide_eq_true hq.2]
      simp only [Option.bind_some, if_true]
      rw [w64 (x := (j : Int) + 1) (by omega) (by omega)]
      rfl
    · have hq : ¬ (-10000 ≤ p ∧ p ≤ 10000) := fun h => c (qIn_iff.2 h)
      rw [List.all_cons, Bool.eq_false_iff.2 c, Bool.false_and, Bool.false_and]
      refine Ev.step (f := fun _ => some false) (fun k => ?_) (Ev.now _)
      simp only [spec_QuatValid.l0, spec_l6In.f]
      rw [if_pos (by omega), if_pos (by omega), hp]
      by_cases c1 : p ≥ -10000
      · rw [if_pos c1, decide_eq_false (by omega)]; simp
      · rw [if_neg c1]; simp
theorem specQuatValid_ev {xs : List Int} (hx : ∀ x ∈ xs, I64 x) (hl : xs.length ≤ 9223372036854775806) : Ev (fun k => spec_QuatValid.f k xs) (qv xs) :=
  specQuatValid_l xs hx hl xs.length 0 (by omega)
theorem rd4 (a b c d : Int) : rd [a, b, c, d] 0 = a ∧ rd [a, b, c, d] 1 = b ∧ rd [a, b, c, d] 2 = c ∧ rd [a, b, c, d] 3 = d := ⟨rfl, rfl, rfl, rfl⟩
theorem len4 (a b c d : Int) : ((List.length [a, b, c, d] : Nat) : Int) = 4 := rfl
theorem implQuatMul_ev {p q : List Int} (hp : ∀ x ∈ p, I64 x) (hlp : p.length ≤ 9223372036854775806) (hq : ∀ x ∈ q, I64 x) (hlq : q.length ≤ 9223372036854775806) :
    Ev (fun k => impl_QuatMul.f k p q) (qmul p q) := by
  unfold impl_QuatMul.f
  refine (implQuatValid_ev hp hlp).bind ?_
  by_cases c1 : qv p = true
  · simp only [c1, if_true]
    refine (implQuatValid_ev hq hlq).bind ?_
    by_cases c2 : qv q = true
    · have hfin : qmul p q = bif qv (qprod p q) then (qprod p q, true) else ([], false) := by
        unfold qmul
        cases hr : qv (qprod p q) <;> simp [c1, c2]
      rw [hfin]
      clear hfin
      simp only [c2, Bool.not_true]
      obtain ⟨a, b, c, d, rfl, ha, hb, hc, hd⟩ := qv_four c1
      obtain ⟨e, f, g, h, rfl, he, hf, hg, hh⟩ := qv_four c2
      have m1 := prod_bd ha he
      have m2 := prod_bd hb hf
      have m3 := prod_bd hc hg
      have m4 := prod_bd hd hh
      have m5 := prod_bd ha hf
      have m6 := prod_bd hb he
      have m7 := prod_bd hc hh
      have m8 := prod_bd hd hg
      have m9 := prod_bd ha hg
      have m10 := prod_bd hb hh
      have m11 := prod_bd hc he
      have m12 := prod_bd hd hf
      have m13 := prod_bd ha hh
      have m14 := prod_bd hb hg
      have m15 := prod_bd hc hf
      have m16 := prod_bd hd he
      simp only [qprod]
      have hv := implQuatValid_ev (xs := [a * e - b * f - c * g - d * h, a * f + b * e + c * h - d * g, a * g - b * h + c * e + d * f, a * h + b * g - c * f + d * e])
        (by intro x hx; simp only [List.mem_cons, List.not_mem_nil, or_false] at hx; unfold I64; rcases hx with rfl | rfl | rfl | rfl <;> omega) (by simp)
      apply Ev.step
      · intro k
        simp only [impl_QuatMul.j0, Bool.false_eq_true, if_false, len4, (rd4 _ _ _ _).1, (rd4 _ _ _ _).2.1, (rd4 _ _ _ _).2.2.1, (rd4 _ _ _ _).2.2.2, Int.reduceLT, if_true, Option.bind_some]
        rw [w64 (x := a * e) (by omega) (by omega), w64 (x := b * f) (by omega) (by omega), w64 (x := c * g) (by omega) (by omega), w64 (x := d * h) (by omega) (by omega),
          w64 (x := a * f) (by omega) (by omega), w64 (x := b * e) (by omega) (by omega), w64 (x := c * h) (by omega) (by omega), w64 (x := d * g) (by omega) (by omega),
          w64 (x := a * g) (by omega) (by omega), w64 (x := b * h) (by omega) (by omega), w64 (x := c * e) (by omega) (by omega), w64 (x := d * f) (by omega) (by omega),
          w64 (x := a * h) (by omega) (by omega), w64 (x := b * g) (by omega) (by omega), w64 (x := c * f) (by omega) (by omega), w64 (x := d * e) (by omega) (by omega),
          w64 (x := a * e - b * f) (by omega) (by omega), w64 (x := a * f + b * e) (by omega) (by omega), w64 (x := a * g - b * h) (by omega) (by omega), w64 (x := a * h + b * g) (by omega) (by omega),
          w64 (x := a * e - b * f - c * g) (by omega) (by omega), w64 (x := a * f + b * e + c * h) (by omega) (by omega), w64 (x := a * g - b * h + c * e) (by omega) (by omega), w64 (x := a * h + b * g - c * f) (by omega) (by omega),
          w64 (x := a * e - b * f - c * g - d * h) (by omega) (by omega), w64 (x := a * f + b * e + c * h - d * g) (by omega) (by omega), w64 (x := a * g - b * h + c * e + d * f) (by omega) (by omega), w64 (x := a * h + b * g - c * f + d * e) (by omega) (by omega)]
      · refine hv.bind ?_
        cases qv [a * e - b * f - c * g - d * h, a * f + b * e + c * h - d * g, a * g - b * h + c * e + d * f, a * h + b * g - c * f + d * e]
        · exact Ev.now _
        · exact Ev.now _
    · rw [show qmul p q = ([], false) from by simp [qmul, c2]]
      simp only [Bool.eq_false_iff.2 c2, Bool.not_false]
      exact Ev.step (f := fun _ => some ([], false)) (fun k => by simp [impl_QuatMul.j0]) (Ev.now _)
  · rw [show qmul p q = ([], false) from by simp [qmul, c1]]
    simp only [Bool.eq_false_iff.2 c1, Bool.false_eq_true, if_false]
    exact Ev.step (f := fun _ => some ([], false)) (fun k => by simp [impl_QuatMul.j0]) (Ev.now _)
theorem specQuatMul_ev {p q : List Int} (hp : ∀ x ∈ p, I64 x) (hlp : p.length ≤ 9223372036854775806) (hq : ∀ x ∈ q, I64 x) (hlq : q.length ≤ 9223372036854775806) :
    Ev (fun k => spec_QuatMul.f k p q) (qmul p q) := by
  unfold spec_QuatMul.f
  refine (specQuatValid_ev hp hlp).bind ?_
  by_cases c1 : qv p = true
  · simp only [c1, if_true]
    refine (specQuatValid_ev hq hlq).bind ?_
    by_cases c2 : qv q = true
    · have hfin : qmul p q = bif qv (qprod p q) then (qprod p q, true) else ([], false) := by
        unfold qmul
        cases hr : qv (qprod p q) <;> simp [c1, c2]
      rw [hfin]
      clear hfin
      simp only [c2, Bool.not_true]
      obtain ⟨a, b, c, d, rfl, ha, hb, hc, hd⟩ := qv_four c1
      obtain ⟨e, f, g, h, rfl, he, hf, hg, hh⟩ := qv_four c2
      have m1 := prod_bd ha he
      have m2 := prod_bd hb hf
      have m3 := prod_bd hc hg
      have m4 := prod_bd hd hh
      have m5 := prod_bd ha hf
      have m6 := prod_bd hb he
      have m7 := prod_bd hc hh
      have m8 := prod_bd hd hg
      have m9 := prod_bd ha hg
      have m10 := prod_bd hb hh
      have m11 := prod_bd hc he
      have m12 := prod_bd hd hf
      have m13 := prod_bd ha hh
      have m14 := prod_bd hb hg
      have m15 := prod_bd hc hf
      have m16 := prod_bd hd he
      simp only [qprod]
      have hv := specQuatValid_ev (xs := [a * e - b * f - c * g - d * h, a * f + b * e + c * h - d * g, a * g - b * h + c * e + d * f, a * h + b * g - c * f + d * e])
        (by intro x hx; simp only [List.mem_cons, List.not_mem_nil, or_false] at hx; unfold I64; rcases hx with rfl | rfl | rfl | rfl <;> omega) (by simp)
      apply Ev.step
      · intro k
        simp only [spec_QuatMul.j0, Bool.false_eq_true, if_false, len4, (rd4 _ _ _ _).1, (rd4 _ _ _ _).2.1, (rd4 _ _ _ _).2.2.1, (rd4 _ _ _ _).2.2.2, Int.reduceLT, if_true, Option.bind_some]
        rw [w64 (x := a * e) (by omega) (by omega), w64 (x := b * f) (by omega) (by omega), w64 (x := c * g) (by omega) (by omega), w64 (x := d * h) (by omega) (by omega),
          w64 (x := a * f) (by omega) (by omega), w64 (x := b * e) (by omega) (by omega), w64 (x := c * h) (by omega) (by omega), w64 (x := d * g) (by omega) (by omega),
          w64 (x := a * g) (by omega) (by omega), w64 (x := b * h) (by omega) (by omega), w64 (x := c * e) (by omega) (by omega), w64 (x := d * f) (by omega) (by omega),
          w64 (x := a * h) (by omega) (by omega), w64 (x := b * g) (by omega) (by omega), w64 (x := c * f) (by omega) (by omega), w64 (x := d * e) (by omega) (by omega),
          w64 (x := a * e - b * f) (by omega) (by omega), w64 (x := a * f + b * e) (by omega) (by omega), w64 (x := a * g - b * h) (by omega) (by omega), w64 (x := a * h + b * g) (by omega) (by omega),
          w64 (x := a * e - b * f - c * g) (by omega) (by omega), w64 (x := a * f + b * e + c * h) (by omega) (by omega), w64 (x := a * g - b * h + c * e) (by omega) (by omega), w64 (x := a * h + b * g - c * f) (by omega) (by omega),
          w64 (x := a * e - b * f - c * g - d * h) (by omega) (by omega), w64 (x := a * f + b * e + c * h - d * g) (by omega) (by omega), w64 (x := a * g - b * h + c * e + d * f) (by omega) (by omega), w64 (x := a * h + b * g - c * f + d * e) (by omega) (by omega)]
      · refine hv.bind ?_
        cases qv [a * e - b * f - c * g - d * h, a * f + b * e + c * h - d * g, a * g - b * h + c * e + d * f, a * h + b * g - c * f + d * e]
        · exact Ev.now _
        · exact Ev.now _
    · rw [show qmul p q = ([], false) from by simp [qmul, c2]]
      simp only [Bool.eq_false_iff.2 c2, Bool.not_false]
      exact Ev.step (f := fun _ => some ([], false)) (fun k => by simp [spec_QuatMul.j0]) (Ev.now _)
  · rw [show qmul p q = ([], false) from by simp [qmul, c1]]
    simp only [Bool.eq_false_iff.2 c1, Bool.false_eq_true, if_false]
    exact Ev.step (f := fun _ => some ([], false)) (fun k => by simp [spec_QuatMul.j0]) (Ev.now _)
theorem implQuatNorm_ev {q : List Int} (hq : ∀ x ∈ q, I64 x) (hlq : q.length ≤ 9223372036854775806) : Ev (fun k => impl_QuatNorm.f k q) (if qv q = true then qnorm q else -1) := by
  unfold impl_QuatNorm.f
  refine (implQuatValid_ev hq hlq).bind ?_
  by_cases cv : qv q = true
  · simp only [if_pos cv]
    obtain ⟨a, b, c, d, rfl, ha, hb, hc, hd⟩ := qv_four cv
    have m1 := prod_bd ha ha
    have m2 := prod_bd hb hb
    have m3 := prod_bd hc hc
    have m4 := prod_bd hd hd
    simp only [len4, (rd4 _ _ _ _).1, (rd4 _ _ _ _).2.1, (rd4 _ _ _ _).2.2.1, (rd4 _ _ _ _).2.2.2, Int.reduceLT, if_true, qnorm]
    rw [w64 (x := a * a) (by omega) (by omega), w64 (x := b * b) (by omega) (by omega), w64 (x := c * c) (by omega) (by omega), w64 (x := d * d) (by omega) (by omega),
      w64 (x := a * a + b * b) (by omega) (by omega), w64 (x := a * a + b * b + c * c) (by omega) (by omega), w64 (x := a * a + b * b + c * c + d * d) (by omega) (by omega)]
    exact Ev.now _
  · simp only [if_neg cv]; exact Ev.now _
theorem implQuatConj_ev {q : List Int} (hq : ∀ x ∈ q, I64 x) (hlq : q.length ≤ 9223372036854775806) : Ev (fun k => impl_QuatConj.f k q) (if qv q = true then (qconj q, true) else ([], false)) := by
  unfold impl_QuatConj.f
  refine (implQuatValid_ev hq hlq).bind ?_
  by_cases cv : qv q = true
  · simp only [if_pos cv]
    obtain ⟨a, b, c, d, rfl, ha, hb, hc, hd⟩ := qv_four cv
    rw [qIn_iff] at ha hb hc hd
    simp only [len4, (rd4 _ _ _ _).1, (rd4 _ _ _ _).2.1, (rd4 _ _ _ _).2.2.1, (rd4 _ _ _ _).2.2.2, Int.reduceLT, if_true, qconj]
    rw [w64 (x := -b) (by omega) (by omega), w64 (x := -c) (by omega) (by omega), w64 (x := -d) (by omega) (by omega)]
    exact Ev.now _
  · simp only [if_neg cv]; exact Ev.now _

/-! ### two lists are the same -/
theorem sameInts_l (xs ys : List Int) (he : xs.length = ys.length) (hl : xs.length ≤ 9223372036854775806) : ∀ (d j : Nat), j + d = xs.length →
    Ev (fun k => laws_sameInts.l0 k xs ys j) (decide (xs.drop j = ys.drop j)) := by
  intro d
  induction d with
  | zero =>
    intro j hj
    rw [List.drop_of_length_le (by omega), List.drop_of_length_le (show ys.length ≤ j by omega)]
    refine Ev.step (f := fun _ => some true) (fun k => ?_) (by simpa using Ev.now true)
    simp only [laws_sameInts.l0]
    rw [if_neg (by omega)]
  | succ d ih =>
    intro j hj
    rw [rd_drop (show j < xs.length by omega), rd_drop (show j < ys.length by omega)]
    have := ih (j + 1) (by omega)
    by_cases c : rd xs (j : Int) = rd ys (j : Int)
    · rw [c]
      simp only [List.cons.injEq, true_and]
      refine Ev.step (fun k => ?_) this
      simp only [laws_sameInts.l0]
      rw [if_pos (by omega), if_pos (by omega), if_pos (by omega), if_pos c, w64 (x := (j : Int) + 1) (by omega) (by omega)]
      rfl
    · rw [decide_eq_false (fun h => c (List.cons.inj h).1)]
      refine Ev.step (f := fun _ => some false) (fun k => ?_) (Ev.now _)
      simp only [laws_sameInts.l0]
      rw [if_pos (by omega), if_pos (by omega), if_pos (by omega), if_neg c]
theorem sameInts_ev {xs ys : List Int} (hl : xs.length ≤ 9223372036854775806) : Ev (fun k => laws_sameInts.f k xs ys) (decide (xs = ys)) := by
  unfold laws_sameInts.f
  by_cases c : xs.length = ys.length
  · simp only [if_pos (show (xs.length : Int) = (ys.length : Int) by omega)]
    simpa using sameInts_l xs ys c hl xs.length 0 (by omega)
  · simp only [if_neg (show ¬ (xs.length : Int) = (ys.length : Int) by omega), decide_eq_false (fun h : xs = ys => c (by rw [h]))]
    exact Ev.now _


/-! ### quaternions drawn -/
theorem quat_l {b : List Int} (hb : BytesB b) : ∀ (d : Nat) (out : List Int) (i p : Int), i + d = 4 → out.length + d = 4 → 0 ≤ i → 0 ≤ p → p + d ≤ 1000 → (∀ x ∈ out, -20000 ≤ x ∧ x ≤ 20000) →
    ∃ q p', (∀ x ∈ q, -20000 ≤ x ∧ x ≤ 20000) ∧ q.length ≤ 4 ∧ 0 ≤ p' ∧ p' ≤ p + d + 2 ∧ Ev (fun k => spec_l92Quat.l0 k out i b p) (q, p') := by
  intro d
  induction d with
  | zero =>
    intro out i p hi hl h0 hp hP ho
    obtain ⟨v1, h1, g1, e1⟩ := pick_ev hb hp (by omega) (n := 30) (by omega)
    obtain ⟨v2, h2, g2, e2⟩ := pick_ev hb (p := p + 1) (by omega) (by omega) (n := 3) (by omega)
    by_cases c : v1 = 0
    · refine ⟨out.set 0 (rd [10000, 10001, (-10000)] v2), p + 1 + 1, ?_, by simp; omega, by omega, by omega, ?_⟩
      · intro x hx
        rcases List.mem_or_eq_of_mem_set hx with h | h
        · exact ho x h
        · have : v2 = 0 ∨ v2 = 1 ∨ v2 = 2 := by omega
          rcases this with rfl | rfl | rfl <;> simp [rd] at h <;> omega
      · apply Ev.step
        · intro k; simp only [spec_l92Quat.l0]; rw [if_neg (by omega)]
        · refine e1.bind ?_
          simp only [if_pos c, Option.bind_some]
          refine e2.bind ?_
          simp only [if_pos h2, if_pos (show v2 < ((List.length [(10000 : Int), 10001, (-10000)] : Nat) : Int) from by simp; omega), if_pos (show 0 < (out.length : Int) by omega)]
          exact Ev.now _
    · by_cases c2 : v1 = 1
      · refine ⟨out.drop 1, p + 1, fun x hx => ho x (List.mem_of_mem_drop hx), by simp; omega, by omega, by omega, ?_⟩
        apply Ev.step
        · intro k; simp only [spec_l92Quat.l0]; rw [if_neg (by omega)]
        · refine e1.bind ?_
          simp only [if_neg c, if_pos c2, if_pos (show 1 ≤ (out.length : Int) by omega)]
          exact Ev.now _
      · refine ⟨out, p + 1, ho, by omega, by omega, by omega, ?_⟩
        apply Ev.step
        · intro k; simp only [spec_l92Quat.l0]; rw [if_neg (by omega)]
        · refine e1.bind ?_
          simp only [if_neg c, if_neg c2]
          exact Ev.now _
  | succ d ih =>
    intro out i p hi hl h0 hp hP ho
    obtain ⟨v1, h1, g1, e1⟩ := pick_ev hb hp (by omega) (n := 13) (by omega)
    obtain ⟨q, p', hq, hlq, hp0, hp1, he⟩ := ih (out ++ [v1 - 6]) (i + 1) (p + 1) (by omega) (by simp; omega) (by omega) (by omega) (by omega) (by
      intro x hx; rcases List.mem_append.1 hx with h | h
      · exact ho x h
      · simp at h; omega)
    refine ⟨q, p', hq, hlq, hp0, by omega, ?_⟩
    apply Ev.step
    · intro k; simp only [spec_l92Quat.l0]; rw [if_pos (by omega), w64 (x := i + 1) (by omega) (by omega)]
    · refine e1.bind ?_
      simp only [if_pos (show out.length < 17592186044416 by omega), w64 (x := v1 - 6) (by omega) (by omega)]
      exact he
theorem quat_ev {b : List Int} (hb : BytesB b) (p : Int) (hp : 0 ≤ p) (hP : p ≤ 900) :
    ∃ q p', (∀ x ∈ q, -20000 ≤ x ∧ x ≤ 20000) ∧ q.length ≤ 4 ∧ 0 ≤ p' ∧ p' ≤ p + 6 ∧ Ev (fun k => spec_l92Quat.f k b p) (q, p') := by
  obtain ⟨q, p', h1, h2, h3, h4, h5⟩ := quat_l hb 4 [] 0 p (by omega) (by simp) (by omega) hp (by omega) (by simp)
  exact ⟨q, p', h1, h2, h3, by omega, h5⟩


theorem qmul_i64 (p q : List Int) : (∀ x ∈ (qmul p q).1, I64 x) ∧ (qmul p q).1.length ≤ 4 := by
  unfold qmul; split
  · rename_i h
    obtain ⟨a, b, c, d, he, ha, hb, hc, hd⟩ := qv_four h.2.2
    rw [qIn_iff] at ha hb hc hd
    simp only [he]
    refine ⟨?_, by simp⟩
    intro x hx; simp only [List.mem_cons, List.not_mem_nil, or_false] at hx; unfold I64; rcases hx with rfl | rfl | rfl | rfl <;> omega
  · simp
theorem qprod_assoc {p q r : List Int} (hp : qv p = true) (hq : qv q = true) (hr : qv r = true) : qprod (qprod p q) r = qprod p (qprod q r) := by
  obtain ⟨a, b, c, d, rfl, _⟩ := qv_four hp
  obtain ⟨e, f, g, h, rfl, _⟩ := qv_four hq
  obtain ⟨i, j, k, l, rfl, _⟩ := qv_four hr
  simp only [qprod, List.cons.injEq, and_true]
  refine ⟨?_, ?_, ?_, ?_⟩ <;> grind
theorem qprod_conj {p q : List Int} (hp : qv p = true) (hq : qv q = true) : qprod (qconj q) (qconj p) = qconj (qprod p q) := by
  obtain ⟨a, b, c, d, rfl, _⟩ := qv_four hp
  obtain ⟨e, f, g, h, rfl, _⟩ := qv_four hq
  simp only [qprod, qconj, List.cons.injEq, and_true]
  refine ⟨?_, ?_, ?_, ?_⟩ <;> grind
theorem qprod_norm {p q : List Int} (hp : qv p = true) (hq : qv q = true) : qnorm (qprod p q) = qnorm p * qnorm q := by
  obtain ⟨a, b, c, d, rfl, _⟩ := qv_four hp
  obtain ⟨e, f, g, h, rfl, _⟩ := qv_four hq
  simp only [qprod, qnorm]
  grind
theorem qconj_v {q : List Int} (h : qv q = true) : qv (qconj q) = true := by
  obtain ⟨a, b, c, d, rfl, ha, hb, hc, hd⟩ := qv_four h
  rw [qIn_iff] at hb hc hd
  simp only [qconj, qv_of, Bool.and_eq_true]
  exact ⟨ha, qIn_iff.2 (by omega), qIn_iff.2 (by omega), qIn_iff.2 (by omega)⟩
theorem qnorm_bd {q : List Int} (h : qv q = true) : 0 ≤ qnorm q ∧ qnorm q ≤ 400000000 := by
  obtain ⟨a, b, c, d, rfl, ha, hb, hc, hd⟩ := qv_four h
  have := prod_bd ha ha; have := prod_bd hb hb; have := prod_bd hc hc; have := prod_bd hd hd
  have := sq_nonneg a; have := sq_nonneg b; have := sq_nonneg c; have := sq_nonneg d
  simp only [qnorm]; omega
theorem qv_i64 {q : List Int} (h : qv q = true) : (∀ x ∈ q, I64 x) ∧ q.length ≤ 9223372036854775806 := by
  obtain ⟨a, b, c, d, rfl, ha, hb, hc, hd⟩ := qv_four h
  rw [qIn_iff] at ha hb hc hd
  refine ⟨?_, by simp⟩
  intro x hx; simp only [List.mem_cons, List.not_mem_nil, or_false] at hx; unfold I64; rcases hx with rfl | rfl | rfl | rfl <;> omega
theorem i64_of {q : List Int} (h : ∀ x ∈ q, -20000 ≤ x ∧ x ≤ 20000) : ∀ x ∈ q, I64 x := fun x hx => by have := h x hx; unfold I64; omega
theorem holds : laws_FnQuatMul.Pure := by
  intro l0 l1 _ _ hw _ _ _
  refine Ev.rounds ?_
  unfold laws_FnQuatMul.f
  have yes : Ev (fun k => laws_FnQuatMul.j0 k l0 l1 true) true := Ev.step (f := fun _ => some true) (fun k => by simp [laws_FnQuatMul.j0]) (Ev.now _)
  by_cases big : (l0.length : Int) > 1048576
  · simp only [if_pos big]; exact yes
  by_cases big1 : (l1.length : Int) > 1048576
  · simp only [if_neg big, decide_eq_true big1]; exact yes
  simp only [if_neg big, decide_eq_false big1]
  obtain ⟨b, hb, ho⟩ := open_ev hw
  obtain ⟨p, p1, hp, hlp, hp0, hp1, hd⟩ := quat_ev hb 0 (by omega) (by omega)
  obtain ⟨q, p2, hq, hlq, _, _, hd2⟩ := quat_ev hb p1 hp0 (by omega)
  have ip := i64_of hp
  have iq := i64_of hq
  have ms := specQuatMul_ev ip (by omega) iq (by omega)
  have mi := implQuatMul_ev ip (by omega) iq (by omega)
  have hout := qmul_i64 p q
  apply Ev.step
  · intro k
    simp only [laws_FnQuatMul.j0, Bool.false_eq_true, if_false, spec_DrawQuatMul.f, ho, Option.bind_some]
    exact rfl
  refine (hd.bind (hd2.bind (Ev.now (p, q)))).bind (mi.bind (ms.bind ?_))
  simp only [bne_self_eq_false, Bool.false_eq_true, if_false]
  have gs := sameInts_ev (xs := (qmul p q).1) (ys := (qmul p q).1) (by omega)
  simp only [decide_true] at gs
  refine gs.bind ?_
  simp only [if_true]
  by_cases hv : qv p = true ∧ qv q = true ∧ qv (qprod p q) = true
  · have e : qmul p q = (qprod p q, true) := by unfold qmul; rw [if_pos hv]
    simp only [e, Bool.not_true] at hout ⊢
    obtain ⟨vp, vq, vo⟩ := hv
    have hr : qv [((l1.length : Int) % 5) - 2, ((l1.length : Int) % 3) - 1, 1, (l1.length : Int) % 4] = true := by
      simp only [qv_of, Bool.and_eq_true, qIn_iff]; omega
    generalize hr' : [((l1.length : Int) % 5) - 2, ((l1.length : Int) % 3) - 1, 1, (l1.length : Int) % 4] = r at hr
    have ir := qv_i64 hr
    have io := qv_i64 vo
    have iy := qmul_i64 q r
    have a1 := implQuatMul_ev io.1 io.2 ir.1 ir.2
    have a2 := implQuatMul_ev iq (by omega) ir.1 ir.2
    have a3 := implQuatMul_ev ip (by omega) iy.1 (by omega)
    have c1 := implQuatConj_ev io.1 io.2
    have c2 := implQuatConj_ev ip (by omega)
    have c3 := implQuatConj_ev iq (by omega)
    rw [if_pos vo] at c1
    rw [if_pos vp] at c2
    rw [if_pos vq] at c3
    have vcp := qconj_v vp
    have vcq := qconj_v vq
    have vco := qconj_v vo
    have c4 := implQuatMul_ev (qv_i64 vcq).1 (qv_i64 vcq).2 (qv_i64 vcp).1 (qv_i64 vcp).2
    have e4 : qmul (qconj q) (qconj p) = (qconj (qprod p q), true) := by unfold qmul; rw [qprod_conj vp vq, if_pos ⟨vcq, vcp, vco⟩]
    rw [e4] at c4
    have n1 := implQuatNorm_ev io.1 io.2
    have n2 := implQuatNorm_ev ip (show p.length ≤ 9223372036854775806 by omega)
    have n3 := implQuatNorm_ev iq (show q.length ≤ 9223372036854775806 by omega)
    rw [if_pos vo] at n1
    rw [if_pos vp] at n2
    rw [if_pos vq] at n3
    have b2 := qnorm_bd vp
    have b3 := qnorm_bd vq
    have bm := mul_le2 b2.1 b2.2 b3.1 b3.2
    have b0 := Int.mul_nonneg b2.1 b3.1
    apply Ev.step
    · intro k
      simp only [laws_FnQuatMul.j1, Bool.false_eq_true, if_false, Option.bind_some, hr']
      exact rfl
    refine a1.bind (a2.bind (a3.bind (c1.bind (c2.bind (c3.bind (c4.bind ?_))))))
    simp only [if_true]
    have gs2 := sameInts_ev (xs := qconj (qprod p q)) (ys := qconj (qprod p q)) (qv_i64 vco).2
    simp only [decide_true] at gs2
    refine gs2.bind ?_
    simp only [if_true]
    refine n1.bind (n2.bind (n3.bind ?_))
    have q1 : wrap64 (qnorm p * qnorm q) = qnorm p * qnorm q := w64 (by omega) (by omega)
    simp only [q1, qprod_norm vp vq, if_true]
    by_cases h1 : qv (qprod (qprod p q) r) = true
    · have e1 : qmul (qprod p q) r = (qprod (qprod p q) r, true) := by unfold qmul; rw [if_pos ⟨vo, hr, h1⟩]
      simp only [e1, if_true]
      by_cases h2 : qv (qprod q r) = true
      · have e2 : qmul q r = (qprod q r, true) := by unfold qmul; rw [if_pos ⟨vq, hr, h2⟩]
        simp only [e2, if_true]
        rw [qprod_assoc vp vq hr] at h1
        have e3 : qmul p (qprod q r) = (qprod p (qprod q r), true) := by unfold qmul; rw [if_pos ⟨vp, h2, h1⟩]
        simp only [e3, if_true, qprod_assoc vp vq hr]
        have gs3 := sameInts_ev (xs := qprod p (qprod q r)) (ys := qprod p (qprod q r)) (qv_i64 h1).2
        simp only [decide_true] at gs3
        exact gs3.bind (Ev.now _)
      · have e2 : qmul q r = ([], false) := by unfold qmul; rw [if_neg (fun h => h2 h.2.2)]
        simp only [e2, Bool.false_eq_true, if_false]
        exact Ev.now _
    · have e1 : qmul (qprod p q) r = ([], false) := by unfold qmul; rw [if_neg (fun h => h1 h.2.2)]
      simp only [e1, Bool.false_eq_true, if_false]
      exact Ev.now _
  · have e : qmul p q = ([], false) := by unfold qmul; rw [if_neg hv]
    simp only [e, Bool.not_false]
    apply Ev.step
    · intro k
      simp only [laws_FnQuatMul.j1, if_true, beq_self_eq_true]
      exact rfl
    · have gs2 := sameInts_ev (xs := []) (ys := []) (by simp)
      simp only [decide_true] at gs2
      exact gs2.bind (Ev.now _)

end Go.Proofs.Ytfhehcgefbknbaa.QFnQuatMul
