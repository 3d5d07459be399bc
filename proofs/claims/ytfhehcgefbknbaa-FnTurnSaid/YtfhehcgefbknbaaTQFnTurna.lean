/- Quaternions, turned. -/
import Derived.Test.YtfhehcgefbknbaaTPFnTurnx8
import Derived.Test.YtfhehcgefbknbaaTQuat
import Derived.Test.YtfhehcgefbknbaaTPrm
set_option linter.unusedVariables false
set_option linter.unusedSimpArgs false
namespace Go.Proofs.Ytfhehcgefbknbaa.QFnTurn
open Go.RowKit Go.Proofs.Ytfhehcgefbknbaa.PFnTurn Go.Proofs.YtfhehcgefbknbaaW.PrintWords Go.Proofs.YtfhehcgefbknbaaW.PrintLast Go.Proofs.YtfhehcgefbknbaaW.PrintMore Locg

/-! ### draws -/
theorem xor_i64_nat (a b : Nat) (ha : a < 9223372036854775808) (hb : b < 9223372036854775808) : Go.bits .xor .i64 (a : Int) (b : Int) = ((a ^^^ b : Nat) : Int) := by
  have hx : a ^^^ b < 2 ^ 63 := Nat.xor_lt_two_pow (by omega) (by omega)
  have h1 : (BitVec.ofInt 64 (a : Int)).toNat = a := by
    rw [BitVec.ofInt_natCast, BitVec.toNat_ofNat]; exact Nat.mod_eq_of_lt (by omega)
  have h2 : (BitVec.ofInt 64 (b : Int)).toNat = b := by
    rw [BitVec.ofInt_natCast, BitVec.toNat_ofNat]; exact Nat.mod_eq_of_lt (by omega)
  show IntKind.i64.wrap ((BitVec.ofInt 64 (a : Int) ^^^ BitVec.ofInt 64 (b : Int)).toNat : Int) = _
  rw [BitVec.toNat_xor, h1, h2]
  have hw : ∀ n : Int, IntKind.i64.wrap n = wrap64 n := fun n => by simp [IntKind.wrap, wrap64, IntKind.bits, IntKind.signed]; omega
  rw [hw]
  exact w64' (by omega) (by omega)
theorem xor_nonneg (a b : Int) (ha : 0 ≤ a) (hA : a < 9223372036854775808) (hb : 0 ≤ b) (hB : b < 9223372036854775808) : 0 ≤ Go.bits .xor .i64 a b := by
  obtain ⟨a, rfl⟩ := Int.eq_ofNat_of_zero_le ha
  obtain ⟨b, rfl⟩ := Int.eq_ofNat_of_zero_le hb
  rw [xor_i64_nat a b (by omega) (by omega)]
  exact Int.natCast_nonneg _
theorem tmod_range {x n : Int} (hx : 0 ≤ x) (hn : 1 ≤ n) : 0 ≤ x.tmod n ∧ x.tmod n < n := by
  rw [Int.tmod_eq_emod_of_nonneg hx]; exact ⟨Int.emod_nonneg _ (by omega), Int.emod_lt_of_pos _ (by omega)⟩
def BytesB (b : List Int) : Prop := (∀ x ∈ b, 0 ≤ x ∧ x ≤ 255) ∧ b.length ≤ 2000
theorem BytesB.rd_ {b : List Int} (h : BytesB b) (i : Int) : 0 ≤ rd b i ∧ rd b i ≤ 255 := by
  unfold rd
  by_cases c : i.toNat < b.length
  · have := h.1 (b[i.toNat]) (by simp)
    simpa [List.getElem?_eq_getElem c] using this
  · simp [List.getElem?_eq_none (show b.length ≤ i.toNat by omega)]
theorem pick_ev {b : List Int} (hb : BytesB b) {p : Int} (hp : 0 ≤ p) (hP : p ≤ 1000000) {n : Int} (hn : 1 ≤ n) :
    ∃ v, 0 ≤ v ∧ v < n ∧ Ev (fun k => spec_l6Rd_pick.f k b p n) (v, p + 1) := by
  have hl := hb.2
  rcases Nat.eq_zero_or_pos b.length with h0 | h0
  · refine ⟨0, by omega, by omega, Ev.step (f := fun _ => some (0, p + 1)) (fun k => ?_) (Ev.now _)⟩
    simp only [spec_l6Rd_pick.f, spec_l6Rd_pick.j0]
    rw [if_neg (by omega), w64 (x := p + 1) (by omega) (by omega), if_pos (by simp [h0])]
  · have e : ∀ k, spec_l6Rd_pick.f (k + 1) b p n = spec_l6Rd_pick.j0 (k + 1) n false b (p + 1) := by
      intro k
      simp only [spec_l6Rd_pick.f]
      rw [if_neg (by omega), w64 (x := p + 1) (by omega) (by omega)]
      congr 1
      simp; intro h; rw [h] at h0; simp at h0
    have hq : wrap64 (p + 1 - 1) = p := by rw [w64 (by omega) (by omega)]; omega
    by_cases c : p < b.length
    · refine ⟨(rd b p).tmod n, ?_, ?_, Ev.step (f := fun _ => some ((rd b p).tmod n, p + 1)) (fun k => ?_) (Ev.now _)⟩
      · exact (tmod_range (hb.rd_ p).1 hn).1
      · exact (tmod_range (hb.rd_ p).1 hn).2
      · have := hb.rd_ p
        rw [e]
        simp only [spec_l6Rd_pick.j0, hq]
        rw [if_neg (by simp), if_pos c, if_pos hp, if_neg (by omega), w64 (x := rd b p) (by omega) (by omega)]
    · have hm := tmod_range hp (n := b.length) (by omega)
      have e7 : wrap64 (p * 7) = p * 7 := w64 (by omega) (by omega)
      have e73 : wrap64 (p * 7 + 3) = p * 7 + 3 := w64 (by omega) (by omega)
      have e29 : wrap64 (p * 29) = p * 29 := w64 (by omega) (by omega)
      have hm2 := tmod_range (x := p * 7 + 3) (by omega) (n := b.length) (by omega)
      have hA := hb.rd_ (p.tmod b.length)
      have hB := hb.rd_ ((p * 7 + 3).tmod b.length)
      have hd : 0 ≤ p.tdiv b.length ∧ p.tdiv b.length ≤ p := by
        rw [Int.tdiv_eq_ediv_of_nonneg hp]; exact ⟨Int.ediv_nonneg hp (by omega), Int.ediv_le_self _ hp⟩
      generalize hAe : rd b (p.tmod b.length) = A at hA
      generalize hBe : rd b ((p * 7 + 3).tmod b.length) = B at hB
      generalize hDe : p.tdiv b.length = D at hd
      have hx64 : 0 ≤ (A * 131 + B * 1117 + p * 29 + D * 53).tdiv 64 ∧ (A * 131 + B * 1117 + p * 29 + D * 53).tdiv 64 ≤ A * 131 + B * 1117 + p * 29 + D * 53 := by
        rw [Int.tdiv_eq_ediv_of_nonneg (by omega)]; omega
      have hx := xor_nonneg (A * 131 + B * 1117 + p * 29 + D * 53) ((A * 131 + B * 1117 + p * 29 + D * 53).tdiv 64) (by omega) (by omega) (by omega) (by omega)
      refine ⟨(Go.bits .xor .i64 (A * 131 + B * 1117 + p * 29 + D * 53) ((A * 131 + B * 1117 + p * 29 + D * 53).tdiv 64)).tmod n, (tmod_range hx hn).1, (tmod_range hx hn).2, Ev.step (f := fun _ => some (_, p + 1)) (fun k => ?_) (Ev.now _)⟩
      rw [e]
      simp only [spec_l6Rd_pick.j0, hq, e7, e73, hAe, hBe, hDe, e29]
      rw [if_neg (by simp), if_neg c, if_neg (by omega), if_pos hm.1, if_pos hm.2, if_pos hm2.1, if_pos hm2.2, if_neg (by omega)]
      rw [w64 (x := A) (by omega) (by omega), w64 (x := B) (by omega) (by omega), w64 (x := D) (by omega) (by omega), w64 (x := A * 131) (by omega) (by omega), w64 (x := B * 1117) (by omega) (by omega),
        w64 (x := A * 131 + B * 1117) (by omega) (by omega), w64 (x := A * 131 + B * 1117 + p * 29) (by omega) (by omega), w64 (x := D * 53) (by omega) (by omega),
        w64 (x := A * 131 + B * 1117 + p * 29 + D * 53) (by omega) (by omega), w64 (x := (A * 131 + B * 1117 + p * 29 + D * 53).tdiv 64) (by omega) (by omega)]
theorem open_ev {l : List Int} (h : ∀ x ∈ l, (Lit.int .u8 x).wf = true) : ∃ b, BytesB b ∧ spec_l6Open.f l = some (b, 0) := by
  have h' : ∀ x ∈ l, 0 ≤ x ∧ x ≤ 255 := fun x hx => by
    have := h x hx
    simp only [Lit.wf, Bool.and_eq_true, decide_eq_true_eq] at this
    have e1 : IntKind.u8.min = 0 := by decide
    have e2 : IntKind.u8.max = 255 := by decide
    omega
  unfold spec_l6Open.f
  by_cases c : (l.length : Int) > 2000
  · refine ⟨l.take 2000, ⟨fun x hx => h' x (List.mem_of_mem_take hx), by simp; omega⟩, ?_⟩
    rw [if_pos c, if_pos (by omega)]
  · exact ⟨l, ⟨h', by omega⟩, by rw [if_neg c]⟩


/-! ### quaternions -/
theorem implQuatValid_l (xs : List Int) (hx : ∀ x ∈ xs, I64 x) (hl : xs.length ≤ 9223372036854775806) : ∀ (d j : Nat), j + d = xs.length →
    Ev (fun k => impl_QuatValid.l0 k xs xs (xs.length : Int) j) ((xs.drop j).all qIn && ((xs.length : Int) == 4)) := by
  intro d
  induction d with
  | zero =>
    intro j hj
    rw [List.drop_of_length_le (by omega)]
    refine Ev.step (f := fun _ => some ((xs.length : Int) == 4)) (fun k => ?_) (by simpa using Ev.now _)
    simp only [impl_QuatValid.l0]
    rw [if_neg (by omega)]
  | succ d ih =>
    intro j hj
    have hm := hx _ (rd_mem (xs := xs) (j := j) (by omega))
    rw [rd_drop (show j < xs.length by omega)]
    have := ih (j + 1) (by omega)
    generalize hp : rd xs (j : Int) = p at hm
    unfold I64 at hm
    by_cases c : qIn p = true
    · have hq := qIn_iff.1 c
      rw [List.all_cons, c, Bool.true_and]
      refine Ev.step (fun k => ?_) this
      simp only [impl_QuatValid.l0, impl_size.f, Option.bind_some]
      rw [if_pos (by omega), if_pos (by omega), if_pos (by omega), hp, w64 (x := -p) (by omega) (by omega), if_neg (by unfold mx; split <;> omega), if_neg (by omega), w64 (x := (j : Int) + 1) (by omega) (by omega)]
      rfl
    · have hq : ¬ (-10000 ≤ p ∧ p ≤ 10000) := fun h => c (qIn_iff.2 h)
      rw [List.all_cons, Bool.eq_false_iff.2 c, Bool.false_and, Bool.false_and]
      refine Ev.step (f := fun _ => some false) (fun k => ?_) (Ev.now _)
      simp only [impl_QuatValid.l0, impl_size.f, Option.bind_some]
      rw [if_pos (by omega), if_pos (by omega), if_pos (by omega), hp]
      by_cases c1 : mx p (wrap64 (-p)) > 10000
      · rw [if_pos c1]
      · rw [if_neg c1, if_pos (by unfold mx at c1; split at c1 <;> omega)]
theorem implQuatValid_ev {xs : List Int} (hx : ∀ x ∈ xs, I64 x) (hl : xs.length ≤ 9223372036854775806) : Ev (fun k => impl_QuatValid.f k xs) (qv xs) :=
  implQuatValid_l xs hx hl xs.length 0 (by omega)
theorem specQuatValid_l (xs : List Int) (hx : ∀ x ∈ xs, I64 x) (hl : xs.length ≤ 9223372036854775806) : ∀ (d j : Nat), j + d = xs.length →
    Ev (fun k => spec_QuatValid.l0 k xs j) ((xs.drop j).all qIn && ((xs.length : Int) == 4)) := by
  intro d
  induction d with
  | zero =>
    intro j hj
    rw [List.drop_of_length_le (by omega)]
    refine Ev.step (f := fun _ => some ((xs.length : Int) == 4)) (fun k => ?_) (by simpa using Ev.now _)
    simp only [spec_QuatValid.l0]
    rw [if_neg (by omega)]
  | succ d ih =>
    intro j hj
    rw [rd_drop (show j < xs.length by omega)]
    have := ih (j + 1) (by omega)
    generalize hp : rd xs (j : Int) = p
    by_cases c : qIn p = true
    · have hq := qIn_iff.1 c
      rw [List.all_cons, c, Bool.true_and]
      refine Ev.step (fun k => ?_) this
      simp only [spec_QuatValid.l0, spec_l6In.f]
      rw [if_pos (by omega), if_pos (by omega), hp, if_pos hq.1, decide_eq_true hq.2]
      simp only [Option.bind_some, if_true]
      rw [w64 (x := (j : Int) + 1) (by omega) (by omega)]
      rfl
    · have hq : ¬ (-10000 ≤ p ∧ p ≤ 10000) := fun h => c (qIn_iff.2 h)
      rw [List.all_cons, Bool.eq_false_iff.2 c, Bool.false_and, Bool.false_and]
      refine Ev.step (f := fun _ => some false) (fun k => ?_) (Ev.now _)
      simp only [spec_QuatValid.l0, spec_l6In.f]
      rw [if_pos (by omega), if_pos (by omega), hp]
      by_cases c1 : p ≥ -10000
      · rw [if_pos c1, decide_eq_false (by omega)]; simp
      · rw [if_neg c1]; simp
theorem specQuatValid_ev {xs : List Int} (hx : ∀ x ∈ xs, I64 x) (hl : xs.length ≤ 9223372036854775806) : Ev (fun k => spec_QuatValid.f k xs) (qv xs) :=
  specQuatValid_l xs hx hl xs.length 0 (by omega)
theorem rd4 (a b c d : Int) : rd [a, b, c, d] 0 = a ∧ rd [a, b, c, d] 1 = b ∧ rd [a, b, c, d] 2 = c ∧ rd [a, b, c, d] 3 = d := ⟨rfl, rfl, rfl, rfl⟩
theorem len4 (a b c d : Int) : ((List.length [a, b, c, d] : Nat) : Int) = 4 := rfl
theorem implQuatMul_ev {p q : List Int} (hp : ∀ x ∈ p, I64 x) (hlp : p.length ≤ 9223372036854775806) (hq : ∀ x ∈ q, I64 x) (hlq : q.length ≤ 9223372036854775806) :
    Ev (fun k => impl_QuatMul.f k p q) (qmul p q) := by
  unfold impl_QuatMul.f
  refine (implQuatValid_ev hp hlp).bind ?_
  by_cases c1 : qv p = true
  · simp only [c1, if_true]
    refine (implQuatValid_ev hq hlq).bind ?_
    by_cases c2 : qv q = true
    · have hfin : qmul p q = bif qv (qprod p q) then (qprod p q, true) else ([], false) := by
        unfold qmul
        cases hr : qv (qprod p q) <;> simp [c1, c2]
      rw [hfin]
      clear hfin
      simp only [c2, Bool.not_true]
      obtain ⟨a, b, c, d, rfl, ha, hb, hc, hd⟩ := qv_four c1
      obtain ⟨e, f, g, h, rfl, he, hf, hg, hh⟩ := qv_four c2
      have m1 := prod_bd ha he
      have m2 := prod_bd hb hf
      have m3 := prod_bd hc hg
      have m4 := prod_bd hd hh
      have m5 := prod_bd ha hf
      have m6 := prod_bd hb he
      have m7 := prod_bd hc hh
      have m8 := prod_bd hd hg
      have m9 := prod_bd ha hg
      have m10 := prod_bd hb hh
      have m11 := prod_bd hc he
      have m12 := prod_bd hd hf
      have m13 := prod_bd ha hh
      have m14 := prod_bd hb hg
      have m15 := prod_bd hc hf
      have m16 := prod_bd hd he
      simp only [qprod]
      have hv := implQuatValid_ev (xs := [a * e - b * f - c * g - d * h, a * f + b * e + c * h - d * g, a * g - b * h + c * e + d * f, a * h + b * g - c * f + d * e])
        (by intro x hx; simp only [List.mem_cons, List.not_mem_nil, or_false] at hx; unfold I64; rcases hx with rfl | rfl | rfl | rfl <;> omega) (by simp)
      apply Ev.step
      · intro k
        simp only [impl_QuatMul.j0, Bool.false_eq_true, if_false, len4, (rd4 _ _ _ _).1, (rd4 _ _ _ _).2.1, (rd4 _ _ _ _).2.2.1, (rd4 _ _ _ _).2.2.2, Int.reduceLT, if_true, Option.bind_some]
        rw [w64 (x := a * e) (by omega) (by omega), w64 (x := b * f) (by omega) (by omega), w64 (x := c * g) (by omega) (by omega), w64 (x := d * h) (by omega) (by omega),
          w64 (x := a * f) (by omega) (by omega), w64 (x := b * e) (by omega) (by omega), w64 (x := c * h) (by omega) (by omega), w64 (x := d * g) (by omega) (by omega),
          w64 (x := a * g) (by omega) (by omega), w64 (x := b * h) (by omega) (by omega), w64 (x := c * e) (by omega) (by omega), w64 (x := d * f) (by omega) (by omega),
          w64 (x := a * h) (by omega) (by omega), w64 (x := b * g) (by omega) (by omega), w64 (x := c * f) (by omega) (by omega), w64 (x := d * e) (by omega) (by omega),
          w64 (x := a * e - b * f) (by omega) (by omega), w64 (x := a * f + b * e) (by omega) (by omega), w64 (x := a * g - b * h) (by omega) (by omega), w64 (x := a * h + b * g) (by omega) (by omega),
          w64 (x := a * e - b * f - c * g) (by omega) (by omega), w64 (x := a * f + b * e + c * h) (by omega) (by omega), w64 (x := a * g - b * h + c * e) (by omega) (by omega), w64 (x := a * h + b * g - c * f) (by omega) (by omega),
          w64 (x := a * e - b * f - c * g - d * h) (by omega) (by omega), w64 (x := a * f + b * e + c * h - d * g) (by omega) (by omega), w64 (x := a * g - b * h + c * e + d * f) (by omega) (by omega), w64 (x := a * h + b * g - c * f + d * e) (by omega) (by omega)]
      · refine hv.bind ?_
        cases qv [a * e - b * f - c * g - d * h, a * f + b * e + c * h - d * g, a * g - b * h + c * e + d * f, a * h + b * g - c * f + d * e]
        · exact Ev.now _
        · exact Ev.now _
    · rw [show qmul p q = ([], false) from by simp [qmul, c2]]
      simp only [Bool.eq_false_iff.2 c2, Bool.not_false]
      exact Ev.step (f := fun _ => some ([], false)) (fun k => by simp [impl_QuatMul.j0]) (Ev.now _)
  · rw [show qmul p q = ([], false) from by simp [qmul, c1]]
    simp only [Bool.eq_false_iff.2 c1, Bool.false_eq_true, if_false]
    exact Ev.step (f := fun _ => some ([], false)) (fun k => by simp [impl_QuatMul.j0]) (Ev.now _)
theorem specQuatMul_ev {p q : List Int} (hp : ∀ x ∈ p, I64 x) (hlp : p.length ≤ 9223372036854775806) (hq : ∀ x ∈ q, I64 x) (hlq : q.length ≤ 9223372036854775806) :
    Ev (fun k => spec_QuatMul.f k p q) (qmul p q) := by
  unfold spec_QuatMul.f
  refine (specQuatValid_ev hp hlp).bind ?_
  by_cases c1 : qv p = true
  · simp only [c1, if_true]
    refine (specQuatValid_ev hq hlq).bind ?_
    by_cases c2 : qv q = true
    · have hfin : qmul p q = bif qv (qprod p q) then (qprod p q, true) else ([], false) := by
        unfold qmul
        cases hr : qv (qprod p q) <;> simp [c1, c2]
      rw [hfin]
      clear hfin
      simp only [c2, Bool.not_true]
      obtain ⟨a, b, c, d, rfl, ha, hb, hc, hd⟩ := qv_four c1
      obtain ⟨e, f, g, h, rfl, he, hf, hg, hh⟩ := qv_four c2
      have m1 := prod_bd ha he
      have m2 := prod_bd hb hf
      have m3 := prod_bd hc hg
      have m4 := prod_bd hd hh
      have m5 := prod_bd ha hf
      have m6 := prod_bd hb he
      have m7 := prod_bd hc hh
      have m8 := prod_bd hd hg
      have m9 := prod_bd ha hg
      have m10 := prod_bd hb hh
      have m11 := prod_bd hc he
      have m12 := prod_bd hd hf
      have m13 := prod_bd ha hh
      have m14 := prod_bd hb hg
      have m15 := prod_bd hc hf
      have m16 := prod_bd hd he
      simp only [qprod]
      have hv := specQuatValid_ev (xs := [a * e - b * f - c * g - d * h, a * f + b * e + c * h - d * g, a * g - b * h + c * e + d * f, a * h + b * g - c * f + d * e])
        (by intro x hx; simp only [List.mem_cons, List.not_mem_nil, or_false] at hx; unfold I64; rcases hx with rfl | rfl | rfl | rfl <;> omega) (by simp)
      apply Ev.step
      · intro k
        simp only [spec_QuatMul.j0, Bool.false_eq_true, if_false, len4, (rd4 _ _ _ _).1, (rd4 _ _ _ _).2.1, (rd4 _ _ _ _).2.2.1, (rd4 _ _ _ _).2.2.2, Int.reduceLT, if_true, Option.bind_some]
        rw [w64 (x := a * e) (by omega) (by omega), w64 (x := b * f) (by omega) (by omega), w64 (x := c * g) (by omega) (by omega), w64 (x := d * h) (by omega) (by omega),
          w64 (x := a * f) (by omega) (by omega), w64 (x := b * e) (by omega) (by omega), w64 (x := c * h) (by omega) (by omega), w64 (x := d * g) (by omega) (by omega),
          w64 (x := a * g) (by omega) (by omega), w64 (x := b * h) (by omega) (by omega), w64 (x := c * e) (by omega) (by omega), w64 (x := d * f) (by omega) (by omega),
          w64 (x := a * h) (by omega) (by omega), w64 (x := b * g) (by omega) (by omega), w64 (x := c * f) (by omega) (by omega), w64 (x := d * e) (by omega) (by omega),
          w64 (x := a * e - b * f) (by omega) (by omega), w64 (x := a * f + b * e) (by omega) (by omega), w64 (x := a * g - b * h) (by omega) (by omega), w64 (x := a * h + b * g) (by omega) (by omega),
          w64 (x := a * e - b * f - c * g) (by omega) (by omega), w64 (x := a * f + b * e + c * h) (by omega) (by omega), w64 (x := a * g - b * h + c * e) (by omega) (by omega), w64 (x := a * h + b * g - c * f) (by omega) (by omega),
          w64 (x := a * e - b * f - c * g - d * h) (by omega) (by omega), w64 (x := a * f + b * e + c * h - d * g) (by omega) (by omega), w64 (x := a * g - b * h + c * e + d * f) (by omega) (by omega), w64 (x := a * h + b * g - c * f + d * e) (by omega) (by omega)]
      · refine hv.bind ?_
        cases qv [a * e - b * f - c * g - d * h, a * f + b * e + c * h - d * g, a * g - b * h + c * e + d * f, a * h + b * g - c * f + d * e]
        · exact Ev.now _
        · exact Ev.now _
    · rw [show qmul p q = ([], false) from by simp [qmul, c2]]
      simp only [Bool.eq_false_iff.2 c2, Bool.not_false]
      exact Ev.step (f := fun _ => some ([], false)) (fun k => by simp [spec_QuatMul.j0]) (Ev.now _)
  · rw [show qmul p q = ([], false) from by simp [qmul, c1]]
    simp only [Bool.eq_false_iff.2 c1, Bool.false_eq_true, if_false]
    exact Ev.step (f := fun _ => some ([], false)) (fun k => by simp [spec_QuatMul.j0]) (Ev.now _)
theorem implQuatNorm_ev {q : List Int} (hq : ∀ x ∈ q, I64 x) (hlq : q.length ≤ 9223372036854775806) : Ev (fun k => impl_QuatNorm.f k q) (if qv q = true then qnorm q else -1) := by
  unfold impl_QuatNorm.f
  refine (implQuatValid_ev hq hlq).bind ?_
  by_cases cv : qv q = true
  · simp only [if_pos cv]
    obtain ⟨a, b, c, d, rfl, ha, hb, hc, hd⟩ := qv_four cv
    have m1 := prod_bd ha ha
    have m2 := prod_bd hb hb
    have m3 := prod_bd hc hc
    have m4 := prod_bd hd hd
    simp only [len4, (rd4 _ _ _ _).1, (rd4 _ _ _ _).2.1, (rd4 _ _ _ _).2.2.1, (rd4 _ _ _ _).2.2.2, Int.reduceLT, if_true, qnorm]
    rw [w64 (x := a * a) (by omega) (by omega), w64 (x := b * b) (by omega) (by omega), w64 (x := c * c) (by omega) (by omega), w64 (x := d * d) (by omega) (by omega),
      w64 (x := a * a + b * b) (by omega) (by omega), w64 (x := a * a + b * b + c * c) (by omega) (by omega), w64 (x := a * a + b * b + c * c + d * d) (by omega) (by omega)]
    exact Ev.now _
  · simp only [if_neg cv]; exact Ev.now _
theorem specQuatConj_ev {q : List Int} (hq : ∀ x ∈ q, I64 x) (hlq : q.length ≤ 9223372036854775806) : Ev (fun k => spec_QuatConj.f k q) (if qv q = true then (qconj q, true) else ([], false)) := by
  unfold spec_QuatConj.f
  refine (specQuatValid_ev hq hlq).bind ?_
  by_cases cv : qv q = true
  · simp only [if_pos cv]
    obtain ⟨a, b, c, d, rfl, ha, hb, hc, hd⟩ := qv_four cv
    rw [qIn_iff] at ha hb hc hd
    simp only [len4, (rd4 _ _ _ _).1, (rd4 _ _ _ _).2.1, (rd4 _ _ _ _).2.2.1, (rd4 _ _ _ _).2.2.2, Int.reduceLT, if_true, qconj]
    rw [w64 (x := -b) (by omega) (by omega), w64 (x := -c) (by omega) (by omega), w64 (x := -d) (by omega) (by omega)]
    exact Ev.now _
  · simp only [if_neg cv]; exact Ev.now _


def vok (v : List Int) : Bool := v.all (fun x => decide (-100 ≤ x) && decide (x ≤ 100)) && ((v.length : Int) == 3)
theorem vok_three {v : List Int} (h : vok v = true) : ∃ a b c, v = [a, b, c] ∧ (-100 ≤ a ∧ a ≤ 100) ∧ (-100 ≤ b ∧ b ≤ 100) ∧ (-100 ≤ c ∧ c ≤ 100) := by
  simp only [vok, Bool.and_eq_true, List.all_eq_true, beq_iff_eq, decide_eq_true_eq] at h
  match v, h with
  | [a, b, c], h => exact ⟨a, b, c, rfl, h.1 a (by simp), h.1 b (by simp), h.1 c (by simp)⟩
  | [], h => simp at h
  | [_], h => simp at h
  | [_, _], h => simp at h
  | _ :: _ :: _ :: _ :: _, h => exfalso; have := h.2; simp at this; omega
def qturn (q v : List Int) : List Int × Bool :=
  if vok v = true ∧ qv q = true then
    (if (qmul q (0 :: v)).2 = true then
      (if (qmul (qmul q (0 :: v)).1 (qconj q)).2 = true then ((qmul (qmul q (0 :: v)).1 (qconj q)).1.drop 1, true) else ([], false)) else ([], false)) else ([], false)
theorem qmul_cases (p q : List Int) : qmul p q = ([], false) ∨ (qv p = true ∧ qv q = true ∧ qmul p q = (qprod p q, true) ∧ qv (qprod p q) = true) := by
  unfold qmul; split
  · rename_i h; exact Or.inr ⟨h.1, h.2.1, rfl, h.2.2⟩
  · exact Or.inl rfl
theorem qv_i64 {l : List Int} (h : qv l = true) : (∀ x ∈ l, I64 x) ∧ l.length = 4 := by
  obtain ⟨a, b, c, d, rfl, ha, hb, hc, hd⟩ := qv_four h
  rw [qIn_iff] at ha hb hc hd
  refine ⟨?_, rfl⟩
  intro x hx; simp only [List.mem_cons, List.not_mem_nil, or_false] at hx; unfold I64; rcases hx with rfl | rfl | rfl | rfl <;> omega
theorem qmul_i64 (p q : List Int) : (∀ x ∈ (qmul p q).1, I64 x) ∧ (qmul p q).1.length ≤ 9223372036854775806 := by
  rcases qmul_cases p q with h | ⟨_, _, h, hv⟩
  · rw [h]; simp
  · rw [h]; have := qv_i64 hv; exact ⟨this.1, by simp only; omega⟩
theorem qconj_qv {q : List Int} (h : qv q = true) : qv (qconj q) = true := by
  obtain ⟨a, b, c, d, rfl, ha, hb, hc, hd⟩ := qv_four h
  rw [qIn_iff] at ha hb hc hd
  simp only [qconj, qv_of, qIn, Bool.and_eq_true, decide_eq_true_eq]; omega
theorem qturn_len (q v : List Int) : (qturn q v).1.length ≤ 3 := by
  unfold qturn
  split
  · split
    · split
      · rcases qmul_cases (qmul q (0 :: v)).1 (qconj q) with h | ⟨_, _, h, hv⟩
        · rw [h]; simp
        · rw [h]; have := (qv_i64 hv).2; simp only [List.length_drop]; omega
      · simp
    · simp
  · simp
theorem implVectorOk_l (f v : List Int) (hl : v.length ≤ 9223372036854775806) (hf : (f.length : Int) = 3) : ∀ (d j : Nat), j + d = v.length →
    Ev (fun k => impl_vectorOk.l0 k f v 100 v (v.length : Int) j) ((v.drop j).all (fun x => decide (-100 ≤ x) && decide (x ≤ 100)) && ((v.length : Int) == 3)) := by
  intro d
  induction d with
  | zero =>
    intro j hj
    rw [List.drop_of_length_le (by omega)]
    refine Ev.step (f := fun _ => some ((v.length : Int) == (f.length : Int))) (fun k => ?_) (by rw [hf]; simpa using Ev.now _)
    simp only [impl_vectorOk.l0]
    rw [if_neg (by omega)]
  | succ d ih =>
    intro j hj
    rw [rd_drop (show j < v.length by omega)]
    have := ih (j + 1) (by omega)
    generalize hp : rd v (j : Int) = p
    rw [List.all_cons]
    by_cases c1 : p < -100
    · rw [decide_eq_false (by omega : ¬ -100 ≤ p), Bool.false_and, Bool.false_and, Bool.false_and]
      refine Ev.step (f := fun _ => some false) (fun k => ?_) (Ev.now _)
      simp only [impl_vectorOk.l0]
      rw [if_pos (by omega), if_pos (by omega), if_pos (by omega), hp, w64 (x := -100) (by omega) (by omega), if_pos c1]
    · by_cases c2 : p > 100
      · rw [decide_eq_false (by omega : ¬ p ≤ 100), Bool.and_false, Bool.false_and, Bool.false_and]
        refine Ev.step (f := fun _ => some false) (fun k => ?_) (Ev.now _)
        simp only [impl_vectorOk.l0]
        rw [if_pos (by omega), if_pos (by omega), if_pos (by omega), hp, w64 (x := -100) (by omega) (by omega), if_neg c1, if_pos c2]
      · rw [decide_eq_true (by omega : -100 ≤ p), decide_eq_true (by omega : p ≤ 100), Bool.true_and, Bool.true_and]
        refine Ev.step (fun k => ?_) this
        simp only [impl_vectorOk.l0]
        rw [if_pos (by omega), if_pos (by omega), if_pos (by omega), hp, w64 (x := -100) (by omega) (by omega), if_neg c1, if_neg c2, w64 (x := (j : Int) + 1) (by omega) (by omega)]
        rfl
theorem implVectorOk_ev {v : List Int} (hl : v.length ≤ 9223372036854775806) : Ev (fun k => impl_vectorOk.f k (List.replicate 3 0) v 100) (vok v) :=
  implVectorOk_l (List.replicate 3 0) v hl rfl v.length 0 (by omega)
theorem implQuatTurn_ev {q v : List Int} (hq : ∀ x ∈ q, I64 x) (hlq : q.length ≤ 9223372036854775806) (hv : ∀ x ∈ v, I64 x) (hlv : v.length ≤ 9223372036854775806) :
    Ev (fun k => impl_QuatTurn.f k q v) (qturn q v) := by
  unfold impl_QuatTurn.f
  refine (implQuatValid_ev hq hlq).bind ?_
  by_cases c1 : qv q = true
  · simp only [c1, if_true, show (3 : Int) ≤ 35184372088832 from by omega]
    refine (implVectorOk_ev hlv).bind ?_
    by_cases c2 : vok v = true
    · rw [show qturn q v = (if (qmul q (0 :: v)).2 = true then
      (if (qmul (qmul q (0 :: v)).1 (qconj q)).2 = true then ((qmul (qmul q (0 :: v)).1 (qconj q)).1.drop 1, true) else ([], false)) else ([], false)) from by unfold qturn; rw [if_pos ⟨c2, c1⟩]]
      simp only [c2, Bool.not_true]
      obtain ⟨x, y, z, rfl, hx, hy, hz⟩ := vok_three c2
      have h1 := implQuatMul_ev (p := q) (q := [0, x, y, z]) hq hlq (by intro u hu; simp only [List.mem_cons, List.not_mem_nil, or_false] at hu; unfold I64; rcases hu with rfl | rfl | rfl | rfl <;> omega) (by simp)
      have hc := qv_i64 (qconj_qv c1)
      have h2 := implQuatMul_ev (p := (qmul q [0, x, y, z]).1) (q := qconj q) (qmul_i64 _ _).1 (qmul_i64 _ _).2 hc.1 (by omega)
      have hc1 := qmul_cases (qmul q [0, x, y, z]).1 (qconj q)
      generalize qmul q [0, x, y, z] = r1 at h1 h2 hc1
      generalize hr2 : qmul r1.1 (qconj q) = r2 at h2 hc1
      obtain ⟨a, b, c, d, rfl, ha, hb, hcc, hd⟩ := qv_four c1
      rw [qIn_iff] at ha hb hcc hd
      apply Ev.step
      · intro k
        simp only [impl_QuatTurn.j0, Bool.false_eq_true, if_false, len4, show ((List.length [x, y, z] : Nat) : Int) = 3 from rfl, show rd [x, y, z] 0 = x from rfl, show rd [x, y, z] 1 = y from rfl, show rd [x, y, z] 2 = z from rfl,
          (rd4 _ _ _ _).1, (rd4 _ _ _ _).2.1, (rd4 _ _ _ _).2.2.1, (rd4 _ _ _ _).2.2.2, Int.reduceLT, if_true,
          w64 (x := -b) (by omega) (by omega), w64 (x := -c) (by omega) (by omega), w64 (x := -d) (by omega) (by omega)]
        exact rfl
      · refine h1.bind ?_
        by_cases e1 : r1.2 = true
        · simp only [e1, if_true]
          refine h2.bind ?_
          by_cases e2 : r2.2 = true
          · simp only [e2, if_true]
            rcases hc1 with h | ⟨_, _, h, hv⟩
            · rw [h] at e2; simp at e2
            · have hl4 : r2.1.length = 4 := by rw [h]; exact (qv_i64 hv).2
              simp only [show (1 : Int) ≤ (r2.1.length : Int) from by omega, if_true, slices_Clone_int_int.f, show (List.drop 1 r2.1).length ≤ 17592186044416 from by rw [List.length_drop]; omega, Option.bind_some]
              exact Ev.now _
          · simp only [e2, Bool.false_eq_true, if_false]; exact Ev.now _
        · simp only [e1, Bool.false_eq_true, if_false]; exact Ev.now _
    · rw [show qturn q v = ([], false) from by simp [qturn, c2]]
      simp only [Bool.eq_false_iff.2 c2, Bool.not_false]
      exact Ev.step (f := fun _ => some ([], false)) (fun k => by simp [impl_QuatTurn.j0]) (Ev.now _)
  · rw [show qturn q v = ([], false) from by simp [qturn, c1]]
    simp only [Bool.eq_false_iff.2 c1, Bool.false_eq_true, if_false]
    exact Ev.step (f := fun _ => some ([], false)) (fun k => by simp [impl_QuatTurn.j0]) (Ev.now _)
theorem specL6In_eq (x a b : Int) : spec_l6In.f x a b = some (decide (a ≤ x) && decide (x ≤ b)) := by
  unfold spec_l6In.f
  by_cases c : x ≥ a
  · simp [c, show a ≤ x from c]
  · simp [c, show ¬ a ≤ x from c]
theorem specQuatTurn_ev {q v : List Int} (hq : ∀ x ∈ q, I64 x) (hlq : q.length ≤ 9223372036854775806) (hv : ∀ x ∈ v, I64 x) (hlv : v.length ≤ 9223372036854775806) :
    Ev (fun k => spec_QuatTurn.f k q v) (qturn q v) := by
  have bad : vok v = false → qturn q v = ([], false) := fun h => by simp [qturn, h]
  have out : Ev (fun k => spec_QuatTurn.j0 k q v true) ([], false) := Ev.step (f := fun _ => some ([], false)) (fun k => by simp [spec_QuatTurn.j0]) (Ev.now _)
  unfold spec_QuatTurn.f
  simp only [specL6In_eq, Option.bind_some]
  by_cases c0 : (v.length : Int) = 3
  · obtain ⟨x, y, z, rfl⟩ : ∃ x y z, v = [x, y, z] := by
      match v, c0 with
      | [x, y, z], _ => exact ⟨x, y, z, rfl⟩
      | [], h => simp at h
      | [_], h => simp at h
      | [_, _], h => simp at h
      | _ :: _ :: _ :: _ :: _, h => exfalso; simp at h; omega
    simp only [show ((List.length [x, y, z] : Nat) : Int) = 3 from rfl, show rd [x, y, z] 0 = x from rfl, show rd [x, y, z] 1 = y from rfl, show rd [x, y, z] 2 = z from rfl, if_true, Int.reduceLT]
    have hvok : vok [x, y, z] = ((decide (-100 ≤ x) && decide (x ≤ 100)) && ((decide (-100 ≤ y) && decide (y ≤ 100)) && (decide (-100 ≤ z) && decide (z ≤ 100)))) := by simp [vok]
    by_cases e1 : (decide (-100 ≤ x) && decide (x ≤ 100)) = true
    · simp only [e1, if_true]
      by_cases e2 : (decide (-100 ≤ y) && decide (y ≤ 100)) = true
      · simp only [e2, if_true]
        by_cases e3 : (decide (-100 ≤ z) && decide (z ≤ 100)) = true
        · simp only [e3, Bool.not_true]
          have c2 : vok [x, y, z] = true := by rw [hvok, e1, e2, e3]; rfl
          simp only [Bool.and_eq_true, decide_eq_true_eq] at e1 e2 e3
          have h1 := specQuatMul_ev (p := q) (q := [0, x, y, z]) hq hlq (by intro u hu; simp only [List.mem_cons, List.not_mem_nil, or_false] at hu; unfold I64; rcases hu with rfl | rfl | rfl | rfl <;> omega) (by simp)
          have h2 := specQuatConj_ev hq hlq
          apply Ev.step
          · intro k
            simp only [spec_QuatTurn.j0, Bool.false_eq_true, if_false, show ((List.length [x, y, z] : Nat) : Int) = 3 from rfl, show rd [x, y, z] 0 = x from rfl, show rd [x, y, z] 1 = y from rfl, show rd [x, y, z] 2 = z from rfl, if_true, Int.reduceLT]
            exact rfl
          · refine h1.bind (h2.bind ?_)
            by_cases c1 : qv q = true
            · have hc := qv_i64 (qconj_qv c1)
              have h3 := specQuatMul_ev (p := (qmul q [0, x, y, z]).1) (q := qconj q) (qmul_i64 _ _).1 (qmul_i64 _ _).2 hc.1 (by omega)
              have hc1 := qmul_cases (qmul q [0, x, y, z]).1 (qconj q)
              rw [show qturn q [x, y, z] = (if (qmul q (0 :: [x, y, z])).2 = true then
      (if (qmul (qmul q (0 :: [x, y, z])).1 (qconj q)).2 = true then ((qmul (qmul q (0 :: [x, y, z])).1 (qconj q)).1.drop 1, true) else ([], false)) else ([], false)) from by unfold qturn; rw [if_pos ⟨c2, c1⟩]]
              generalize qmul q [0, x, y, z] = r1 at h3 hc1
              generalize hr2 : qmul r1.1 (qconj q) = r2 at h3 hc1
              simp only [if_pos c1]
              refine h3.bind ?_
              by_cases e4 : r1.2 = true
              · simp only [e4, if_true]
                by_cases e5 : r2.2 = true
                · simp only [e5, if_true]
                  rcases hc1 with h | ⟨_, _, h, hv⟩
                  · rw [h] at e5; simp at e5
                  · have hl4 : r2.1.length = 4 := by rw [h]; exact (qv_i64 hv).2
                    simp only [show (1 : Int) ≤ (r2.1.length : Int) from by omega, if_true]
                    exact Ev.now _
                · simp only [e5, Bool.false_eq_true, if_false]; exact Ev.now _
              · simp only [e4, Bool.false_eq_true, if_false]; exact Ev.now _
            · have hm : qmul q [0, x, y, z] = ([], false) := by simp [qmul, c1]
              rw [show qturn q [x, y, z] = ([], false) from by simp [qturn, c1]]
              simp only [if_neg c1, hm]
              have h3 := specQuatMul_ev (p := []) (q := []) (by simp) (by simp) (by simp) (by simp)
              refine h3.bind ?_
              simp only [Bool.false_eq_true, if_false]; exact Ev.now _
        · rw [bad (by rw [hvok, Bool.eq_false_iff.2 e3]; simp)]
          simp only [Bool.eq_false_iff.2 e3, Bool.not_false]
          exact out
      · rw [bad (by rw [hvok, Bool.eq_false_iff.2 e2]; simp)]
        simp only [e2, Bool.false_eq_true, if_false]
        exact out
    · rw [bad (by rw [hvok, Bool.eq_false_iff.2 e1]; simp)]
      simp only [e1, Bool.false_eq_true, if_false]
      exact out
  · rw [bad (by simp [vok, c0])]
    simp only [if_neg c0]
    exact out


/-! ### two lists are the same -/
theorem sameInts_l (xs ys : List Int) (he : xs.length = ys.length) (hl : xs.length ≤ 9223372036854775806) : ∀ (d j : Nat), j + d = xs.length →
    Ev (fun k => laws_sameInts.l0 k xs ys j) (decide (xs.drop j = ys.drop j)) := by
  intro d
  induction d with
  | zero =>
    intro j hj
    rw [List.drop_of_length_le (by omega), List.drop_of_length_le (show ys.length ≤ j by omega)]
    refine Ev.step (f := fun _ => some true) (fun k => ?_) (by simpa using Ev.now true)
    simp only [laws_sameInts.l0]
    rw [if_neg (by omega)]
  | succ d ih =>
    intro j hj
    rw [rd_drop (show j < xs.length by omega), rd_drop (show j < ys.length by omega)]
    have := ih (j + 1) (by omega)
    by_cases c : rd xs (j : Int) = rd ys (j : Int)
    · rw [c]
      simp only [List.cons.injEq, true_and]
      refine Ev.step (fun k => ?_) this
      simp only [laws_sameInts.l0]
      rw [if_pos (by omega), if_pos (by omega), if_pos (by omega), if_pos c, w64 (x := (j : Int) + 1) (by omega) (by omega)]
      rfl
    · rw [decide_eq_false (fun h => c (List.cons.inj h).1)]
      refine Ev.step (f := fun _ => some false) (fun k => ?_) (Ev.now _)
      simp only [laws_sameInts.l0]
      rw [if_pos (by omega), if_pos (by omega), if_pos (by omega), if_neg c]
theorem sameInts_ev {xs ys : List Int} (hl : xs.length ≤ 9223372036854775806) : Ev (fun k => laws_sameInts.f k xs ys) (decide (xs = ys)) := by
  unfold laws_sameInts.f
  by_cases c : xs.length = ys.length
  · simp only [if_pos (show (xs.length : Int) = (ys.length : Int) by omega)]
    simpa using sameInts_l xs ys c hl xs.length 0 (by omega)
  · simp only [if_neg (show ¬ (xs.length : Int) = (ys.length : Int) by omega), decide_eq_false (fun h : xs = ys => c (by rw [h]))]
    exact Ev.now _


/-! ### quaternions drawn -/
theorem quat_l {b : List Int} (hb : BytesB b) : ∀ (d : Nat) (out : List Int) (i p : Int), i + d = 4 → out.length + d = 4 → 0 ≤ i → 0 ≤ p → p + d ≤ 1000 → (∀ x ∈ out, -20000 ≤ x ∧ x ≤ 20000) →
    ∃ q p', (∀ x ∈ q, -20000 ≤ x ∧ x ≤ 20000) ∧ q.length ≤ 4 ∧ 0 ≤ p' ∧ p' ≤ p + d + 2 ∧ Ev (fun k => spec_l92Quat.l0 k out i b p) (q, p') := by
  intro d
  induction d with
  | zero =>
    intro out i p hi hl h0 hp hP ho
    obtain ⟨v1, h1, g1, e1⟩ := pick_ev hb hp (by omega) (n := 30) (by omega)
    obtain ⟨v2, h2, g2, e2⟩ := pick_ev hb (p := p + 1) (by omega) (by omega) (n := 3) (by omega)
    by_cases c : v1 = 0
    · refine ⟨out.set 0 (rd [10000, 10001, (-10000)] v2), p + 1 + 1, ?_, by simp; omega, by omega, by omega, ?_⟩
      · intro x hx
        rcases List.mem_or_eq_of_mem_set hx with h | h
        · exact ho x h
        · have : v2 = 0 ∨ v2 = 1 ∨ v2 = 2 := by omega
          rcases this with rfl | rfl | rfl <;> simp [rd] at h <;> omega
      · apply Ev.step
        · intro k; simp only [spec_l92Quat.l0]; rw [if_neg (by omega)]
        · refine e1.bind ?_
          simp only [if_pos c, Option.bind_some]
          refine e2.bind ?_
          simp only [if_pos h2, if_pos (show v2 < ((List.length [(10000 : Int), 10001, (-10000)] : Nat) : Int) from by simp; omega), if_pos (show 0 < (out.length : Int) by omega)]
          exact Ev.now _
    · by_cases c2 : v1 = 1
      · refine ⟨out.drop 1, p + 1, fun x hx => ho x (List.mem_of_mem_drop hx), by simp; omega, by omega, by omega, ?_⟩
        apply Ev.step
        · intro k; simp only [spec_l92Quat.l0]; rw [if_neg (by omega)]
        · refine e1.bind ?_
          simp only [if_neg c, if_pos c2, if_pos (show 1 ≤ (out.length : Int) by omega)]
          exact Ev.now _
      · refine ⟨out, p + 1, ho, by omega, by omega, by omega, ?_⟩
        apply Ev.step
        · intro k; simp only [spec_l92Quat.l0]; rw [if_neg (by omega)]
        · refine e1.bind ?_
          simp only [if_neg c, if_neg c2]
          exact Ev.now _
  | succ d ih =>
    intro out i p hi hl h0 hp hP ho
    obtain ⟨v1, h1, g1, e1⟩ := pick_ev hb hp (by omega) (n := 13) (by omega)
    obtain ⟨q, p', hq, hlq, hp0, hp1, he⟩ := ih (out ++ [v1 - 6]) (i + 1) (p + 1) (by omega) (by simp; omega) (by omega) (by omega) (by omega) (by
      intro x hx; rcases List.mem_append.1 hx with h | h
      · exact ho x h
      · simp at h; omega)
    refine ⟨q, p', hq, hlq, hp0, by omega, ?_⟩
    apply Ev.step
    · intro k; simp only [spec_l92Quat.l0]; rw [if_pos (by omega), w64 (x := i + 1) (by omega) (by omega)]
    · refine e1.bind ?_
      simp only [if_pos (show out.length < 17592186044416 by omega), w64 (x := v1 - 6) (by omega) (by omega)]
      exact he
theorem quat_ev {b : List Int} (hb : BytesB b) (p : Int) (hp : 0 ≤ p) (hP : p ≤ 900) :
    ∃ q p', (∀ x ∈ q, -20000 ≤ x ∧ x ≤ 20000) ∧ q.length ≤ 4 ∧ 0 ≤ p' ∧ p' ≤ p + 6 ∧ Ev (fun k => spec_l92Quat.f k b p) (q, p') := by
  obtain ⟨q, p', h1, h2, h3, h4, h5⟩ := quat_l hb 4 [] 0 p (by omega) (by simp) (by omega) hp (by omega) (by simp)
  exact ⟨q, p', h1, h2, h3, by omega, h5⟩


theorem qnorm_bd {q : List Int} (h : qv q = true) : 0 ≤ qnorm q ∧ qnorm q ≤ 400000000 := by
  obtain ⟨a, b, c, d, rfl, ha, hb, hc, hd⟩ := qv_four h
  have := prod_bd ha ha; have := prod_bd hb hb; have := prod_bd hc hc; have := prod_bd hd hd
  have := sq_nonneg a; have := sq_nonneg b; have := sq_nonneg c; have := sq_nonneg d
  simp only [qnorm]; omega


/-! ### turns -/
theorem vok_qv {v : List Int} (h : vok v = true) : qv (0 :: v) = true := by
  obtain ⟨x, y, z, rfl, hx, hy, hz⟩ := vok_three h
  simp only [qv_of, qIn, Bool.and_eq_true, decide_eq_true_eq]; omega
theorem qturn_cases (q v : List Int) : qturn q v = ([], false) ∨ (vok v = true ∧ qv q = true ∧ qv (qprod q (0 :: v)) = true ∧ qv (qprod (qprod q (0 :: v)) (qconj q)) = true ∧ qturn q v = ((qprod (qprod q (0 :: v)) (qconj q)).drop 1, true)) := by
  unfold qturn
  by_cases c : vok v = true ∧ qv q = true
  · rw [if_pos c]
    rcases qmul_cases q (0 :: v) with h | ⟨_, _, h, hv⟩
    · left; rw [h]; simp
    · rw [h]
      simp only [if_true]
      rcases qmul_cases (qprod q (0 :: v)) (qconj q) with h2 | ⟨_, _, h2, hv2⟩
      · left; rw [h2]; simp
      · right; rw [h2]; exact ⟨c.1, c.2, hv, hv2, by simp⟩
  · left; rw [if_neg c]
theorem qturn_of {q v : List Int} (h1 : vok v = true) (h2 : qv q = true) (h3 : qv (qprod q (0 :: v)) = true) (h4 : qv (qprod (qprod q (0 :: v)) (qconj q)) = true) : qturn q v = ((qprod (qprod q (0 :: v)) (qconj q)).drop 1, true) := by
  have e1 : qmul q (0 :: v) = (qprod q (0 :: v), true) := by unfold qmul; rw [if_pos ⟨h2, vok_qv h1, h3⟩]
  have e2 : qmul (qprod q (0 :: v)) (qconj q) = (qprod (qprod q (0 :: v)) (qconj q), true) := by unfold qmul; rw [if_pos ⟨h3, qconj_qv h2, h4⟩]
  unfold qturn
  rw [if_pos ⟨h1, h2⟩, e1]
  simp only [if_true, e2]
def qneg (q : List Int) : List Int := q.map (fun x => -x)
theorem minusOf_l (xs : List Int) (hx : ∀ x ∈ xs, -20000 ≤ x ∧ x ≤ 20000) (hl : xs.length ≤ 1000) : ∀ (d j : Nat) (out : List Int), j + d = xs.length → out.length = j →
    Ev (fun k => laws_minusOf.l0 k xs out j) (out ++ qneg (xs.drop j)) := by
  intro d
  induction d with
  | zero =>
    intro j out hj ho
    rw [List.drop_of_length_le (by omega)]
    refine Ev.step (f := fun _ => some out) (fun k => ?_) (by simpa [qneg] using Ev.now _)
    simp only [laws_minusOf.l0]
    rw [if_neg (by omega)]
  | succ d ih =>
    intro j out hj ho
    have hm := hx _ (rd_mem (xs := xs) (j := j) (by omega))
    rw [rd_drop (show j < xs.length by omega)]
    have := ih (j + 1) (out ++ [-(rd xs (j : Int))]) (by omega) (by simp; omega)
    rw [List.append_assoc, List.singleton_append] at this
    refine Ev.step (fun k => ?_) this
    simp only [laws_minusOf.l0]
    rw [if_pos (by omega), if_pos (by omega), if_pos (by omega), w64 (x := -(rd xs (j : Int))) (by omega) (by omega), w64 (x := (j : Int) + 1) (by omega) (by omega)]
    rfl
theorem minusOf_ev {xs : List Int} (hx : ∀ x ∈ xs, -20000 ≤ x ∧ x ≤ 20000) (hl : xs.length ≤ 1000) : Ev (fun k => laws_minusOf.f k xs) (qneg xs) :=
  minusOf_l xs hx hl xs.length 0 [] (by omega) rfl
theorem qneg_qv {q : List Int} (h : qv q = true) : qv (qneg q) = true := by
  obtain ⟨a, b, c, d, rfl, ha, hb, hc, hd⟩ := qv_four h
  rw [qIn_iff] at ha hb hc hd
  simp only [qneg, List.map, qv_of, qIn, Bool.and_eq_true, decide_eq_true_eq]; omega
theorem qturn_neg {q v : List Int} (h1 : vok v = true) (h2 : qv q = true) (h3 : qv (qprod q (0 :: v)) = true) (h4 : qv (qprod (qprod q (0 :: v)) (qconj q)) = true) : qturn (qneg q) v = qturn q v := by
  obtain ⟨x, y, z, rfl, hx, hy, hz⟩ := vok_three h1
  obtain ⟨a, b, c, d, rfl, ha, hb, hc, hd⟩ := qv_four h2
  have e1 : qprod (qneg [a, b, c, d]) [0, x, y, z] = qneg (qprod [a, b, c, d] [0, x, y, z]) := by
    simp only [qprod, qneg, List.map, List.cons.injEq, and_true]; refine ⟨?_, ?_, ?_, ?_⟩ <;> grind
  have e2 : qprod (qprod (qneg [a, b, c, d]) [0, x, y, z]) (qconj (qneg [a, b, c, d])) = qprod (qprod [a, b, c, d] [0, x, y, z]) (qconj [a, b, c, d]) := by
    simp only [qprod, qneg, qconj, List.map, List.cons.injEq, and_true]; refine ⟨?_, ?_, ?_, ?_⟩ <;> grind
  rw [qturn_of h1 h2 h3 h4, qturn_of h1 (qneg_qv h2) (by rw [e1]; exact qneg_qv h3) (by rw [e2]; exact h4), e2]
theorem four_norm (a b c d e f g h : Int) : (a * e - b * f - c * g - d * h) * (a * e - b * f - c * g - d * h) + (a * f + b * e + c * h - d * g) * (a * f + b * e + c * h - d * g) + (a * g - b * h + c * e + d * f) * (a * g - b * h + c * e + d * f) + (a * h + b * g - c * f + d * e) * (a * h + b * g - c * f + d * e) =
    (a * a + b * b + c * c + d * d) * (e * e + f * f + g * g + h * h) := by grind
theorem turn_norm (a b c d x y z : Int) : ∃ o1 o2 o3, qprod (qprod [a, b, c, d] [0, x, y, z]) (qconj [a, b, c, d]) = [0, o1, o2, o3] ∧
    o1 * o1 + o2 * o2 + o3 * o3 = (x * x + y * y + z * z) * (a * a + b * b + c * c + d * d) * (a * a + b * b + c * c + d * d) := by
  have h1 := four_norm a b c d 0 x y z
  simp only [qprod, qconj]
  generalize hA : a * 0 - b * x - c * y - d * z = A at h1
  generalize hB : a * x + b * 0 + c * z - d * y = B at h1
  generalize hC : a * y - b * z + c * 0 + d * x = C at h1
  generalize hD : a * z + b * y - c * x + d * 0 = D at h1
  have h2 := four_norm A B C D a (-b) (-c) (-d)
  have h0 : A * a - B * -b - C * -c - D * -d = 0 := by rw [← hA, ← hB, ← hC, ← hD]; grind
  rw [h0] at h2
  refine ⟨A * -b + B * a + C * -d - D * -c, A * -c - B * -d + C * a + D * -b, A * -d + B * -c - C * -b + D * a, by rw [h0], ?_⟩
  have h3 : a * a + -b * -b + -c * -c + -d * -d = a * a + b * b + c * c + d * d := by rw [Int.neg_mul_neg, Int.neg_mul_neg, Int.neg_mul_neg]
  rw [h1, h3] at h2
  have h4 : (0 : Int) * 0 + x * x + y * y + z * z = x * x + y * y + z * z := by omega
  rw [h4, Int.mul_comm (a * a + b * b + c * c + d * d) (x * x + y * y + z * z)] at h2
  rw [← h2]; omega
theorem turn_self (a b c d : Int) : qprod (qprod [a, b, c, d] [0, b, c, d]) (qconj [a, b, c, d]) = [0, (a * a + b * b + c * c + d * d) * b, (a * a + b * b + c * c + d * d) * c, (a * a + b * b + c * c + d * d) * d] := by
  simp only [qprod, qconj, List.cons.injEq, and_true]; refine ⟨?_, ?_, ?_, ?_⟩ <;> grind
theorem turnDraw_ev {l : List Int} (h : ∀ x ∈ l, (Lit.int .u8 x).wf = true) : ∃ q v, (∀ x ∈ q, -20000 ≤ x ∧ x ≤ 20000) ∧ q.length ≤ 4 ∧ (∀ x ∈ v, -200 ≤ x ∧ x ≤ 200) ∧ v.length ≤ 3 ∧ Ev (fun k => spec_DrawQuatTurn.f k l) (q, v) := by
  obtain ⟨b, hb, ho⟩ := open_ev h
  obtain ⟨q, p, hq, hlq, hp0, hp1, hd⟩ := quat_ev hb 0 (by omega) (by omega)
  obtain ⟨v1, h1, g1, e1⟩ := pick_ev hb hp0 (by omega) (n := 11) (by omega)
  obtain ⟨v2, h2, g2, e2⟩ := pick_ev hb (p := p + 1) (by omega) (by omega) (n := 11) (by omega)
  obtain ⟨v3, h3, g3, e3⟩ := pick_ev hb (p := p + 1 + 1) (by omega) (by omega) (n := 11) (by omega)
  obtain ⟨v4, h4, g4, e4⟩ := pick_ev hb (p := p + 1 + 1 + 1) (by omega) (by omega) (n := 24) (by omega)
  obtain ⟨v5, h5, g5, e5⟩ := pick_ev hb (p := p + 1 + 1 + 1 + 1) (by omega) (by omega) (n := 2) (by omega)
  have l3 : ((List.length [v1 - 5, v2 - 5, v3 - 5] : Nat) : Int) = 3 := rfl
  have start : ∀ r, Ev (fun k => (spec_l6Rd_pick.f k b (p + 1 + 1 + 1) 24).bind fun bt256 => (if bt256.1 = 0 then (if (1 : Int) ≤ 3 then (some (q, ([v1 - 5, v2 - 5, v3 - 5].drop (1 : Int).toNat))) else (none)) else (if bt256.1 = 1 then ((spec_l6Rd_pick.f k b bt256.2 2).bind fun bt264 => (if 0 ≤ bt264.1 then (if bt264.1 < ((List.length [(100 : Int), 101] : Nat) : Int) then (if (0 : Int) < 3 then (some (q, ([v1 - 5, v2 - 5, v3 - 5].set (0 : Int).toNat (rd [100, 101] bt264.1)))) else (none)) else (none)) else (none))) else (some (q, [v1 - 5, v2 - 5, v3 - 5]))))) r → Ev (fun k => spec_DrawQuatTurn.f k l) r := by
    intro r hr
    simp only [spec_DrawQuatTurn.f, ho, Option.bind_some]
    refine hd.bind (e1.bind (e2.bind (e3.bind ?_)))
    simp only [w64 (x := v1 - 5) (by omega) (by omega), w64 (x := v2 - 5) (by omega) (by omega), w64 (x := v3 - 5) (by omega) (by omega), l3]
    exact hr
  by_cases c : v4 = 0
  · refine ⟨q, [v2 - 5, v3 - 5], hq, hlq, ?_, by simp, start _ ?_⟩
    · intro x hx; simp only [List.mem_cons, List.not_mem_nil, or_false] at hx; omega
    · refine e4.bind ?_
      simp only [if_pos c]
      exact Ev.now _
  · by_cases c1 : v4 = 1
    · refine ⟨q, [rd [100, 101] v5, v2 - 5, v3 - 5], hq, hlq, ?_, by simp, start _ ?_⟩
      · have : v5 = 0 ∨ v5 = 1 := by omega
        intro x hx; simp only [List.mem_cons, List.not_mem_nil, or_false] at hx
        rcases this with rfl | rfl <;> simp [rd] at hx <;> omega
      · refine e4.bind ?_
        simp only [if_neg c, if_pos c1]
        refine e5.bind ?_
        simp only [if_pos h5, if_pos (show v5 < ((List.length [(100 : Int), 101] : Nat) : Int) from by simp; omega)]
        exact Ev.now _
    · refine ⟨q, [v1 - 5, v2 - 5, v3 - 5], hq, hlq, ?_, by simp, start _ ?_⟩
      · intro x hx; simp only [List.mem_cons, List.not_mem_nil, or_false] at hx; omega
      · refine e4.bind ?_
        simp only [if_neg c, if_neg c1]
        exact Ev.now _
theorem holds : laws_FnTurn.Pure := by
  intro l0 _ _ hw
  refine Ev.rounds ?_
  unfold laws_FnTurn.f
  by_cases big : (l0.length : Int) > 1048576
  · simp only [if_pos big]; exact Ev.now _
  obtain ⟨q, v, hq, hlq, hv, hlv, hd⟩ := turnDraw_ev hw
  have iq : ∀ x ∈ q, I64 x := fun x hx => by have := hq x hx; unfold I64; omega
  have iv : ∀ x ∈ v, I64 x := fun x hx => by have := hv x hx; unfold I64; omega
  simp only [if_neg big]
  refine hd.bind ((implQuatTurn_ev iq (by omega) iv (by omega)).bind ((specQuatTurn_ev iq (by omega) iv (by omega)).bind ?_))
  simp only [bne_self_eq_false, Bool.false_eq_true, if_false]
  have hlen := qturn_len q v
  refine (sameInts_ev (xs := (qturn q v).1) (ys := (qturn q v).1) (by omega)).bind ?_
  simp only [decide_true, if_true]
  rcases qturn_cases q v with h | ⟨h1, h2, h3, h4, h⟩
  · rw [h]
    simp only [Bool.not_false]
    apply Ev.step
    · intro k; simp only [laws_FnTurn.j0, if_true, beq_self_eq_true]; exact rfl
    · refine (sameInts_ev (xs := []) (ys := []) (by simp)).bind ?_
      simp only [decide_true]; exact Ev.now _
  · have hneg := qturn_neg h1 h2 h3 h4
    have hself := qturn_cases q (q.drop 1)
    obtain ⟨x, y, z, rfl, hx, hy, hz⟩ := vok_three h1
    obtain ⟨a, b, c, d, rfl, ha, hb, hc, hd'⟩ := qv_four h2
    obtain ⟨o1, o2, o3, ho, hn⟩ := turn_norm a b c d x y z
    have hbd := qnorm_bd h2
    simp only [qnorm] at hbd
    rw [ho] at h h4
    simp only [qv_of, qIn, Bool.and_eq_true, decide_eq_true_eq] at h4
    have mo := implQuatNorm_ev (q := [a, b, c, d]) iq (by simp)
    rw [if_pos h2] at mo
    simp only [qnorm] at mo
    have mneg := implQuatTurn_ev (q := qneg [a, b, c, d]) (v := [x, y, z]) (qv_i64 (qneg_qv h2)).1 (by simp [qneg]) iv (by simp)
    rw [hneg, h] at mneg
    have mself := implQuatTurn_ev (q := [a, b, c, d]) (v := [b, c, d]) iq (by simp) (fun x hx => iq x (by simp only [List.mem_cons] at hx ⊢; exact Or.inr hx)) (by simp)
    have mq := minusOf_ev (xs := [a, b, c, d]) hq (by simp)
    rw [h]
    simp only [List.drop, Bool.not_true]
    have q1 := prod_bd (qIn_iff.2 h4.2.1) (qIn_iff.2 h4.2.1)
    have q2 := prod_bd (qIn_iff.2 h4.2.2.1) (qIn_iff.2 h4.2.2.1)
    have q3 := prod_bd (qIn_iff.2 h4.2.2.2) (qIn_iff.2 h4.2.2.2)
    have s1 := sq_nonneg o1
    have s2 := sq_nonneg o2
    have s3 := sq_nonneg o3
    have x1 := sq_nonneg x
    have x2 := sq_nonneg y
    have x3 := sq_nonneg z
    have xx : x * x ≤ 100 * 100 := by rcases Int.le_total 0 x with h | h; exact mul_le2 h hx.2 h hx.2; have := mul_le2 (a := -x) (b := -x) (A := 100) (B := 100) (by omega) (by omega) (by omega) (by omega); rw [Int.neg_mul_neg] at this; exact this
    have yy : y * y ≤ 100 * 100 := by rcases Int.le_total 0 y with h | h; exact mul_le2 h hy.2 h hy.2; have := mul_le2 (a := -y) (b := -y) (A := 100) (B := 100) (by omega) (by omega) (by omega) (by omega); rw [Int.neg_mul_neg] at this; exact this
    have zz : z * z ≤ 100 * 100 := by rcases Int.le_total 0 z with h | h; exact mul_le2 h hz.2 h hz.2; have := mul_le2 (a := -z) (b := -z) (A := 100) (B := 100) (by omega) (by omega) (by omega) (by omega); rw [Int.neg_mul_neg] at this; exact this
    generalize hN : a * a + b * b + c * c + d * d = n at *
    have bn := mul_le2 (show 0 ≤ x * x + y * y + z * z by omega) (show x * x + y * y + z * z ≤ 30000 by omega) hbd.1 hbd.2
    have bn0 := Int.mul_nonneg (show 0 ≤ x * x + y * y + z * z by omega) hbd.1
    have l3 : ∀ u w t : Int, ((List.length [u, w, t] : Nat) : Int) = 3 := fun _ _ _ => rfl
    have r3 : ∀ u w t : Int, rd [u, w, t] 0 = u ∧ rd [u, w, t] 1 = w ∧ rd [u, w, t] 2 = t := fun _ _ _ => ⟨rfl, rfl, rfl⟩
    apply Ev.step
    · intro k
      simp only [laws_FnTurn.j0, Bool.false_eq_true, if_false, l3, (r3 _ _ _).1, (r3 _ _ _).2.1, (r3 _ _ _).2.2, len4, (rd4 _ _ _ _).2.1, (rd4 _ _ _ _).2.2.1, (rd4 _ _ _ _).2.2.2, Int.reduceLT, Int.reduceLE, if_true, List.drop,
        w64 (x := o1 * o1) (by omega) (by omega), w64 (x := o2 * o2) (by omega) (by omega), w64 (x := o3 * o3) (by omega) (by omega), w64 (x := o1 * o1 + o2 * o2) (by omega) (by omega), w64 (x := o1 * o1 + o2 * o2 + o3 * o3) (by omega) (by omega),
        w64 (x := x * x) (by omega) (by omega), w64 (x := y * y) (by omega) (by omega), w64 (x := z * z) (by omega) (by omega), w64 (x := x * x + y * y) (by omega) (by omega), w64 (x := x * x + y * y + z * z) (by omega) (by omega)]
      exact rfl
    · refine mo.bind (mq.bind (mneg.bind (mself.bind ?_)))
      simp only [w64 (x := (x * x + y * y + z * z) * n) (by omega) (by omega), w64 (x := (x * x + y * y + z * z) * n * n) (by omega) (by omega), if_pos hn, if_true, List.drop]
      refine (sameInts_ev (xs := [o1, o2, o3]) (ys := [o1, o2, o3]) (by simp)).bind ?_
      simp only [decide_true, if_true]
      rcases hself with hs | ⟨_, _, _, s4, hs⟩
      · simp only [List.drop] at hs
        simp only [hs, Bool.false_eq_true, if_false]; exact Ev.now _
      · simp only [List.drop] at hs s4
        rw [turn_self, hN] at s4 hs
        simp only [qv_of, qIn, Bool.and_eq_true, decide_eq_true_eq] at s4
        simp only [hs, if_true, List.drop, w64 (x := n * b) (by omega) (by omega), w64 (x := n * c) (by omega) (by omega), w64 (x := n * d) (by omega) (by omega)]
        refine (sameInts_ev (xs := [n * b, n * c, n * d]) (ys := [n * b, n * c, n * d]) (by simp)).bind ?_
        simp only [decide_true]; exact Ev.now _

end Go.Proofs.Ytfhehcgefbknbaa.QFnTurn
