/- Quaternions, turned. -/
import Derived.Test.YtfhehcgefbknbaaPFnExactQuatTurnx7
import Derived.Test.YtfhehcgefbknbaaQuat
import Derived.Test.YtfhehcgefbknbaaPrm
set_option linter.unusedVariables false
set_option linter.unusedSimpArgs false
namespace Go.Proofs.Ytfhehcgefbknbaa.QFnExactQuatTurn
open Go.RowKit Go.Proofs.Ytfhehcgefbknbaa.PFnExactQuatTurn Go.Proofs.YtfhehcgefbknbaaW.PrintWords Go.Proofs.YtfhehcgefbknbaaW.PrintLast Go.Proofs.YtfhehcgefbknbaaW.PrintMore Locg

/-! ### quaternions -/
theorem implQuatValid_l (xs : List Int) (hx : ∀ x ∈ xs, I64 x) (hl : xs.length ≤ 9223372036854775806) : ∀ (d j : Nat), j + d = xs.length →
    Ev (fun k => impl_QuatValid.l0 k xs xs (xs.length : Int) j) ((xs.drop j).all qIn && ((xs.length : Int) == 4)) := by
  intro d
  induction d with
  | zero =>
    intro j hj
    rw [List.drop_of_length_le (by omega)]
    refine Ev.step (f := fun _ => some ((xs.length : Int) == 4)) (fun k => ?_) (by simpa using Ev.now _)
    simp only [impl_QuatValid.l0]
    rw [if_neg (by omega)]
  | succ d ih =>
    intro j hj
    have hm := hx _ (rd_mem (xs := xs) (j := j) (by omega))
    rw [rd_drop (show j < xs.length by omega)]
    have := ih (j + 1) (by omega)
    generalize hp : rd xs (j : Int) = p at hm
    unfold I64 at hm
    by_cases c : qIn p = true
    · have hq := qIn_iff.1 c
      rw [List.all_cons, c, Bool.true_and]
      refine Ev.step (fun k => ?_) this
      simp only [impl_QuatValid.l0, impl_size.f, Option.bind_some]
      rw [if_pos (by omega), if_pos (by omega), if_pos (by omega), hp, w64 (x := -p) (by omega) (by omega), if_neg (by unfold mx; split <;> omega), if_neg (by omega), w64 (x := (j : Int) + 1) (by omega) (by omega)]
      rfl
    · have hq : ¬ (-10000 ≤ p ∧ p ≤ 10000) := fun h => c (qIn_iff.2 h)
      rw [List.all_cons, Bool.eq_false_iff.2 c, Bool.false_and, Bool.false_and]
      refine Ev.step (f := fun _ => some false) (fun k => ?_) (Ev.now _)
      simp only [impl_QuatValid.l0, impl_size.f, Option.bind_some]
      rw [if_pos (by omega), if_pos (by omega), if_pos (by omega), hp]
      by_cases c1 : mx p (wrap64 (-p)) > 10000
      · rw [if_pos c1]
      · rw [if_neg c1, if_pos (by unfold mx at c1; split at c1 <;> omega)]
theorem implQuatValid_ev {xs : List Int} (hx : ∀ x ∈ xs, I64 x) (hl : xs.length ≤ 9223372036854775806) : Ev (fun k => impl_QuatValid.f k xs) (qv xs) :=
  implQuatValid_l xs hx hl xs.length 0 (by omega)
theorem specQuatValid_l (xs : List Int) (hx : ∀ x ∈ xs, I64 x) (hl : xs.length ≤ 9223372036854775806) : ∀ (d j : Nat), j + d = xs.length →
    Ev (fun k => spec_QuatValid.l0 k xs j) ((xs.drop j).all qIn && ((xs.length : Int) == 4)) := by
  intro d
  induction d with
  | zero =>
    intro j hj
    rw [List.drop_of_length_le (by omega)]
    refine Ev.step (f := fun _ => some ((xs.length : Int) == 4)) (fun k => ?_) (by simpa using Ev.now _)
    simp only [spec_QuatValid.l0]
    rw [if_neg (by omega)]
  | succ d ih =>
    intro j hj
    rw [rd_drop (show j < xs.length by omega)]
    have := ih (j + 1) (by omega)
    generalize hp : rd xs (j : Int) = p
    by_cases c : qIn p = true
    · have hq := qIn_iff.1 c
      rw [List.all_cons, c, Bool.true_and]
      refine Ev.step (fun k => ?_) this
      simp only [spec_QuatValid.l0, spec_l6In.f]
      rw [if_pos (by omega), if_pos (by omega), hp, if_pos hq.1, decide_eq_true hq.2]
      simp only [Option.bind_some, if_true]
      rw [w64 (x := (j : Int) + 1) (by omega) (by omega)]
      rfl
    · have hq : ¬ (-10000 ≤ p ∧ p ≤ 10000) := fun h => c (qIn_iff.2 h)
      rw [List.all_cons, Bool.eq_false_iff.2 c, Bool.false_and, Bool.false_and]
      refine Ev.step (f := fun _ => some false) (fun k => ?_) (Ev.now _)
      simp only [spec_QuatValid.l0, spec_l6In.f]
      rw [if_pos (by omega), if_pos (by omega), hp]
      by_cases c1 : p ≥ -10000
      · rw [if_pos c1, decide_eq_false (by omega)]; simp
      · rw [if_neg c1]; simp
theorem specQuatValid_ev {xs : List Int} (hx : ∀ x ∈ xs, I64 x) (hl : xs.length ≤ 9223372036854775806) : Ev (fun k => spec_QuatValid.f k xs) (qv xs) :=
  specQuatValid_l xs hx hl xs.length 0 (by omega)
theorem rd4 (a b c d : Int) : rd [a, b, c, d] 0 = a ∧ rd [a, b, c, d] 1 = b ∧ rd [a, b, c, d] 2 = c ∧ rd [a, b, c, d] 3 = d := ⟨rfl, rfl, rfl, rfl⟩
theorem len4 (a b c d : Int) : ((List.length [a, b, c, d] : Nat) : Int) = 4 := rfl
theorem implQuatMul_ev {p q : List Int} (hp : ∀ x ∈ p, I64 x) (hlp : p.length ≤ 9223372036854775806) (hq : ∀ x ∈ q, I64 x) (hlq : q.length ≤ 9223372036854775806) :
    Ev (fun k => impl_QuatMul.f k p q) (qmul p q) := by
  unfold impl_QuatMul.f
  refine (implQuatValid_ev hp hlp).bind ?_
  by_cases c1 : qv p = true
  · simp only [c1, if_true]
    refine (implQuatValid_ev hq hlq).bind ?_
    by_cases c2 : qv q = true
    · have hfin : qmul p q = bif qv (qprod p q) then (qprod p q, true) else ([], false) := by
        unfold qmul
        cases hr : qv (qprod p q) <;> simp [c1, c2]
      rw [hfin]
      clear hfin
      simp only [c2, Bool.not_true]
      obtain ⟨a, b, c, d, rfl, ha, hb, hc, hd⟩ := qv_four c1
      obtain ⟨e, f, g, h, rfl, he, hf, hg, hh⟩ := qv_four c2
      have m1 := prod_bd ha he
      have m2 := prod_bd hb hf
      have m3 := prod_bd hc hg
      have m4 := prod_bd hd hh
      have m5 := prod_bd ha hf
      have m6 := prod_bd hb he
      have m7 := prod_bd hc hh
      have m8 := prod_bd hd hg
      have m9 := prod_bd ha hg
      have m10 := prod_bd hb hh
      have m11 := prod_bd hc he
      have m12 := prod_bd hd hf
      have m13 := prod_bd ha hh
      have m14 := prod_bd hb hg
      have m15 := prod_bd hc hf
      have m16 := prod_bd hd he
      simp only [qprod]
      have hv := implQuatValid_ev (xs := [a * e - b * f - c * g - d * h, a * f + b * e + c * h - d * g, a * g - b * h + c * e + d * f, a * h + b * g - c * f + d * e])
        (by intro x hx; simp only [List.mem_cons, List.not_mem_nil, or_false] at hx; unfold I64; rcases hx with rfl | rfl | rfl | rfl <;> omega) (by simp)
      apply Ev.step
      · intro k
        simp only [impl_QuatMul.j0, Bool.false_eq_true, if_false, len4, (rd4 _ _ _ _).1, (rd4 _ _ _ _).2.1, (rd4 _ _ _ _).2.2.1, (rd4 _ _ _ _).2.2.2, Int.reduceLT, if_true, Option.bind_some]
        rw [w64 (x := a * e) (by omega) (by omega), w64 (x := b * f) (by omega) (by omega), w64 (x := c * g) (by omega) (by omega), w64 (x := d * h) (by omega) (by omega),
          w64 (x := a * f) (by omega) (by omega), w64 (x := b * e) (by omega) (by omega), w64 (x := c * h) (by omega) (by omega), w64 (x := d * g) (by omega) (by omega),
          w64 (x := a * g) (by omega) (by omega), w64 (x := b * h) (by omega) (by omega), w64 (x := c * e) (by omega) (by omega), w64 (x := d * f) (by omega) (by omega),
          w64 (x := a * h) (by omega) (by omega), w64 (x := b * g) (by omega) (by omega), w64 (x := c * f) (by omega) (by omega), w64 (x := d * e) (by omega) (by omega),
          w64 (x := a * e - b * f) (by omega) (by omega), w64 (x := a * f + b * e) (by omega) (by omega), w64 (x := a * g - b * h) (by omega) (by omega), w64 (x := a * h + b * g) (by omega) (by omega),
          w64 (x := a * e - b * f - c * g) (by omega) (by omega), w64 (x := a * f + b * e + c * h) (by omega) (by omega), w64 (x := a * g - b * h + c * e) (by omega) (by omega), w64 (x := a * h + b * g - c * f) (by omega) (by omega),
          w64 (x := a * e - b * f - c * g - d * h) (by omega) (by omega), w64 (x := a * f + b * e + c * h - d * g) (by omega) (by omega), w64 (x := a * g - b * h + c * e + d * f) (by omega) (by omega), w64 (x := a * h + b * g - c * f + d * e) (by omega) (by omega)]
      · refine hv.bind ?_
        cases qv [a * e - b * f - c * g - d * h, a * f + b * e + c * h - d * g, a * g - b * h + c * e + d * f, a * h + b * g - c * f + d * e]
        · exact Ev.now _
        · exact Ev.now _
    · rw [show qmul p q = ([], false) from by simp [qmul, c2]]
      simp only [Bool.eq_false_iff.2 c2, Bool.not_false]
      exact Ev.step (f := fun _ => some ([], false)) (fun k => by simp [impl_QuatMul.j0]) (Ev.now _)
  · rw [show qmul p q = ([], false) from by simp [qmul, c1]]
    simp only [Bool.eq_false_iff.2 c1, Bool.false_eq_true, if_false]
    exact Ev.step (f := fun _ => some ([], false)) (fun k => by simp [impl_QuatMul.j0]) (Ev.now _)
theorem specQuatMul_ev {p q : List Int} (hp : ∀ x ∈ p, I64 x) (hlp : p.length ≤ 9223372036854775806) (hq : ∀ x ∈ q, I64 x) (hlq : q.length ≤ 9223372036854775806) :
    Ev (fun k => spec_QuatMul.f k p q) (qmul p q) := by
  unfold spec_QuatMul.f
  refine (specQuatValid_ev hp hlp).bind ?_
  by_cases c1 : qv p = true
  · simp only [c1, if_true]
    refine (specQuatValid_ev hq hlq).bind ?_
    by_cases c2 : qv q = true
    · have hfin : qmul p q = bif qv (qprod p q) then (qprod p q, true) else ([], false) := by
        unfold qmul
        cases hr : qv (qprod p q) <;> simp [c1, c2]
      rw [hfin]
      clear hfin
      simp only [c2, Bool.not_true]
      obtain ⟨a, b, c, d, rfl, ha, hb, hc, hd⟩ := qv_four c1
      obtain ⟨e, f, g, h, rfl, he, hf, hg, hh⟩ := qv_four c2
      have m1 := prod_bd ha he
      have m2 := prod_bd hb hf
      have m3 := prod_bd hc hg
      have m4 := prod_bd hd hh
      have m5 := prod_bd ha hf
      have m6 := prod_bd hb he
      have m7 := prod_bd hc hh
      have m8 := prod_bd hd hg
      have m9 := prod_bd ha hg
      have m10 := prod_bd hb hh
      have m11 := prod_bd hc he
      have m12 := prod_bd hd hf
      have m13 := prod_bd ha hh
      have m14 := prod_bd hb hg
      have m15 := prod_bd hc hf
      have m16 := prod_bd hd he
      simp only [qprod]
      have hv := specQuatValid_ev (xs := [a * e - b * f - c * g - d * h, a * f + b * e + c * h - d * g, a * g - b * h + c * e + d * f, a * h + b * g - c * f + d * e])
        (by intro x hx; simp only [List.mem_cons, List.not_mem_nil, or_false] at hx; unfold I64; rcases hx with rfl | rfl | rfl | rfl <;> omega) (by simp)
      apply Ev.step
      · intro k
        simp only [spec_QuatMul.j0, Bool.false_eq_true, if_false, len4, (rd4 _ _ _ _).1, (rd4 _ _ _ _).2.1, (rd4 _ _ _ _).2.2.1, (rd4 _ _ _ _).2.2.2, Int.reduceLT, if_true, Option.bind_some]
        rw [w64 (x := a * e) (by omega) (by omega), w64 (x := b * f) (by omega) (by omega), w64 (x := c * g) (by omega) (by omega), w64 (x := d * h) (by omega) (by omega),
          w64 (x := a * f) (by omega) (by omega), w64 (x := b * e) (by omega) (by omega), w64 (x := c * h) (by omega) (by omega), w64 (x := d * g) (by omega) (by omega),
          w64 (x := a * g) (by omega) (by omega), w64 (x := b * h) (by omega) (by omega), w64 (x := c * e) (by omega) (by omega), w64 (x := d * f) (by omega) (by omega),
          w64 (x := a * h) (by omega) (by omega), w64 (x := b * g) (by omega) (by omega), w64 (x := c * f) (by omega) (by omega), w64 (x := d * e) (by omega) (by omega),
          w64 (x := a * e - b * f) (by omega) (by omega), w64 (x := a * f + b * e) (by omega) (by omega), w64 (x := a * g - b * h) (by omega) (by omega), w64 (x := a * h + b * g) (by omega) (by omega),
          w64 (x := a * e - b * f - c * g) (by omega) (by omega), w64 (x := a * f + b * e + c * h) (by omega) (by omega), w64 (x := a * g - b * h + c * e) (by omega) (by omega), w64 (x := a * h + b * g - c * f) (by omega) (by omega),
          w64 (x := a * e - b * f - c * g - d * h) (by omega) (by omega), w64 (x := a * f + b * e + c * h - d * g) (by omega) (by omega), w64 (x := a * g - b * h + c * e + d * f) (by omega) (by omega), w64 (x := a * h + b * g - c * f + d * e) (by omega) (by omega)]
      · refine hv.bind ?_
        cases qv [a * e - b * f - c * g - d * h, a * f + b * e + c * h - d * g, a * g - b * h + c * e + d * f, a * h + b * g - c * f + d * e]
        · exact Ev.now _
        · exact Ev.now _
    · rw [show qmul p q = ([], false) from by simp [qmul, c2]]
      simp only [Bool.eq_false_iff.2 c2, Bool.not_false]
      exact Ev.step (f := fun _ => some ([], false)) (fun k => by simp [spec_QuatMul.j0]) (Ev.now _)
  · rw [show qmul p q = ([], false) from by simp [qmul, c1]]
    simp only [Bool.eq_false_iff.2 c1, Bool.false_eq_true, if_false]
    exact Ev.step (f := fun _ => some ([], false)) (fun k => by simp [spec_QuatMul.j0]) (Ev.now _)
theorem specQuatConj_ev {q : List Int} (hq : ∀ x ∈ q, I64 x) (hlq : q.length ≤ 9223372036854775806) : Ev (fun k => spec_QuatConj.f k q) (if qv q = true then (qconj q, true) else ([], false)) := by
  unfold spec_QuatConj.f
  refine (specQuatValid_ev hq hlq).bind ?_
  by_cases cv : qv q = true
  · simp only [if_pos cv]
    obtain ⟨a, b, c, d, rfl, ha, hb, hc, hd⟩ := qv_four cv
    rw [qIn_iff] at ha hb hc hd
    simp only [len4, (rd4 _ _ _ _).1, (rd4 _ _ _ _).2.1, (rd4 _ _ _ _).2.2.1, (rd4 _ _ _ _).2.2.2, Int.reduceLT, if_true, qconj]
    rw [w64 (x := -b) (by omega) (by omega), w64 (x := -c) (by omega) (by omega), w64 (x := -d) (by omega) (by omega)]
    exact Ev.now _
  · simp only [if_neg cv]; exact Ev.now _


def vok (v : List Int) : Bool := v.all (fun x => decide (-100 ≤ x) && decide (x ≤ 100)) && ((v.length : Int) == 3)
theorem vok_three {v : List Int} (h : vok v = true) : ∃ a b c, v = [a, b, c] ∧ (-100 ≤ a ∧ a ≤ 100) ∧ (-100 ≤ b ∧ b ≤ 100) ∧ (-100 ≤ c ∧ c ≤ 100) := by
  simp only [vok, Bool.and_eq_true, List.all_eq_true, beq_iff_eq, decide_eq_true_eq] at h
  match v, h with
  | [a, b, c], h => exact ⟨a, b, c, rfl, h.1 a (by simp), h.1 b (by simp), h.1 c (by simp)⟩
  | [], h => simp at h
  | [_], h => simp at h
  | [_, _], h => simp at h
  | _ :: _ :: _ :: _ :: _, h => exfalso; have := h.2; simp at this; omega
def qturn (q v : List Int) : List Int × Bool :=
  if vok v = true ∧ qv q = true then
    (if (qmul q (0 :: v)).2 = true then
      (if (qmul (qmul q (0 :: v)).1 (qconj q)).2 = true then ((qmul (qmul q (0 :: v)).1 (qconj q)).1.drop 1, true) else ([], false)) else ([], false)) else ([], false)
theorem qmul_cases (p q : List Int) : qmul p q = ([], false) ∨ (qv p = true ∧ qv q = true ∧ qmul p q = (qprod p q, true) ∧ qv (qprod p q) = true) := by
  unfold qmul; split
  · rename_i h; exact Or.inr ⟨h.1, h.2.1, rfl, h.2.2⟩
  · exact Or.inl rfl
theorem qv_i64 {l : List Int} (h : qv l = true) : (∀ x ∈ l, I64 x) ∧ l.length = 4 := by
  obtain ⟨a, b, c, d, rfl, ha, hb, hc, hd⟩ := qv_four h
  rw [qIn_iff] at ha hb hc hd
  refine ⟨?_, rfl⟩
  intro x hx; simp only [List.mem_cons, List.not_mem_nil, or_false] at hx; unfold I64; rcases hx with rfl | rfl | rfl | rfl <;> omega
theorem qmul_i64 (p q : List Int) : (∀ x ∈ (qmul p q).1, I64 x) ∧ (qmul p q).1.length ≤ 9223372036854775806 := by
  rcases qmul_cases p q with h | ⟨_, _, h, hv⟩
  · rw [h]; simp
  · rw [h]; have := qv_i64 hv; exact ⟨this.1, by simp only; omega⟩
theorem qconj_qv {q : List Int} (h : qv q = true) : qv (qconj q) = true := by
  obtain ⟨a, b, c, d, rfl, ha, hb, hc, hd⟩ := qv_four h
  rw [qIn_iff] at ha hb hc hd
  simp only [qconj, qv_of, qIn, Bool.and_eq_true, decide_eq_true_eq]; omega
theorem qturn_len (q v : List Int) : (qturn q v).1.length ≤ 3 := by
  unfold qturn
  split
  · split
    · split
      · rcases qmul_cases (qmul q (0 :: v)).1 (qconj q) with h | ⟨_, _, h, hv⟩
        · rw [h]; simp
        · rw [h]; have := (qv_i64 hv).2; simp only [List.length_drop]; omega
      · simp
    · simp
  · simp
theorem implVectorOk_l (f v : List Int) (hl : v.length ≤ 9223372036854775806) (hf : (f.length : Int) = 3) : ∀ (d j : Nat), j + d = v.length →
    Ev (fun k => impl_vectorOk.l0 k f v 100 v (v.length : Int) j) ((v.drop j).all (fun x => decide (-100 ≤ x) && decide (x ≤ 100)) && ((v.length : Int) == 3)) := by
  intro d
  induction d with
  | zero =>
    intro j hj
    rw [List.drop_of_length_le (by omega)]
    refine Ev.step (f := fun _ => some ((v.length : Int) == (f.length : Int))) (fun k => ?_) (by rw [hf]; simpa using Ev.now _)
    simp only [impl_vectorOk.l0]
    rw [if_neg (by omega)]
  | succ d ih =>
    intro j hj
    rw [rd_drop (show j < v.length by omega)]
    have := ih (j + 1) (by omega)
    generalize hp : rd v (j : Int) = p
    rw [List.all_cons]
    by_cases c1 : p < -100
    · rw [decide_eq_false (by omega : ¬ -100 ≤ p), Bool.false_and, Bool.false_and, Bool.false_and]
      refine Ev.step (f := fun _ => some false) (fun k => ?_) (Ev.now _)
      simp only [impl_vectorOk.l0]
      rw [if_pos (by omega), if_pos (by omega), if_pos (by omega), hp, w64 (x := -100) (by omega) (by omega), if_pos c1]
    · by_cases c2 : p > 100
      · rw [decide_eq_false (by omega : ¬ p ≤ 100), Bool.and_false, Bool.false_and, Bool.false_and]
        refine Ev.step (f := fun _ => some false) (fun k => ?_) (Ev.now _)
        simp only [impl_vectorOk.l0]
        rw [if_pos (by omega), if_pos (by omega), if_pos (by omega), hp, w64 (x := -100) (by omega) (by omega), if_neg c1, if_pos c2]
      · rw [decide_eq_true (by omega : -100 ≤ p), decide_eq_true (by omega : p ≤ 100), Bool.true_and, Bool.true_and]
        refine Ev.step (fun k => ?_) this
        simp only [impl_vectorOk.l0]
        rw [if_pos (by omega), if_pos (by omega), if_pos (by omega), hp, w64 (x := -100) (by omega) (by omega), if_neg c1, if_neg c2, w64 (x := (j : Int) + 1) (by omega) (by omega)]
        rfl
theorem implVectorOk_ev {v : List Int} (hl : v.length ≤ 9223372036854775806) : Ev (fun k => impl_vectorOk.f k (List.replicate 3 0) v 100) (vok v) :=
  implVectorOk_l (List.replicate 3 0) v hl rfl v.length 0 (by omega)
theorem implQuatTurn_ev {q v : List Int} (hq : ∀ x ∈ q, I64 x) (hlq : q.length ≤ 9223372036854775806) (hv : ∀ x ∈ v, I64 x) (hlv : v.length ≤ 9223372036854775806) :
    Ev (fun k => impl_QuatTurn.f k q v) (qturn q v) := by
  unfold impl_QuatTurn.f
  refine (implQuatValid_ev hq hlq).bind ?_
  by_cases c1 : qv q = true
  · simp only [c1, if_true, show (3 : Int) ≤ 35184372088832 from by omega]
    refine (implVectorOk_ev hlv).bind ?_
    by_cases c2 : vok v = true
    · rw [show qturn q v = (if (qmul q (0 :: v)).2 = true then
      (if (qmul (qmul q (0 :: v)).1 (qconj q)).2 = true then ((qmul (qmul q (0 :: v)).1 (qconj q)).1.drop 1, true) else ([], false)) else ([], false)) from by unfold qturn; rw [if_pos ⟨c2, c1⟩]]
      simp only [c2, Bool.not_true]
      obtain ⟨x, y, z, rfl, hx, hy, hz⟩ := vok_three c2
      have h1 := implQuatMul_ev (p := q) (q := [0, x, y, z]) hq hlq (by intro u hu; simp only [List.mem_cons, List.not_mem_nil, or_false] at hu; unfold I64; rcases hu with rfl | rfl | rfl | rfl <;> omega) (by simp)
      have hc := qv_i64 (qconj_qv c1)
      have h2 := implQuatMul_ev (p := (qmul q [0, x, y, z]).1) (q := qconj q) (qmul_i64 _ _).1 (qmul_i64 _ _).2 hc.1 (by omega)
      have hc1 := qmul_cases (qmul q [0, x, y, z]).1 (qconj q)
      generalize qmul q [0, x, y, z] = r1 at h1 h2 hc1
      generalize hr2 : qmul r1.1 (qconj q) = r2 at h2 hc1
      obtain ⟨a, b, c, d, rfl, ha, hb, hcc, hd⟩ := qv_four c1
      rw [qIn_iff] at ha hb hcc hd
      apply Ev.step
      · intro k
        simp only [impl_QuatTurn.j0, Bool.false_eq_true, if_false, len4, show ((List.length [x, y, z] : Nat) : Int) = 3 from rfl, show rd [x, y, z] 0 = x from rfl, show rd [x, y, z] 1 = y from rfl, show rd [x, y, z] 2 = z from rfl,
          (rd4 _ _ _ _).1, (rd4 _ _ _ _).2.1, (rd4 _ _ _ _).2.2.1, (rd4 _ _ _ _).2.2.2, Int.reduceLT, if_true,
          w64 (x := -b) (by omega) (by omega), w64 (x := -c) (by omega) (by omega), w64 (x := -d) (by omega) (by omega)]
        exact rfl
      · refine h1.bind ?_
        by_cases e1 : r1.2 = true
        · simp only [e1, if_true]
          refine h2.bind ?_
          by_cases e2 : r2.2 = true
          · simp only [e2, if_true]
            rcases hc1 with h | ⟨_, _, h, hv⟩
            · rw [h] at e2; simp at e2
            · have hl4 : r2.1.length = 4 := by rw [h]; exact (qv_i64 hv).2
              simp only [show (1 : Int) ≤ (r2.1.length : Int) from by omega, if_true, slices_Clone_int_int.f, show (List.drop 1 r2.1).length ≤ 17592186044416 from by rw [List.length_drop]; omega, Option.bind_some]
              exact Ev.now _
          · simp only [e2, Bool.false_eq_true, if_false]; exact Ev.now _
        · simp only [e1, Bool.false_eq_true, if_false]; exact Ev.now _
    · rw [show qturn q v = ([], false) from by simp [qturn, c2]]
      simp only [Bool.eq_false_iff.2 c2, Bool.not_false]
      exact Ev.step (f := fun _ => some ([], false)) (fun k => by simp [impl_QuatTurn.j0]) (Ev.now _)
  · rw [show qturn q v = ([], false) from by simp [qturn, c1]]
    simp only [Bool.eq_false_iff.2 c1, Bool.false_eq_true, if_false]
    exact Ev.step (f := fun _ => some ([], false)) (fun k => by simp [impl_QuatTurn.j0]) (Ev.now _)
theorem specL6In_eq (x a b : Int) : spec_l6In.f x a b = some (decide (a ≤ x) && decide (x ≤ b)) := by
  unfold spec_l6In.f
  by_cases c : x ≥ a
  · simp [c, show a ≤ x from c]
  · simp [c, show ¬ a ≤ x from c]
theorem specQuatTurn_ev {q v : List Int} (hq : ∀ x ∈ q, I64 x) (hlq : q.length ≤ 9223372036854775806) (hv : ∀ x ∈ v, I64 x) (hlv : v.length ≤ 9223372036854775806) :
    Ev (fun k => spec_QuatTurn.f k q v) (qturn q v) := by
  have bad : vok v = false → qturn q v = ([], false) := fun h => by simp [qturn, h]
  have out : Ev (fun k => spec_QuatTurn.j0 k q v true) ([], false) := Ev.step (f := fun _ => some ([], false)) (fun k => by simp [spec_QuatTurn.j0]) (Ev.now _)
  unfold spec_QuatTurn.f
  simp only [specL6In_eq, Option.bind_some]
  by_cases c0 : (v.length : Int) = 3
  · obtain ⟨x, y, z, rfl⟩ : ∃ x y z, v = [x, y, z] := by
      match v, c0 with
      | [x, y, z], _ => exact ⟨x, y, z, rfl⟩
      | [], h => simp at h
      | [_], h => simp at h
      | [_, _], h => simp at h
      | _ :: _ :: _ :: _ :: _, h => exfalso; simp at h; omega
    simp only [show ((List.length [x, y, z] : Nat) : Int) = 3 from rfl, show rd [x, y, z] 0 = x from rfl, show rd [x, y, z] 1 = y from rfl, show rd [x, y, z] 2 = z from rfl, if_true, Int.reduceLT]
    have hvok : vok [x, y, z] = ((decide (-100 ≤ x) && decide (x ≤ 100)) && ((decide (-100 ≤ y) && decide (y ≤ 100)) && (decide (-100 ≤ z) && decide (z ≤ 100)))) := by simp [vok]
    by_cases e1 : (decide (-100 ≤ x) && decide (x ≤ 100)) = true
    · simp only [e1, if_true]
      by_cases e2 : (decide (-100 ≤ y) && decide (y ≤ 100)) = true
      · simp only [e2, if_true]
        by_cases e3 : (decide (-100 ≤ z) && decide (z ≤ 100)) = true
        · simp only [e3, Bool.not_true]
          have c2 : vok [x, y, z] = true := by rw [hvok, e1, e2, e3]; rfl
          simp only [Bool.and_eq_true, decide_eq_true_eq] at e1 e2 e3
          have h1 := specQuatMul_ev (p := q) (q := [0, x, y, z]) hq hlq (by intro u hu; simp only [List.mem_cons, List.not_mem_nil, or_false] at hu; unfold I64; rcases hu with rfl | rfl | rfl | rfl <;> omega) (by simp)
          have h2 := specQuatConj_ev hq hlq
          apply Ev.step
          · intro k
            simp only [spec_QuatTurn.j0, Bool.false_eq_true, if_false, show ((List.length [x, y, z] : Nat) : Int) = 3 from rfl, show rd [x, y, z] 0 = x from rfl, show rd [x, y, z] 1 = y from rfl, show rd [x, y, z] 2 = z from rfl, if_true, Int.reduceLT]
            exact rfl
          · refine h1.bind (h2.bind ?_)
            by_cases c1 : qv q = true
            · have hc := qv_i64 (qconj_qv c1)
              have h3 := specQuatMul_ev (p := (qmul q [0, x, y, z]).1) (q := qconj q) (qmul_i64 _ _).1 (qmul_i64 _ _).2 hc.1 (by omega)
              have hc1 := qmul_cases (qmul q [0, x, y, z]).1 (qconj q)
              rw [show qturn q [x, y, z] = (if (qmul q (0 :: [x, y, z])).2 = true then
      (if (qmul (qmul q (0 :: [x, y, z])).1 (qconj q)).2 = true then ((qmul (qmul q (0 :: [x, y, z])).1 (qconj q)).1.drop 1, true) else ([], false)) else ([], false)) from by unfold qturn; rw [if_pos ⟨c2, c1⟩]]
              generalize qmul q [0, x, y, z] = r1 at h3 hc1
              generalize hr2 : qmul r1.1 (qconj q) = r2 at h3 hc1
              simp only [if_pos c1]
              refine h3.bind ?_
              by_cases e4 : r1.2 = true
              · simp only [e4, if_true]
                by_cases e5 : r2.2 = true
                · simp only [e5, if_true]
                  rcases hc1 with h | ⟨_, _, h, hv⟩
                  · rw [h] at e5; simp at e5
                  · have hl4 : r2.1.length = 4 := by rw [h]; exact (qv_i64 hv).2
                    simp only [show (1 : Int) ≤ (r2.1.length : Int) from by omega, if_true]
                    exact Ev.now _
                · simp only [e5, Bool.false_eq_true, if_false]; exact Ev.now _
              · simp only [e4, Bool.false_eq_true, if_false]; exact Ev.now _
            · have hm : qmul q [0, x, y, z] = ([], false) := by simp [qmul, c1]
              rw [show qturn q [x, y, z] = ([], false) from by simp [qturn, c1]]
              simp only [if_neg c1, hm]
              have h3 := specQuatMul_ev (p := []) (q := []) (by simp) (by simp) (by simp) (by simp)
              refine h3.bind ?_
              simp only [Bool.false_eq_true, if_false]; exact Ev.now _
        · rw [bad (by rw [hvok, Bool.eq_false_iff.2 e3]; simp)]
          simp only [Bool.eq_false_iff.2 e3, Bool.not_false]
          exact out
      · rw [bad (by rw [hvok, Bool.eq_false_iff.2 e2]; simp)]
        simp only [e2, Bool.false_eq_true, if_false]
        exact out
    · rw [bad (by rw [hvok, Bool.eq_false_iff.2 e1]; simp)]
      simp only [e1, Bool.false_eq_true, if_false]
      exact out
  · rw [bad (by simp [vok, c0])]
    simp only [if_neg c0]
    exact out


/-! ### copies, marks -/
theorem toIntS_l (l : List Int) (hl : l.length ≤ 1048576) : ∀ (rest done : List Int), l = done ++ rest →
    Ev (fun k => laws_toIntS.l0 k l (done ++ List.replicate rest.length 0) (done.length : Int)) l := by
  intro rest
  induction rest with
  | nil =>
    intro done h
    refine Ev.step (f := fun _ => some l) (fun k => ?_) (Ev.now _)
    simp only [laws_toIntS.l0]
    rw [if_neg (by rw [h]; simp)]
    simp [h]
  | cons x rest ih =>
    intro done h
    have := ih (done ++ [x]) (by rw [h]; simp)
    have hlen : done.length < l.length := by rw [h]; simp
    have hr : rd l (done.length : Int) = x := by rw [h]; exact rd_append _ _ _
    refine Ev.step (fun k => ?_) this
    simp only [laws_toIntS.l0]
    rw [if_pos (by omega), if_pos (by omega), if_pos (by simp; omega), hr, w64 (x := (done.length : Int) + 1) (by omega) (by omega)]
    rw [show (((done.length : Nat) : Int).toNat) = done.length from rfl, show (x :: rest).length = rest.length + 1 from rfl, List.replicate_succ]
    rw [List.set_append_right _ _ (Nat.le_refl _), Nat.sub_self, List.set_cons_zero]
    simp
theorem toIntS_ev {l : List Int} (hl : l.length ≤ 1048576) : Ev (fun k => laws_toIntS.f k l) l := by
  unfold laws_toIntS.f
  have := toIntS_l l hl l [] rfl
  simp only [if_pos (show 0 ≤ (l.length : Int) by omega), if_pos (show (l.length : Int).toNat ≤ 35184372088832 by omega)]
  simpa using this
theorem eqIntS_l (xs ys : List Int) (he : xs.length = ys.length) (hl : xs.length ≤ 9223372036854775806) : ∀ (d j : Nat), j + d = xs.length →
    Ev (fun k => laws_eqIntS.l0 k xs ys j) (decide (xs.drop j = ys.drop j)) := by
  intro d
  induction d with
  | zero =>
    intro j hj
    rw [List.drop_of_length_le (by omega), List.drop_of_length_le (show ys.length ≤ j by omega)]
    refine Ev.step (f := fun _ => some true) (fun k => ?_) (by simpa using Ev.now true)
    simp only [laws_eqIntS.l0]
    rw [if_neg (by omega)]
  | succ d ih =>
    intro j hj
    rw [rd_drop (show j < xs.length by omega), rd_drop (show j < ys.length by omega)]
    have := ih (j + 1) (by omega)
    by_cases c : rd xs (j : Int) = rd ys (j : Int)
    · rw [c]
      simp only [List.cons.injEq, true_and]
      refine Ev.step (fun k => ?_) this
      simp only [laws_eqIntS.l0]
      rw [if_pos (by omega), if_pos (by omega), if_pos (by omega), if_pos c, w64 (x := (j : Int) + 1) (by omega) (by omega)]
      rfl
    · rw [decide_eq_false (fun h => c (List.cons.inj h).1)]
      refine Ev.step (f := fun _ => some false) (fun k => ?_) (Ev.now _)
      simp only [laws_eqIntS.l0]
      rw [if_pos (by omega), if_pos (by omega), if_pos (by omega), if_neg c]
theorem eqIntS_ev {xs ys : List Int} (hl : xs.length ≤ 9223372036854775806) : Ev (fun k => laws_eqIntS.f k xs ys) (decide (xs = ys)) := by
  unfold laws_eqIntS.f
  by_cases c : xs.length = ys.length
  · simp only [if_pos (show (xs.length : Int) = (ys.length : Int) by omega)]
    simpa using eqIntS_l xs ys c hl xs.length 0 (by omega)
  · simp only [if_neg (show ¬ (xs.length : Int) = (ys.length : Int) by omega), decide_eq_false (fun h : xs = ys => c (by rw [h]))]
    exact Ev.now _
theorem eqIntS_same {xs : List Int} (hl : xs.length ≤ 9223372036854775806) : Ev (fun k => laws_eqIntS.f k xs xs) true := by simpa using eqIntS_ev (ys := xs) hl
theorem markIntS_l : ∀ (rest done : List Int) (m : Int), 0 ≤ m → m + rest.length ≤ 4000000 → done.length + rest.length ≤ 1048576 →
    Ev (fun k => laws_markIntS.l0 k (done ++ rest) m (done.length : Int)) (m + rest.length, done ++ marks rest.length m) := by
  intro rest
  induction rest with
  | nil =>
    intro done m hm hM hl
    refine Ev.step (f := fun _ => some _) (fun k => ?_) (Ev.now _)
    simp only [laws_markIntS.l0]
    rw [if_neg (by simp)]
    simp [marks]
  | cons x rest ih =>
    intro done m hm hM hl
    have hlen : (x :: rest).length = rest.length + 1 := rfl
    have := ih (done ++ [m]) (m + 1) (by omega) (by omega) (by simp; omega)
    simp only [List.append_assoc, List.singleton_append] at this
    rw [show m + ((x :: rest).length : Int) = m + 1 + (rest.length : Int) from by rw [hlen]; omega, hlen, marks]
    refine Ev.step (fun k => ?_) this
    simp only [laws_markIntS.l0]
    rw [if_pos (by simp; omega), if_pos (by omega), w64 (x := (done.length : Int) + 1) (by omega) (by omega), w64 (x := m + 1) (by omega) (by omega)]
    rw [show (((done.length : Nat) : Int).toNat) = done.length from rfl, List.set_append_right _ _ (Nat.le_refl _), Nat.sub_self, List.set_cons_zero]
    simp
theorem markIntS_ev {l : List Int} {m : Int} (hm : 0 ≤ m) (hM : m ≤ 2000000) (hl : l.length ≤ 1048576) : Ev (fun k => laws_markIntS.f k l m) (m + l.length, marks l.length m) :=
  markIntS_l l [] m hm (by omega) (by simpa using hl)
theorem heldIntS_l : ∀ (d : Nat) (done : List Int) (m : Int), 0 ≤ m → m + d ≤ 4000000 → done.length + d ≤ 1048576 →
    Ev (fun k => laws_heldIntS.l0 k (done ++ marks d m) m (done.length : Int)) (m + d) := by
  intro d
  induction d with
  | zero =>
    intro done m hm hM hl
    refine Ev.step (f := fun _ => some m) (fun k => ?_) (by simpa using Ev.now m)
    simp only [laws_heldIntS.l0]
    rw [if_neg (by simp [marks])]
  | succ d ih =>
    intro done m hm hM hl
    have := ih (done ++ [m]) (m + 1) (by omega) (by omega) (by simp; omega)
    simp only [List.append_assoc, List.singleton_append] at this
    rw [show m + ((d + 1 : Nat) : Int) = m + 1 + (d : Int) from by omega, marks]
    refine Ev.step (fun k => ?_) this
    simp only [laws_heldIntS.l0]
    rw [if_pos (by simp; omega), if_pos (by omega), if_pos (rd_append _ _ _), w64 (x := (done.length : Int) + 1) (by omega) (by omega), w64 (x := m + 1) (by omega) (by omega)]
    simp
theorem heldIntS_ev {d : Nat} {m : Int} (hm : 0 ≤ m) (hM : m ≤ 2000000) (hl : d ≤ 1048576) : Ev (fun k => laws_heldIntS.f k (marks d m) m) (m + d) :=
  heldIntS_l d [] m hm (by omega) (by simpa using hl)


theorem i64_wf {l : List Int} (h : ∀ x ∈ l, (Lit.int .i64 x).wf = true) : ∀ x ∈ l, I64 x := fun x hx => by
  have := h x hx
  simp only [Lit.wf, Bool.and_eq_true, decide_eq_true_eq] at this
  have e1 : IntKind.i64.min = -9223372036854775808 := by decide
  have e2 : IntKind.i64.max = 9223372036854775807 := by decide
  unfold I64; omega
theorem holds : laws_FnExactQuatTurn.Pure := by
  intro p q _ _ hp _ _ hq
  refine Ev.rounds ?_
  unfold laws_FnExactQuatTurn.f
  by_cases b1 : (p.length : Int) > 1048576
  · simp only [if_pos b1]; exact Ev.now _
  simp only [if_neg b1]
  by_cases b2 : (q.length : Int) > 1048576
  · simp only [if_pos b2]; exact Ev.now _
  simp only [if_neg b2]
  have tp := toIntS_ev (l := p) (by omega)
  have tq := toIntS_ev (l := q) (by omega)
  have ms := specQuatTurn_ev (i64_wf hp) (show p.length ≤ 9223372036854775806 by omega) (i64_wf hq) (show q.length ≤ 9223372036854775806 by omega)
  have mi := implQuatTurn_ev (i64_wf hp) (show p.length ≤ 9223372036854775806 by omega) (i64_wf hq) (show q.length ≤ 9223372036854775806 by omega)
  have hl := qturn_len p q
  generalize qturn p q = r at ms mi hl
  obtain ⟨r1, r2⟩ := r
  simp only at hl
  refine tp.bind (tq.bind (ms.bind (tp.bind (tq.bind (mi.bind ((eqIntS_same (xs := r1) (by omega)).bind ?_))))))
  simp only [if_true, bne_self_eq_false]
  have mk := markIntS_ev (l := r1) (m := 1) (by omega) (by omega) (by omega)
  have hk := heldIntS_ev (d := r1.length) (m := 1) (by omega) (by omega) (by omega)
  apply Ev.step
  · intro k
    simp only [laws_FnExactQuatTurn.j0, Bool.false_eq_true, if_false]
    exact rfl
  · refine tp.bind ((eqIntS_same (xs := p) (by omega)).bind ?_)
    simp only [if_true]
    refine tq.bind ((eqIntS_same (xs := q) (by omega)).bind ?_)
    simp only [if_true]
    refine (markIntS_ev (l := p) (m := 1) (by omega) (by omega) (by omega)).bind ?_
    refine (markIntS_ev (l := q) (m := 1 + (p.length : Int)) (by omega) (by omega) (by omega)).bind ?_
    simp only [if_neg (show ¬ (1 + (p.length : Int) + (q.length : Int)) < 0 by omega)]
    refine (eqIntS_same (xs := r1) (by omega)).bind ?_
    simp only [if_true, bne_self_eq_false]
    apply Ev.step
    · intro k
      simp only [laws_FnExactQuatTurn.j1, Bool.false_eq_true, if_false]
      exact rfl
    · refine mk.bind (hk.bind ?_)
      simp only [if_neg (show ¬ (1 + (r1.length : Int)) < 0 by omega), if_true]
      refine tp.bind (tq.bind (mi.bind ((eqIntS_same (xs := r1) (by omega)).bind ?_)))
      simp only [if_true, bne_self_eq_false]
      apply Ev.step
      · intro k
        simp only [laws_FnExactQuatTurn.j2, Bool.false_eq_true, if_false]
        exact rfl
      · refine hk.bind ?_
        simp only [if_neg (show ¬ (1 + (r1.length : Int)) < 0 by omega), if_true]
        exact Ev.now _

end Go.Proofs.Ytfhehcgefbknbaa.QFnExactQuatTurn
