/- Quaternions. -/
import Derived.Test.YtfhehcgefbknbaaPFnExactQuatMulx4
import Derived.Test.YtfhehcgefbknbaaQuat
import Derived.Test.YtfhehcgefbknbaaPrm
set_option linter.unusedVariables false
set_option linter.unusedSimpArgs false
namespace Go.Proofs.Ytfhehcgefbknbaa.QFnExactQuatMul
open Go.RowKit Go.Proofs.Ytfhehcgefbknbaa.PFnExactQuatMul Go.Proofs.YtfhehcgefbknbaaW.PrintWords Go.Proofs.YtfhehcgefbknbaaW.PrintLast Go.Proofs.YtfhehcgefbknbaaW.PrintMore Locg

/-! ### quaternions -/
theorem implQuatValid_l (xs : List Int) (hx : ∀ x ∈ xs, I64 x) (hl : xs.length ≤ 9223372036854775806) : ∀ (d j : Nat), j + d = xs.length →
    Ev (fun k => impl_QuatValid.l0 k xs xs (xs.length : Int) j) ((xs.drop j).all qIn && ((xs.length : Int) == 4)) := by
  intro d
  induction d with
  | zero =>
    intro j hj
    rw [List.drop_of_length_le (by omega)]
    refine Ev.step (f := fun _ => some ((xs.length : Int) == 4)) (fun k => ?_) (by simpa using Ev.now _)
    simp only [impl_QuatValid.l0]
    rw [if_neg (by omega)]
  | succ d ih =>
    intro j hj
    have hm := hx _ (rd_mem (xs := xs) (j := j) (by omega))
    rw [rd_drop (show j < xs.length by omega)]
    have := ih (j + 1) (by omega)
    generalize hp : rd xs (j : Int) = p at hm
    unfold I64 at hm
    by_cases c : qIn p = true
    · have hq := qIn_iff.1 c
      rw [List.all_cons, c, Bool.true_and]
      refine Ev.step (fun k => ?_) this
      simp only [impl_QuatValid.l0, impl_size.f, Option.bind_some]
      rw [if_pos (by omega), if_pos (by omega), if_pos (by omega), hp, w64 (x := -p) (by omega) (by omega), if_neg (by unfold mx; split <;> omega), if_neg (by omega), w64 (x := (j : Int) + 1) (by omega) (by omega)]
      rfl
    · have hq : ¬ (-10000 ≤ p ∧ p ≤ 10000) := fun h => c (qIn_iff.2 h)
      rw [List.all_cons, Bool.eq_false_iff.2 c, Bool.false_and, Bool.false_and]
      refine Ev.step (f := fun _ => some false) (fun k => ?_) (Ev.now _)
      simp only [impl_QuatValid.l0, impl_size.f, Option.bind_some]
      rw [if_pos (by omega), if_pos (by omega), if_pos (by omega), hp]
      by_cases c1 : mx p (wrap64 (-p)) > 10000
      · rw [if_pos c1]
      · rw [if_neg c1, if_pos (by unfold mx at c1; split at c1 <;> omega)]
theorem implQuatValid_ev {xs : List Int} (hx : ∀ x ∈ xs, I64 x) (hl : xs.length ≤ 9223372036854775806) : Ev (fun k => impl_QuatValid.f k xs) (qv xs) :=
  implQuatValid_l xs hx hl xs.length 0 (by omega)
theorem specQuatValid_l (xs : List Int) (hx : ∀ x ∈ xs, I64 x) (hl : xs.length ≤ 9223372036854775806) : ∀ (d j : Nat), j + d = xs.length →
    Ev (fun k => spec_QuatValid.l0 k xs j) ((xs.drop j).all qIn && ((xs.length : Int) == 4)) := by
  intro d
  induction d with
  | zero =>
    intro j hj
    rw [List.drop_of_length_le (by omega)]
    refine Ev.step (f := fun _ => some ((xs.length : Int) == 4)) (fun k => ?_) (by simpa using Ev.now _)
    simp only [spec_QuatValid.l0]
    rw [if_neg (by omega)]
  | succ d ih =>
    intro j hj
    rw [rd_drop (show j < xs.length by omega)]
    have := ih (j + 1) (by omega)
    generalize hp : rd xs (j : Int) = p
    by_cases c : qIn p = true
    · have hq := qIn_iff.1 c
      rw [List.all_cons, c, Bool.true_and]
      refine Ev.step (fun k => ?_) this
      simp only [spec_QuatValid.l0, spec_l6In.f]
      rw [if_pos (by omega), if_pos (by omega), hp, if_pos hq.1, decide_eq_true hq.2]
      simp only [Option.bind_some, if_true]
      rw [w64 (x := (j : Int) + 1) (by omega) (by omega)]
      rfl
    · have hq : ¬ (-10000 ≤ p ∧ p ≤ 10000) := fun h => c (qIn_iff.2 h)
      rw [List.all_cons, Bool.eq_false_iff.2 c, Bool.false_and, Bool.false_and]
      refine Ev.step (f := fun _ => some false) (fun k => ?_) (Ev.now _)
      simp only [spec_QuatValid.l0, spec_l6In.f]
      rw [if_pos (by omega), if_pos (by omega), hp]
      by_cases c1 : p ≥ -10000
      · rw [if_pos c1, decide_eq_false (by omega)]; simp
      · rw [if_neg c1]; simp
theorem specQuatValid_ev {xs : List Int} (hx : ∀ x ∈ xs, I64 x) (hl : xs.length ≤ 9223372036854775806) : Ev (fun k => spec_QuatValid.f k xs) (qv xs) :=
  specQuatValid_l xs hx hl xs.length 0 (by omega)
theorem rd4 (a b c d : Int) : rd [a, b, c, d] 0 = a ∧ rd [a, b, c, d] 1 = b ∧ rd [a, b, c, d] 2 = c ∧ rd [a, b, c, d] 3 = d := ⟨rfl, rfl, rfl, rfl⟩
theorem len4 (a b c d : Int) : ((List.length [a, b, c, d] : Nat) : Int) = 4 := rfl
theorem implQuatMul_ev {p q : List Int} (hp : ∀ x ∈ p, I64 x) (hlp : p.length ≤ 9223372036854775806) (hq : ∀ x ∈ q, I64 x) (hlq : q.length ≤ 9223372036854775806) :
    Ev (fun k => impl_QuatMul.f k p q) (qmul p q) := by
  unfold impl_QuatMul.f
  refine (implQuatValid_ev hp hlp).bind ?_
  by_cases c1 : qv p = true
  · simp only [c1, if_true]
    refine (implQuatValid_ev hq hlq).bind ?_
    by_cases c2 : qv q = true
    · have hfin : qmul p q = bif qv (qprod p q) then (qprod p q, true) else ([], false) := by
        unfold qmul
        cases hr : qv (qprod p q) <;> simp [c1, c2]
      rw [hfin]
      clear hfin
      simp only [c2, Bool.not_true]
      obtain ⟨a, b, c, d, rfl, ha, hb, hc, hd⟩ := qv_four c1
      obtain ⟨e, f, g, h, rfl, he, hf, hg, hh⟩ := qv_four c2
      have m1 := prod_bd ha he
      have m2 := prod_bd hb hf
      have m3 := prod_bd hc hg
      have m4 := prod_bd hd hh
      have m5 := prod_bd ha hf
      have m6 := prod_bd hb he
      have m7 := prod_bd hc hh
      have m8 := prod_bd hd hg
      have m9 := prod_bd ha hg
      have m10 := prod_bd hb hh
      have m11 := prod_bd hc he
      have m12 := prod_bd hd hf
      have m13 := prod_bd ha hh
      have m14 := prod_bd hb hg
      have m15 := prod_bd hc hf
      have m16 := prod_bd hd he
      simp only [qprod]
      have hv := implQuatValid_ev (xs := [a * e - b * f - c * g - d * h, a * f + b * e + c * h - d * g, a * g - b * h + c * e + d * f, a * h + b * g - c * f + d * e])
        (by intro x hx; simp only [List.mem_cons, List.not_mem_nil, or_false] at hx; unfold I64; rcases hx with rfl | rfl | rfl | rfl <;> omega) (by simp)
      apply Ev.step
      · intro k
        simp only [impl_QuatMul.j0, Bool.false_eq_true, if_false, len4, (rd4 _ _ _ _).1, (rd4 _ _ _ _).2.1, (rd4 _ _ _ _).2.2.1, (rd4 _ _ _ _).2.2.2, Int.reduceLT, if_true, Option.bind_some]
        rw [w64 (x := a * e) (by omega) (by omega), w64 (x := b * f) (by omega) (by omega), w64 (x := c * g) (by omega) (by omega), w64 (x := d * h) (by omega) (by omega),
          w64 (x := a * f) (by omega) (by omega), w64 (x := b * e) (by omega) (by omega), w64 (x := c * h) (by omega) (by omega), w64 (x := d * g) (by omega) (by omega),
          w64 (x := a * g) (by omega) (by omega), w64 (x := b * h) (by omega) (by omega), w64 (x := c * e) (by omega) (by omega), w64 (x := d * f) (by omega) (by omega),
          w64 (x := a * h) (by omega) (by omega), w64 (x := b * g) (by omega) (by omega), w64 (x := c * f) (by omega) (by omega), w64 (x := d * e) (by omega) (by omega),
          w64 (x := a * e - b * f) (by omega) (by omega), w64 (x := a * f + b * e) (by omega) (by omega), w64 (x := a * g - b * h) (by omega) (by omega), w64 (x := a * h + b * g) (by omega) (by omega),
          w64 (x := a * e - b * f - c * g) (by omega) (by omega), w64 (x := a * f + b * e + c * h) (by omega) (by omega), w64 (x := a * g - b * h + c * e) (by omega) (by omega), w64 (x := a * h + b * g - c * f) (by omega) (by omega),
          w64 (x := a * e - b * f - c * g - d * h) (by omega) (by omega), w64 (x := a * f + b * e + c * h - d * g) (by omega) (by omega), w64 (x := a * g - b * h + c * e + d * f) (by omega) (by omega), w64 (x := a * h + b * g - c * f + d * e) (by omega) (by omega)]
      · refine hv.bind ?_
        cases qv [a * e - b * f - c * g - d * h, a * f + b * e + c * h - d * g, a * g - b * h + c * e + d * f, a * h + b * g - c * f + d * e]
        · exact Ev.now _
        · exact Ev.now _
    · rw [show qmul p q = ([], false) from by simp [qmul, c2]]
      simp only [Bool.eq_false_iff.2 c2, Bool.not_false]
      exact Ev.step (f := fun _ => some ([], false)) (fun k => by simp [impl_QuatMul.j0]) (Ev.now _)
  · rw [show qmul p q = ([], false) from by simp [qmul, c1]]
    simp only [Bool.eq_false_iff.2 c1, Bool.false_eq_true, if_false]
    exact Ev.step (f := fun _ => some ([], false)) (fun k => by simp [impl_QuatMul.j0]) (Ev.now _)
theorem specQuatMul_ev {p q : List Int} (hp : ∀ x ∈ p, I64 x) (hlp : p.length ≤ 9223372036854775806) (hq : ∀ x ∈ q, I64 x) (hlq : q.length ≤ 9223372036854775806) :
    Ev (fun k => spec_QuatMul.f k p q) (qmul p q) := by
  unfold spec_QuatMul.f
  refine (specQuatValid_ev hp hlp).bind ?_
  by_cases c1 : qv p = true
  · simp only [c1, if_true]
    refine (specQuatValid_ev hq hlq).bind ?_
    by_cases c2 : qv q = true
    · have hfin : qmul p q = bif qv (qprod p q) then (qprod p q, true) else ([], false) := by
        unfold qmul
        cases hr : qv (qprod p q) <;> simp [c1, c2]
      rw [hfin]
      clear hfin
      simp only [c2, Bool.not_true]
      obtain ⟨a, b, c, d, rfl, ha, hb, hc, hd⟩ := qv_four c1
      obtain ⟨e, f, g, h, rfl, he, hf, hg, hh⟩ := qv_four c2
      have m1 := prod_bd ha he
      have m2 := prod_bd hb hf
      have m3 := prod_bd hc hg
      have m4 := prod_bd hd hh
      have m5 := prod_bd ha hf
      have m6 := prod_bd hb he
      have m7 := prod_bd hc hh
      have m8 := prod_bd hd hg
      have m9 := prod_bd ha hg
      have m10 := prod_bd hb hh
      have m11 := prod_bd hc he
      have m12 := prod_bd hd hf
      have m13 := prod_bd ha hh
      have m14 := prod_bd hb hg
      have m15 := prod_bd hc hf
      have m16 := prod_bd hd he
      simp only [qprod]
      have hv := specQuatValid_ev (xs := [a * e - b * f - c * g - d * h, a * f + b * e + c * h - d * g, a * g - b * h + c * e + d * f, a * h + b * g - c * f + d * e])
        (by intro x hx; simp only [List.mem_cons, List.not_mem_nil, or_false] at hx; unfold I64; rcases hx with rfl | rfl | rfl | rfl <;> omega) (by simp)
      apply Ev.step
      · intro k
        simp only [spec_QuatMul.j0, Bool.false_eq_true, if_false, len4, (rd4 _ _ _ _).1, (rd4 _ _ _ _).2.1, (rd4 _ _ _ _).2.2.1, (rd4 _ _ _ _).2.2.2, Int.reduceLT, if_true, Option.bind_some]
        rw [w64 (x := a * e) (by omega) (by omega), w64 (x := b * f) (by omega) (by omega), w64 (x := c * g) (by omega) (by omega), w64 (x := d * h) (by omega) (by omega),
          w64 (x := a * f) (by omega) (by omega), w64 (x := b * e) (by omega) (by omega), w64 (x := c * h) (by omega) (by omega), w64 (x := d * g) (by omega) (by omega),
          w64 (x := a * g) (by omega) (by omega), w64 (x := b * h) (by omega) (by omega), w64 (x := c * e) (by omega) (by omega), w64 (x := d * f) (by omega) (by omega),
          w64 (x := a * h) (by omega) (by omega), w64 (x := b * g) (by omega) (by omega), w64 (x := c * f) (by omega) (by omega), w64 (x := d * e) (by omega) (by omega),
          w64 (x := a * e - b * f) (by omega) (by omega), w64 (x := a * f + b * e) (by omega) (by omega), w64 (x := a * g - b * h) (by omega) (by omega), w64 (x := a * h + b * g) (by omega) (by omega),
          w64 (x := a * e - b * f - c * g) (by omega) (by omega), w64 (x := a * f + b * e + c * h) (by omega) (by omega), w64 (x := a * g - b * h + c * e) (by omega) (by omega), w64 (x := a * h + b * g - c * f) (by omega) (by omega),
          w64 (x := a * e - b * f - c * g - d * h) (by omega) (by omega), w64 (x := a * f + b * e + c * h - d * g) (by omega) (by omega), w64 (x := a * g - b * h + c * e + d * f) (by omega) (by omega), w64 (x := a * h + b * g - c * f + d * e) (by omega) (by omega)]
      · refine hv.bind ?_
        cases qv [a * e - b * f - c * g - d * h, a * f + b * e + c * h - d * g, a * g - b * h + c * e + d * f, a * h + b * g - c * f + d * e]
        · exact Ev.now _
        · exact Ev.now _
    · rw [show qmul p q = ([], false) from by simp [qmul, c2]]
      simp only [Bool.eq_false_iff.2 c2, Bool.not_false]
      exact Ev.step (f := fun _ => some ([], false)) (fun k => by simp [spec_QuatMul.j0]) (Ev.now _)
  · rw [show qmul p q = ([], false) from by simp [qmul, c1]]
    simp only [Bool.eq_false_iff.2 c1, Bool.false_eq_true, if_false]
    exact Ev.step (f := fun _ => some ([], false)) (fun k => by simp [spec_QuatMul.j0]) (Ev.now _)

/-! ### copies, marks -/
theorem toIntS_l (l : List Int) (hl : l.length ≤ 1048576) : ∀ (rest done : List Int), l = done ++ rest →
    Ev (fun k => laws_toIntS.l0 k l (done ++ List.replicate rest.length 0) (done.length : Int)) l := by
  intro rest
  induction rest with
  | nil =>
    intro done h
    refine Ev.step (f := fun _ => some l) (fun k => ?_) (Ev.now _)
    simp only [laws_toIntS.l0]
    rw [if_neg (by rw [h]; simp)]
    simp [h]
  | cons x rest ih =>
    intro done h
    have := ih (done ++ [x]) (by rw [h]; simp)
    have hlen : done.length < l.length := by rw [h]; simp
    have hr : rd l (done.length : Int) = x := by rw [h]; exact rd_append _ _ _
    refine Ev.step (fun k => ?_) this
    simp only [laws_toIntS.l0]
    rw [if_pos (by omega), if_pos (by omega), if_pos (by simp; omega), hr, w64 (x := (done.length : Int) + 1) (by omega) (by omega)]
    rw [show (((done.length : Nat) : Int).toNat) = done.length from rfl, show (x :: rest).length = rest.length + 1 from rfl, List.replicate_succ]
    rw [List.set_append_right _ _ (Nat.le_refl _), Nat.sub_self, List.set_cons_zero]
    simp
theorem toIntS_ev {l : List Int} (hl : l.length ≤ 1048576) : Ev (fun k => laws_toIntS.f k l) l := by
  unfold laws_toIntS.f
  have := toIntS_l l hl l [] rfl
  simp only [if_pos (show 0 ≤ (l.length : Int) by omega), if_pos (show (l.length : Int).toNat ≤ 35184372088832 by omega)]
  simpa using this
theorem eqIntS_l (xs ys : List Int) (he : xs.length = ys.length) (hl : xs.length ≤ 9223372036854775806) : ∀ (d j : Nat), j + d = xs.length →
    Ev (fun k => laws_eqIntS.l0 k xs ys j) (decide (xs.drop j = ys.drop j)) := by
  intro d
  induction d with
  | zero =>
    intro j hj
    rw [List.drop_of_length_le (by omega), List.drop_of_length_le (show ys.length ≤ j by omega)]
    refine Ev.step (f := fun _ => some true) (fun k => ?_) (by simpa using Ev.now true)
    simp only [laws_eqIntS.l0]
    rw [if_neg (by omega)]
  | succ d ih =>
    intro j hj
    rw [rd_drop (show j < xs.length by omega), rd_drop (show j < ys.length by omega)]
    have := ih (j + 1) (by omega)
    by_cases c : rd xs (j : Int) = rd ys (j : Int)
    · rw [c]
      simp only [List.cons.injEq, true_and]
      refine Ev.step (fun k => ?_) this
      simp only [laws_eqIntS.l0]
      rw [if_pos (by omega), if_pos (by omega), if_pos (by omega), if_pos c, w64 (x := (j : Int) + 1) (by omega) (by omega)]
      rfl
    · rw [decide_eq_false (fun h => c (List.cons.inj h).1)]
      refine Ev.step (f := fun _ => some false) (fun k => ?_) (Ev.now _)
      simp only [laws_eqIntS.l0]
      rw [if_pos (by omega), if_pos (by omega), if_pos (by omega), if_neg c]
theorem eqIntS_ev {xs ys : List Int} (hl : xs.length ≤ 9223372036854775806) : Ev (fun k => laws_eqIntS.f k xs ys) (decide (xs = ys)) := by
  unfold laws_eqIntS.f
  by_cases c : xs.length = ys.length
  · simp only [if_pos (show (xs.length : Int) = (ys.length : Int) by omega)]
    simpa using eqIntS_l xs ys c hl xs.length 0 (by omega)
  · simp only [if_neg (show ¬ (xs.length : Int) = (ys.length : Int) by omega), decide_eq_false (fun h : xs = ys => c (by rw [h]))]
    exact Ev.now _
theorem eqIntS_same {xs : List Int} (hl : xs.length ≤ 9223372036854775806) : Ev (fun k => laws_eqIntS.f k xs xs) true := by simpa using eqIntS_ev (ys := xs) hl
theorem markIntS_l : ∀ (rest done : List Int) (m : Int), 0 ≤ m → m + rest.length ≤ 4000000 → done.length + rest.length ≤ 1048576 →
    Ev (fun k => laws_markIntS.l0 k (done ++ rest) m (done.length : Int)) (m + rest.length, done ++ marks rest.length m) := by
  intro rest
  induction rest with
  | nil =>
    intro done m hm hM hl
    refine Ev.step (f := fun _ => some _) (fun k => ?_) (Ev.now _)
    simp only [laws_markIntS.l0]
    rw [if_neg (by simp)]
    simp [marks]
  | cons x rest ih =>
    intro done m hm hM hl
    have hlen : (x :: rest).length = rest.length + 1 := rfl
    have := ih (done ++ [m]) (m + 1) (by omega) (by omega) (by simp; omega)
    simp only [List.append_assoc, List.singleton_append] at this
    rw [show m + ((x :: rest).length : Int) = m + 1 + (rest.length : Int) from by rw [hlen]; omega, hlen, marks]
    refine Ev.step (fun k => ?_) this
    simp only [laws_markIntS.l0]
    rw [if_pos (by simp; omega), if_pos (by omega), w64 (x := (done.length : Int) + 1) (by omega) (by omega), w64 (x := m + 1) (by omega) (by omega)]
    rw [show (((done.length : Nat) : Int).toNat) = done.length from rfl, List.set_append_right _ _ (Nat.le_refl _), Nat.sub_self, List.set_cons_zero]
    simp
theorem markIntS_ev {l : List Int} {m : Int} (hm : 0 ≤ m) (hM : m ≤ 2000000) (hl : l.length ≤ 1048576) : Ev (fun k => laws_markIntS.f k l m) (m + l.length, marks l.length m) :=
  markIntS_l l [] m hm (by omega) (by simpa using hl)
theorem heldIntS_l : ∀ (d : Nat) (done : List Int) (m : Int), 0 ≤ m → m + d ≤ 4000000 → done.length + d ≤ 1048576 →
    Ev (fun k => laws_heldIntS.l0 k (done ++ marks d m) m (done.length : Int)) (m + d) := by
  intro d
  induction d with
  | zero =>
    intro done m hm hM hl
    refine Ev.step (f := fun _ => some m) (fun k => ?_) (by simpa using Ev.now m)
    simp only [laws_heldIntS.l0]
    rw [if_neg (by simp [marks])]
  | succ d ih =>
    intro done m hm hM hl
    have := ih (done ++ [m]) (m + 1) (by omega) (by omega) (by simp; omega)
    simp only [List.append_assoc, List.singleton_append] at this
    rw [show m + ((d + 1 : Nat) : Int) = m + 1 + (d : Int) from by omega, marks]
    refine Ev.step (fun k => ?_) this
    simp only [laws_heldIntS.l0]
    rw [if_pos (by simp; omega), if_pos (by omega), if_pos (rd_append _ _ _), w64 (x := (done.length : Int) + 1) (by omega) (by omega), w64 (x := m + 1) (by omega) (by omega)]
    simp
theorem heldIntS_ev {d : Nat} {m : Int} (hm : 0 ≤ m) (hM : m ≤ 2000000) (hl : d ≤ 1048576) : Ev (fun k => laws_heldIntS.f k (marks d m) m) (m + d) :=
  heldIntS_l d [] m hm (by omega) (by simpa using hl)


theorem qmul_len (p q : List Int) : (qmul p q).1.length ≤ 4 := by
  unfold qmul; split
  · rename_i h
    obtain ⟨a, b, c, d, he, _⟩ := qv_four h.2.2
    simp only [he]; simp
  · simp
theorem i64_wf {l : List Int} (h : ∀ x ∈ l, (Lit.int .i64 x).wf = true) : ∀ x ∈ l, I64 x := fun x hx => by
  have := h x hx
  simp only [Lit.wf, Bool.and_eq_true, decide_eq_true_eq] at this
  have e1 : IntKind.i64.min = -9223372036854775808 := by decide
  have e2 : IntKind.i64.max = 9223372036854775807 := by decide
  unfold I64; omega
theorem holds : laws_FnExactQuatMul.Pure := by
  intro p q _ _ hp _ _ hq
  refine Ev.rounds ?_
  unfold laws_FnExactQuatMul.f
  by_cases b1 : (p.length : Int) > 1048576
  · simp only [if_pos b1]; exact Ev.now _
  simp only [if_neg b1]
  by_cases b2 : (q.length : Int) > 1048576
  · simp only [if_pos b2]; exact Ev.now _
  simp only [if_neg b2]
  have tp := toIntS_ev (l := p) (by omega)
  have tq := toIntS_ev (l := q) (by omega)
  have ms := specQuatMul_ev (i64_wf hp) (show p.length ≤ 9223372036854775806 by omega) (i64_wf hq) (show q.length ≤ 9223372036854775806 by omega)
  have mi := implQuatMul_ev (i64_wf hp) (show p.length ≤ 9223372036854775806 by omega) (i64_wf hq) (show q.length ≤ 9223372036854775806 by omega)
  have hl := qmul_len p q
  generalize qmul p q = r at ms mi hl
  obtain ⟨r1, r2⟩ := r
  simp only at hl
  refine tp.bind (tq.bind (ms.bind (tp.bind (tq.bind (mi.bind ((eqIntS_same (xs := r1) (by omega)).bind ?_))))))
  simp only [if_true, bne_self_eq_false]
  have mk := markIntS_ev (l := r1) (m := 1) (by omega) (by omega) (by omega)
  have hk := heldIntS_ev (d := r1.length) (m := 1) (by omega) (by omega) (by omega)
  apply Ev.step
  · intro k
    simp only [laws_FnExactQuatMul.j0, Bool.false_eq_true, if_false]
    exact rfl
  · refine tp.bind ((eqIntS_same (xs := p) (by omega)).bind ?_)
    simp only [if_true]
    refine tq.bind ((eqIntS_same (xs := q) (by omega)).bind ?_)
    simp only [if_true]
    refine (markIntS_ev (l := p) (m := 1) (by omega) (by omega) (by omega)).bind ?_
    refine (markIntS_ev (l := q) (m := 1 + (p.length : Int)) (by omega) (by omega) (by omega)).bind ?_
    simp only [if_neg (show ¬ (1 + (p.length : Int) + (q.length : Int)) < 0 by omega)]
    refine (eqIntS_same (xs := r1) (by omega)).bind ?_
    simp only [if_true, bne_self_eq_false]
    apply Ev.step
    · intro k
      simp only [laws_FnExactQuatMul.j1, Bool.false_eq_true, if_false]
      exact rfl
    · refine mk.bind (hk.bind ?_)
      simp only [if_neg (show ¬ (1 + (r1.length : Int)) < 0 by omega), if_true]
      refine tp.bind (tq.bind (mi.bind ((eqIntS_same (xs := r1) (by omega)).bind ?_)))
      simp only [if_true, bne_self_eq_false]
      apply Ev.step
      · intro k
        simp only [laws_FnExactQuatMul.j2, Bool.false_eq_true, if_false]
        exact rfl
      · refine hk.bind ?_
        simp only [if_neg (show ¬ (1 + (r1.length : Int)) < 0 by omega), if_true]
        exact Ev.now _

end Go.Proofs.Ytfhehcgefbknbaa.QFnExactQuatMul
