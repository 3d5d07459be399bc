/- Plain arithmetic: forms that are alike at a place. -/
import Derived.Test.YtihadpckmcebgaaTRep
set_option linter.unusedVariables false
set_option linter.unusedSimpArgs false
namespace Locg
open Go.RowKit Go.Proofs.YtihadpckmcebgaaW.PrintWords Go.Proofs.YtihadpckmcebgaaW.PrintMore

def alk (xs ys : List Int) (p : Int) : Bool := if p = 0 then less xs == less ys else sqAt (prod xs * prod ys) p && (inv xs p == inv ys p)
theorem alk_symm {xs ys : List Int} {p : Int} (h : alk xs ys p = true) : alk ys xs p = true := by
  unfold alk at h ⊢
  by_cases c : p = 0
  · rw [if_pos c] at h ⊢; rw [beq_iff_eq] at h ⊢; exact h.symm
  · rw [if_neg c, Bool.and_eq_true, beq_iff_eq] at h
    rw [if_neg c, Bool.and_eq_true, beq_iff_eq, Int.mul_comm]
    exact ⟨h.1, h.2.symm⟩
theorem prodF_app (t : Int) : ∀ (xs : List Int) (acc : Int), prodF (xs ++ [t]) acc = prodF xs acc * t
  | [], acc => rfl
  | x :: xs, acc => prodF_app t xs (acc * x)
theorem prod_app (xs : List Int) (t : Int) : prod (xs ++ [t]) = prod xs * t := prodF_app t xs 1
theorem pp_sm {xs ys : List Int} (hx : ∀ x ∈ xs, Sm x) (hy : ∀ x ∈ ys, Sm x) (h1 : xs.length ≤ 5) (h2 : ys.length ≤ 5) : prod xs * prod ys ≠ 0 ∧ (prod xs * prod ys).natAbs < 2 ^ 63 := by
  have a := prod_bd4 hx h1
  have b := prod_bd4 hy h2
  have := mul_sm a b
  exact ⟨this.1, by have := this.2; omega⟩
theorem xor_zero_iff {a b : Nat} : a ^^^ b = 0 ↔ a = b := by
  constructor
  · intro h
    have : a ^^^ b ^^^ b = 0 ^^^ b := by rw [h]
    rw [Nat.xor_assoc, Nat.xor_self, Nat.xor_zero, Nat.zero_xor] at this
    exact this
  · intro h; rw [h, Nat.xor_self]
theorem alk_iff {xs ys : List Int} {p : Int} (h : Plc p) (c0 : p ≠ 0) (hx : ∀ x ∈ xs, Sm x) (hy : ∀ x ∈ ys, Sm x) (h1 : xs.length ≤ 5) (h2 : ys.length ≤ 5) :
    alk xs ys p = true ↔ code p (prod xs) = code p (prod ys) ∧ inv xs p = inv ys p := by
  have a := prod_bd4 hx h1
  have b := prod_bd4 hy h2
  have m := pp_sm hx hy h1 h2
  unfold alk
  rw [if_neg c0, Bool.and_eq_true, beq_iff_eq, sq_code, code_mul h a.1 b.1 m.2, beq_iff_eq, xor_zero_iff]
theorem alk_van {xs ys : List Int} {p : Int} (h : Plc p) (hx : ∀ x ∈ xs, Sm x) (hy : ∀ x ∈ ys, Sm x) (h1 : xs.length ≤ 5) (hl : xs.length = ys.length) (ha : alk xs ys p = true) : van xs p = van ys p := by
  by_cases c0 : p = 0
  · subst c0
    unfold alk at ha
    rw [if_pos rfl, beq_iff_eq] at ha
    rw [van0, van0, ha, hl]
  · have h2 : ys.length ≤ 5 := by omega
    obtain ⟨e1, e2⟩ := (alk_iff h c0 hx hy h1 h2).1 ha
    have a := prod_bd4 hx h1
    have b := prod_bd4 hy h2
    have o1 := code_opp h a.1 (show (prod xs).natAbs < 2 ^ 63 by omega)
    have o2 := code_opp h b.1 (show (prod ys).natAbs < 2 ^ 63 by omega)
    unfold van
    simp only [if_neg c0, sq_code, sym, o1, o2, e1, e2, hl]
theorem code_bnd0 {n : Int} : code 0 n < 2 := code_lt2 n
theorem symC_mul' {p a b e : Int} (h : Plc p) (ha : a ≠ 0 ∧ a.natAbs < 2 ^ 63) (hb : b ≠ 0 ∧ b.natAbs < 2 ^ 63) (he : e ≠ 0 ∧ e.natAbs < 2 ^ 63) :
    symC p (code p a ^^^ code p b) (code p e) = symC p (code p a) (code p e) * symC p (code p b) (code p e) :=
  symC_mul h (code_in ha.1 ha.2) (code_in hb.1 hb.2) (code_in he.1 he.2) (fun h0 => by subst h0; exact ⟨code_lt2 a, code_lt2 b, code_lt2 e⟩)
/-- The symbols of one term with all of a list. -/
theorem inn_prod {p s : Int} (h : Plc p) (hs : Sm s) : ∀ (xs : List Int) (acc q : Int) (j : Nat), (∀ x ∈ xs, Sm x) → xs.length + j ≤ 5 → q ≠ 0 → q.natAbs ≤ 30 ^ j →
    inn p s xs acc * symC p (code p q) (code p s) = acc * symC p (code p (prodF xs q)) (code p s)
  | [], acc, q, j, _, _, _, _ => rfl
  | x :: xs, acc, q, j, hx, hl, hq, hQ => by
    have h1 := hx x (by simp)
    have hq2 : (q * x).natAbs ≤ 30 ^ (j + 1) := by rw [Int.natAbs_mul, Nat.pow_succ]; exact Nat.mul_le_mul hQ h1.2
    simp only [List.length_cons] at hl
    have hb : 30 ^ (j + 1) ≤ 30 ^ 5 := Nat.pow_le_pow_right (by omega) (by omega)
    have hb0 : 30 ^ j ≤ 30 ^ 5 := Nat.pow_le_pow_right (by omega) (by omega)
    have ih := inn_prod h hs xs (acc * sym s x p) (q * x) (j + 1) (fun y hy => hx y (by simp [hy])) (by omega) (Int.mul_ne_zero hq h1.1) hq2
    have em := code_mul h hq h1.1 (show (q * x).natAbs < 2 ^ 63 by omega)
    have es := symC_mul' h (a := q) (b := x) (e := s) ⟨hq, by omega⟩ ⟨h1.1, sm_i h1⟩ ⟨hs.1, sm_i hs⟩
    rw [em, es] at ih
    simp only [inn, prodF]
    have hxs : sym s x p = symC p (code p x) (code p s) := by rw [sym_comm]; rfl
    have hpm := symC_pm p (code p x) (code p s)
    rw [hxs] at ih ⊢
    generalize symC p (code p x) (code p s) = u at ih hpm
    generalize inn p s xs (acc * u) = I at ih
    generalize symC p (code p q) (code p s) = Q at ih
    generalize symC p (code p (prodF xs (q * x))) (code p s) = R at ih
    rcases hpm with rfl | rfl
    · simpa using ih
    · have h2 : -(I * Q) = -(acc * R) := by
        have e1 : I * (Q * -1) = -(I * Q) := by rw [Int.mul_neg, Int.mul_one, Int.mul_neg]
        have e2 : acc * -1 * R = -(acc * R) := by rw [Int.mul_neg, Int.mul_one, Int.neg_mul]
        rw [e1, e2] at ih; exact ih
      omega
theorem outr_app (p t : Int) : ∀ (xs pre : List Int) (acc : Int), outr p pre (xs ++ [t]) acc = inn p t (pre ++ xs) (outr p pre xs acc)
  | [], pre, acc => by simp [outr]
  | x :: xs, pre, acc => by
    simp only [List.cons_append, outr]
    rw [outr_app p t xs (pre ++ [x]) _]
    simp
theorem inv_app {xs : List Int} {p t : Int} (h : Plc p) (hx : ∀ x ∈ xs, Sm x) (ht : Sm t) (hl : xs.length ≤ 4) : inv (xs ++ [t]) p = inv xs p * symC p (code p (prod xs)) (code p t) := by
  unfold inv
  rw [outr_app, List.nil_append]
  have := inn_prod h ht xs (outr p [] xs 1) 1 0 hx (by omega) (by omega) (by simp)
  rw [code_one h, (symC_one h (code_in ht.1 (sm_i ht))).1, Int.mul_one] at this
  exact this
theorem alk_app {xs ys : List Int} {p t : Int} (h : Plc p) (hx : ∀ x ∈ xs, Sm x) (hy : ∀ x ∈ ys, Sm x) (h1 : xs.length ≤ 4) (hl : xs.length = ys.length) (ht : Sm t) (ha : alk xs ys p = true) : alk (xs ++ [t]) (ys ++ [t]) p = true := by
  by_cases c0 : p = 0
  · subst c0
    unfold alk at ha ⊢
    rw [if_pos rfl, beq_iff_eq] at ha ⊢
    rw [less_app, less_app, ha]
  · obtain ⟨e1, e2⟩ := (alk_iff h c0 hx hy (by omega) (by omega)).1 ha
    rw [alk_iff h c0 (sm_app hx ht) (sm_app hy ht) (by simp; omega) (by simp; omega), prod_app, prod_app, inv_app h hx ht h1, inv_app h hy ht (by omega), e1, e2]
    have a := prod_bd4 hx (by omega)
    have b := prod_bd4 hy (show ys.length ≤ 5 by omega)
    have m1 := mul_sm a ht
    have m2 := mul_sm b ht
    rw [code_mul h a.1 ht.1 (by omega), code_mul h b.1 ht.1 (by omega), e1]
    exact ⟨rfl, rfl⟩
theorem alk_rep {xs ys : List Int} {p t : Int} (h : Plc p) (hx : ∀ x ∈ xs, Sm x) (hy : ∀ x ∈ ys, Sm x) (h1 : xs.length ≤ 4) (hl : xs.length = ys.length) (ht : Sm t) (ha : alk xs ys p = true) : rep xs t p = rep ys t p := by
  have e := alk_van h (sm_app hx (sm_opp ht)) (sm_app hy (sm_opp ht)) (by simp; omega) (by simp [hl]) (alk_app h hx hy h1 hl (sm_opp ht) ha)
  unfold rep
  rw [e, hl]

end Locg
