/- Plain arithmetic: a form with a zero vanishes at each place. -/
import Derived.Test.YtihadpckmcebgaaTAdd
set_option linter.unusedVariables false
set_option linter.unusedSimpArgs false
namespace Locg
open Go.RowKit Go.Proofs.YtihadpckmcebgaaW.PrintWords Go.Proofs.YtihadpckmcebgaaW.PrintMore

/-- The value of a form at a vector. -/
def qv : List Int → List Int → Int
  | x :: xs, v :: vs => x * v * v + qv xs vs
  | _, _ => 0
theorem qv_pos : ∀ (xs vs : List Int), xs.length = vs.length → (∀ x ∈ xs, 0 < x) → 0 ≤ qv xs vs ∧ (qv xs vs = 0 → ∀ v ∈ vs, v = 0)
  | [], [], _, _ => ⟨by simp [qv], by simp⟩
  | x :: xs, v :: vs, hl, hx => by
    have ih := qv_pos xs vs (by simpa using hl) (fun y hy => hx y (by simp [hy]))
    have h0 := hx x (by simp)
    have h1 : 0 ≤ x * v * v := by rw [Int.mul_assoc]; exact Int.mul_nonneg (by omega) (sq_nonneg v)
    simp only [qv]
    refine ⟨by omega, fun h => ?_⟩
    have h2 : x * v * v = 0 := by omega
    have h3 : v = 0 := by
      rw [Int.mul_assoc] at h2
      rcases Int.mul_eq_zero.1 h2 with h | h
      · omega
      · rcases Int.mul_eq_zero.1 h with h | h <;> exact h
    intro u hu
    rcases List.mem_cons.1 hu with h | h
    · omega
    · exact ih.2 (by omega) u h
theorem qv_neg : ∀ (xs vs : List Int), qv (xs.map (fun x => -x)) vs = -qv xs vs
  | [], vs => by simp [qv]
  | x :: xs, [] => by simp [qv]
  | x :: xs, v :: vs => by
    simp only [List.map, qv, qv_neg xs vs, Int.neg_mul]; omega
theorem lessF_zero : ∀ (xs : List Int) (acc : Int), lessF xs acc = acc → ∀ x ∈ xs, 0 ≤ x
  | [], _, _ => by simp
  | x :: xs, acc, h => by
    simp only [lessF] at h
    have h1 := lessF_bd xs (acc + 1)
    by_cases c : x < 0
    · rw [if_pos c] at h; omega
    · rw [if_neg c] at h
      intro y hy
      rcases List.mem_cons.1 hy with e | e
      · omega
      · exact lessF_zero xs acc h y e
theorem lessF_full : ∀ (xs : List Int) (acc : Int), lessF xs acc = acc + xs.length → ∀ x ∈ xs, x < 0
  | [], _, _ => by simp
  | x :: xs, acc, h => by
    simp only [lessF, List.length_cons] at h
    have h1 := lessF_bd xs acc
    by_cases c : x < 0
    · rw [if_pos c] at h
      intro y hy
      rcases List.mem_cons.1 hy with e | e
      · omega
      · exact lessF_full xs (acc + 1) (by omega) y e
    · rw [if_neg c] at h; omega
/-- The real place. -/
theorem zero_van0 {xs vs : List Int} (hl : xs.length = vs.length) (hx : ∀ x ∈ xs, Sm x) (hz : qv xs vs = 0) (hv : ∃ v ∈ vs, v ≠ 0) : van xs 0 = true := by
  obtain ⟨v, hv, hv0⟩ := hv
  have hb := less_bd xs
  rw [van0, Bool.and_eq_true, decide_eq_true_eq, decide_eq_true_eq]
  refine ⟨?_, ?_⟩
  · rcases Int.lt_or_le 0 (less xs) with h | h
    · exact h
    · exfalso
      have hp := lessF_zero xs 0 (by have : lessF xs 0 = less xs := rfl; omega)
      exact hv0 ((qv_pos xs vs hl (fun x h => by have := hp x h; have := (hx x h).1; omega)).2 hz v hv)
  · rcases Int.lt_or_le (less xs) xs.length with h | h
    · exact h
    · exfalso
      have hp := lessF_full xs 0 (by have : lessF xs 0 = less xs := rfl; omega)
      have := (qv_pos (xs.map (fun x => -x)) vs (by simpa using hl) (fun x h => by
        obtain ⟨y, hy, rfl⟩ := List.mem_map.1 h
        have := hp y hy; omega)).2 (by rw [qv_neg, hz]; rfl) v hv
      exact hv0 this
theorem pair_t : ∀ p ∈ K4, p ≠ 0 → ∀ c ∈ List.range (nC p), ∀ d ∈ List.range (nC p), vanC p [c, mC p ^^^ c] = true ∧ vanC p [c, mC p ^^^ c, d] = true := by decide +kernel
theorem pair4_t : ∀ p ∈ K4, p ≠ 0 → ∀ c ∈ List.range (nC p), ∀ d ∈ List.range (nC p), ∀ e ∈ List.range (nC p), vanC p [c, mC p ^^^ c, d, e] = true ∧ vanC p [d, e, c, mC p ^^^ c] = true := by decide +kernel
theorem three_t : ∀ p ∈ K4, p ≠ 0 → ∀ c ∈ List.range (nC p), ∀ d ∈ List.range (nC p), ∀ e ∈ List.range (nC p), symC p (c ^^^ (mC p ^^^ e)) (d ^^^ (mC p ^^^ e)) = 1 → vanC p [c, d, e] = true := by decide +kernel
def four_chk (p : Int) : Bool := (List.range (nC p)).all fun c => (List.range (nC p)).all fun d => (List.range (nC p)).all fun s =>
  !(symC p (c ^^^ s) (d ^^^ s) == 1) || (List.range (nC p)).all fun e => (List.range (nC p)).all fun f => !(symC p (e ^^^ (mC p ^^^ s)) (f ^^^ (mC p ^^^ s)) == 1) || vanC p [c, d, e, f]
theorem four_chk_all : ∀ p ∈ K4, p ≠ 0 → four_chk p = true := by decide +kernel
theorem four_t {p : Int} (hp : p ∈ K4) (h0 : p ≠ 0) {c d e f s : Nat} (hc : c ∈ List.range (nC p)) (hd : d ∈ List.range (nC p)) (he : e ∈ List.range (nC p)) (hf : f ∈ List.range (nC p)) (hs : s ∈ List.range (nC p))
    (h1 : symC p (c ^^^ s) (d ^^^ s) = 1) (h2 : symC p (e ^^^ (mC p ^^^ s)) (f ^^^ (mC p ^^^ s)) = 1) : vanC p [c, d, e, f] = true := by
  have := four_chk_all p hp h0
  unfold four_chk at this
  have := List.all_eq_true.1 (List.all_eq_true.1 (List.all_eq_true.1 this c hc) d hd) s hs
  rw [h1] at this
  simp only [beq_self_eq_true, Bool.not_true, Bool.false_or] at this
  have := List.all_eq_true.1 (List.all_eq_true.1 this e he) f hf
  rw [h2] at this
  simpa using this
/-- A square times a number. -/
theorem code_sqm {p a x : Int} (h : Plc p) (ha : a ≠ 0) (hx : x ≠ 0) (hb : (a * x * x).natAbs < 2 ^ 63) : code p (a * x * x) = code p a := by
  have h1 : a * x ≠ 0 := Int.mul_ne_zero ha hx
  have h2 : (a * x).natAbs ≤ (a * x * x).natAbs := by rw [Int.natAbs_mul (a * x)]; exact Nat.le_mul_of_pos_right _ (by omega)
  rw [code_mul h h1 hx hb, code_mul h ha hx (by omega), Nat.xor_assoc, Nat.xor_self, Nat.xor_zero]
/-- Two terms represent a number, told by classes. -/
theorem pair_rep {p a b x y S : Int} (h : Plc p) (ha : a ≠ 0) (hb : b ≠ 0) (ha' : a.natAbs < 2 ^ 63) (hb' : b.natAbs < 2 ^ 63) (hA : (a * x * x).natAbs < 2 ^ 63) (hB : (b * y * y).natAbs < 2 ^ 63) (hS : S.natAbs < 2 ^ 63) (hS0 : S ≠ 0) (e : a * x * x + b * y * y = S) :
    symC p (code p a ^^^ code p S) (code p b ^^^ code p S) = 1 := by
  have iS := code_in (p := p) hS0 hS
  by_cases cx : x = 0
  · have e2 : b * y * y = S := by rw [cx] at e; simpa using e
    by_cases cy : y = 0
    · exfalso; rw [cy] at e2; simp at e2; exact hS0 e2.symm
    · have := code_sqm h hb cy hB
      rw [e2] at this
      rw [this, Nat.xor_self]; exact (symC_one h (xor_in (code_in ha ha') (code_in hb hb'))).2
  · by_cases cy : y = 0
    · have e2 : a * x * x = S := by rw [cy] at e; simpa using e
      have := code_sqm h ha cx hA
      rw [e2] at this
      rw [this, Nat.xor_self]; exact (symC_one h (xor_in (code_in hb hb') (code_in ha ha'))).1
    · have := add_code h (Int.mul_ne_zero (Int.mul_ne_zero ha cx) cx) (Int.mul_ne_zero (Int.mul_ne_zero hb cy) cy) hS0 hA hB hS e
      rwa [code_sqm h ha cx hA, code_sqm h hb cy hB] at this
/-- Two terms with a zero: opposite classes. -/
theorem pair_zero {p a b x y : Int} (h : Plc p) (ha : a ≠ 0) (hb : b ≠ 0) (hA : (a * x * x).natAbs < 2 ^ 63) (hB : (b * y * y).natAbs < 2 ^ 63) (e : a * x * x + b * y * y = 0) (hz : x ≠ 0 ∨ y ≠ 0) : code p b = mC p ^^^ code p a := by
  have hx : x ≠ 0 := by
    intro c; rw [c] at e
    rcases hz with h | h
    · exact h c
    · exact Int.mul_ne_zero (Int.mul_ne_zero hb h) h (by simpa using e)
  have hy : y ≠ 0 := by
    intro c; rw [c] at e
    exact Int.mul_ne_zero (Int.mul_ne_zero ha hx) hx (by simpa using e)
  have e2 : b * y * y = -(a * x * x) := by omega
  rw [← code_sqm h hb hy hB, e2, code_opp h (Int.mul_ne_zero (Int.mul_ne_zero ha hx) hx) hA, code_sqm h ha hx hA]
theorem ne_kd {p : Int} (h : Plc p) (h0 : p ≠ 0) : kd p ≠ 0 := fun e => h0 ((kd_zero h).1 e)
/-- A form with a zero vanishes at each place. -/
theorem zero_van {p : Int} {xs vs : List Int} (h : Plc p) (hl : xs.length = vs.length) (h4 : xs.length ≤ 4) (hx : ∀ x ∈ xs, Sm x) (hb : ∀ v ∈ vs, v.natAbs ≤ 100000000) (hz : qv xs vs = 0) (hv : ∃ v ∈ vs, v ≠ 0) : van xs p = true := by
  by_cases c0 : p = 0
  · subst c0; exact zero_van0 hl hx hz hv
  · have hk := ne_kd h c0
    have bd : ∀ a x : Int, Sm a → x.natAbs ≤ 100000000 → (a * x * x).natAbs ≤ 300000000000000000 := by
      intro a x ha hx
      rw [Int.natAbs_mul, Int.natAbs_mul]
      have := Nat.mul_le_mul (Nat.mul_le_mul ha.2 hx) hx
      omega
    rw [van_code h c0 hx (by omega), vanC_kd h]
    match xs, vs, hl, h4, hx, hb, hz, hv with
    | [], [], _, _, _, _, _, hv => obtain ⟨v, hv, _⟩ := hv; simp at hv
    | [a], [x], _, _, hx, _, hz, hv =>
      exfalso
      obtain ⟨v, hv, hv0⟩ := hv
      obtain rfl := List.mem_singleton.1 hv
      simp only [qv, Int.add_zero] at hz
      exact Int.mul_ne_zero (Int.mul_ne_zero (hx a (by simp)).1 hv0) hv0 hz
    | [a, b], [x, y], _, _, hx, hb, hz, hv =>
      have ha := hx a (by simp); have hb1 := hx b (by simp)
      have bA := bd a x ha (hb x (by simp)); have bB := bd b y hb1 (hb y (by simp))
      have := pair_zero h ha.1 hb1.1 (x := x) (y := y) (by omega) (by omega) (by simp only [qv] at hz; omega) (by obtain ⟨v, hv, hv0⟩ := hv; simp only [List.mem_cons, List.not_mem_nil, or_false] at hv; rcases hv with rfl | rfl; exact Or.inl hv0; exact Or.inr hv0)
      have iA := code_in (p := p) ha.1 (sm_i ha)
      simp only [List.map, this]
      rw [mC_kd h]; rw [nC_kd h] at iA
      exact (pair_t _ (kd_mem p) hk _ iA _ iA).1
    | [a, b, c], [x, y, z], _, _, hx, hb, hz, hv =>
      have ha := hx a (by simp); have hb1 := hx b (by simp); have hc := hx c (by simp)
      have bA := bd a x ha (hb x (by simp)); have bB := bd b y hb1 (hb y (by simp)); have bC := bd c z hc (hb z (by simp))
      have iA := code_in (p := p) ha.1 (sm_i ha)
      have iB := code_in (p := p) hb1.1 (sm_i hb1)
      have iC := code_in (p := p) hc.1 (sm_i hc)
      simp only [qv, Int.add_zero] at hz
      simp only [List.map]
      by_cases cS : a * x * x + b * y * y = 0
      · have hz0 : z = 0 := by
          have : c * z * z = 0 := by omega
          rcases Int.mul_eq_zero.1 this with h | h
          · rcases Int.mul_eq_zero.1 h with h | h
            · exact absurd h hc.1
            · exact h
          · exact h
        have := pair_zero h ha.1 hb1.1 (x := x) (y := y) (by omega) (by omega) cS (by obtain ⟨v, hv, hv0⟩ := hv; simp only [List.mem_cons, List.not_mem_nil, or_false] at hv; rcases hv with rfl | rfl | rfl; exact Or.inl hv0; exact Or.inr hv0; exact absurd hz0 hv0)
        rw [this, mC_kd h]; rw [nC_kd h] at iA iC
        exact (pair_t _ (kd_mem p) hk _ iA _ iC).2
      · have hr := pair_rep h ha.1 hb1.1 (sm_i ha) (sm_i hb1) (x := x) (y := y) (S := a * x * x + b * y * y) (by omega) (by omega) (by omega) cS rfl
        have hz0 : z ≠ 0 := by intro e; rw [e] at hz; simp at hz; exact cS hz
        have e2 : a * x * x + b * y * y = -(c * z * z) := by omega
        rw [e2, code_opp h (Int.mul_ne_zero (Int.mul_ne_zero hc.1 hz0) hz0) (by omega), code_sqm h hc.1 hz0 (by omega), symC_kd h, mC_kd h] at hr
        rw [nC_kd h] at iA iB iC
        exact three_t _ (kd_mem p) hk _ iA _ iB _ iC hr
    | [a, b, c, d], [x, y, z, w], _, _, hx, hb, hz, hv =>
      have ha := hx a (by simp); have hb1 := hx b (by simp); have hc := hx c (by simp); have hd := hx d (by simp)
      have bA := bd a x ha (hb x (by simp)); have bB := bd b y hb1 (hb y (by simp)); have bC := bd c z hc (hb z (by simp)); have bD := bd d w hd (hb w (by simp))
      have iA := code_in (p := p) ha.1 (sm_i ha)
      have iB := code_in (p := p) hb1.1 (sm_i hb1)
      have iC := code_in (p := p) hc.1 (sm_i hc)
      have iD := code_in (p := p) hd.1 (sm_i hd)
      simp only [qv, Int.add_zero] at hz
      simp only [List.map]
      by_cases cS : a * x * x + b * y * y = 0
      · by_cases c1 : x ≠ 0 ∨ y ≠ 0
        · have := pair_zero h ha.1 hb1.1 (x := x) (y := y) (by omega) (by omega) cS c1
          rw [this, mC_kd h]; rw [nC_kd h] at iA iC iD
          exact (pair4_t _ (kd_mem p) hk _ iA _ iC _ iD).1
        · have := pair_zero h hc.1 hd.1 (x := z) (y := w) (by omega) (by omega) (by omega) (by obtain ⟨v, hv, hv0⟩ := hv; simp only [List.mem_cons, List.not_mem_nil, or_false] at hv; rcases hv with rfl | rfl | rfl | rfl; exact absurd (Or.inl hv0) c1; exact absurd (Or.inr hv0) c1; exact Or.inl hv0; exact Or.inr hv0)
          rw [this, mC_kd h]; rw [nC_kd h] at iA iB iC
          exact (pair4_t _ (kd_mem p) hk _ iC _ iA _ iB).2
      · have hr := pair_rep h ha.1 hb1.1 (sm_i ha) (sm_i hb1) (x := x) (y := y) (S := a * x * x + b * y * y) (by omega) (by omega) (by omega) cS rfl
        have hr2 := pair_rep h hc.1 hd.1 (sm_i hc) (sm_i hd) (x := z) (y := w) (S := -(a * x * x + b * y * y)) (by omega) (by omega) (by omega) (by omega) (by omega)
        have iS := code_in (p := p) cS (by omega)
        rw [code_opp h cS (by omega)] at hr2
        generalize code p (a * x * x + b * y * y) = s at hr hr2 iS
        rw [symC_kd h] at hr
        rw [symC_kd h, mC_kd h] at hr2
        rw [nC_kd h] at iA iB iC iD iS
        exact four_t (kd_mem p) hk iA iB iC iD iS hr hr2

end Locg
