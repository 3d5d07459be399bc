/- Plain arithmetic: laws on classes. -/
import Derived.Test.YtihadpckmcebgaaTFrm
set_option linter.unusedVariables false
set_option linter.unusedSimpArgs false
namespace Locg
open Go.RowKit Go.Proofs.YtihadpckmcebgaaW.PrintWords Go.Proofs.YtihadpckmcebgaaW.PrintMore

def nC (p : Int) : Nat := if p = 2 then 8 else 4
def mC (p : Int) : Nat := if p = 0 then 1 else if p = 2 then 3 else if p % 4 = 3 then 1 else 0
theorem code_in {p n : Int} (hn : n ≠ 0) (h : n.natAbs < 2 ^ 63) : code p n ∈ List.range (nC p) := by
  unfold nC
  rw [List.mem_range]
  split
  · exact code_lt p n hn h
  · rename_i h2
    by_cases c : p = 0
    · subst c; have := code_lt2 n; omega
    · exact code_lt4 p n c h2
/-- A place of the same kind, out of four. -/
def kd (p : Int) : Int := if p = 0 then 0 else if p = 2 then 2 else if p % 4 = 3 then 3 else 5
def K4 : List Int := [0, 2, 3, 5]
theorem kd_mem (p : Int) : kd p ∈ K4 := by unfold kd K4; simp only [List.mem_cons, List.not_mem_nil, or_false]; repeat' split; all_goals omega
theorem kd_cases {p : Int} (h : Plc p) : (p = 0 ∧ kd p = 0) ∨ (p = 2 ∧ kd p = 2) ∨ (OddP p ∧ p ≠ 0 ∧ p ≠ 2 ∧ p % 4 = 3 ∧ kd p = 3) ∨ (OddP p ∧ p ≠ 0 ∧ p ≠ 2 ∧ p % 4 = 1 ∧ kd p = 5) := by
  rcases h with rfl | rfl | h
  · exact Or.inl ⟨rfl, rfl⟩
  · exact Or.inr (Or.inl ⟨rfl, rfl⟩)
  · have h3 := h.2.1
    have ho := prime_odd h.1 h3
    unfold kd
    rw [if_neg (by omega), if_neg (by omega)]
    by_cases c : p % 4 = 3
    · rw [if_pos c]; exact Or.inr (Or.inr (Or.inl ⟨h, by omega, by omega, c, rfl⟩))
    · rw [if_neg c]; exact Or.inr (Or.inr (Or.inr ⟨h, by omega, by omega, by omega, rfl⟩))
theorem kd_zero {p : Int} (h : Plc p) : kd p = 0 ↔ p = 0 := by rcases kd_cases h with ⟨a, b⟩ | ⟨a, b⟩ | ⟨_, a, _, _, b⟩ | ⟨_, a, _, _, b⟩ <;> omega
theorem kd_two {p : Int} (h : Plc p) : kd p = 2 ↔ p = 2 := by rcases kd_cases h with ⟨a, b⟩ | ⟨a, b⟩ | ⟨_, _, a, _, b⟩ | ⟨_, _, a, _, b⟩ <;> omega
theorem nC_kd {p : Int} (h : Plc p) : nC p = nC (kd p) := by unfold nC; have := kd_two h; split <;> split <;> omega
theorem mC_kd {p : Int} (h : Plc p) : mC p = mC (kd p) := by
  rcases kd_cases h with ⟨a, b⟩ | ⟨a, b⟩ | ⟨_, a0, a, c, b⟩ | ⟨_, a0, a, c, b⟩
  · rw [b, a]
  · rw [b, a]
  · rw [b]; unfold mC; rw [if_neg a0, if_neg a, if_pos c]; rfl
  · rw [b]; unfold mC; rw [if_neg a0, if_neg a, if_neg (by omega)]; rfl
theorem symC_kd {p : Int} (h : Plc p) (c d : Nat) : symC p c d = symC (kd p) c d := by
  rcases kd_cases h with ⟨a, b⟩ | ⟨a, b⟩ | ⟨_, a0, a, q, b⟩ | ⟨_, a0, a, q, b⟩
  · rw [b, a]
  · rw [b, a]
  · rw [b]; unfold symC; rw [if_neg a0, if_neg a, if_neg (show ¬ (3 : Int) = 0 by decide), if_neg (show ¬ (3 : Int) = 2 by decide), q]; rfl
  · rw [b]; unfold symC; rw [if_neg a0, if_neg a, if_neg (show ¬ (5 : Int) = 0 by decide), if_neg (show ¬ (5 : Int) = 2 by decide), q]; rfl
theorem val_unit_one {p : Int} (h : 2 ≤ p) : val p 1 = 0 ∧ unit p 1 = 1 := val_of_not (by rw [Int.tmod_eq_of_lt (by omega) (by omega)]; omega)
theorem val_unit_neg {p : Int} (h : 2 ≤ p) : val p (-1) = 0 ∧ unit p (-1) = -1 := val_of_not (by rw [Int.neg_tmod, Int.tmod_eq_of_lt (by omega) (by omega)]; omega)
theorem res_one {p : Int} (h : OddP p) : res p 1 = 1 := by
  have h3 := h.2.1
  exact three_eq h3 (res_three h) (by omega) (by rw [res_mod h, Int.one_pow])
theorem neg_pow_two (k : Nat) : ((-1 : Int)) ^ (2 * k) = 1 := by rw [Int.pow_mul, show ((-1 : Int)) ^ 2 = 1 from rfl, Int.one_pow]
theorem res_neg {p : Int} (h : OddP p) : res p (-1) = if p % 4 = 3 then -1 else 1 := by
  have h3 := h.2.1
  have ho := prime_odd h.1 h3
  refine three_eq h3 (res_three h) (by split <;> omega) ?_
  rw [res_mod h]
  by_cases c : p % 4 = 3
  · rw [if_pos c, show ((p - 1) / 2).toNat = 2 * ((p - 3) / 4).toNat + 1 by omega, Int.pow_succ, neg_pow_two]; rfl
  · rw [if_neg c, show ((p - 1) / 2).toNat = 2 * ((p - 1) / 4).toNat by omega, neg_pow_two]
theorem code_one {p : Int} (h : Plc p) : code p 1 = 0 := by
  rcases h with rfl | rfl | h
  · rfl
  · decide +kernel
  · have h3 := h.2.1
    have := val_unit_one (p := p) (by omega)
    unfold code; rw [if_neg (by omega), if_neg (by omega), this.1, this.2, res_one h]; rfl
theorem code_neg {p : Int} (h : Plc p) : code p (-1) = mC p := by
  rcases h with rfl | rfl | h
  · rfl
  · decide +kernel
  · have h3 := h.2.1
    have := val_unit_neg (p := p) (by omega)
    have c0 : ¬ p = 0 := by omega
    have c2 : ¬ p = 2 := by omega
    unfold code mC; simp only [if_neg c0, if_neg c2, this.1, this.2, res_neg h]
    by_cases c : p % 4 = 3
    · simp only [if_pos c]; rfl
    · simp only [if_neg c]; rfl
theorem code_opp {p n : Int} (h : Plc p) (hn : n ≠ 0) (hN : n.natAbs < 2 ^ 63) : code p (-n) = mC p ^^^ code p n := by
  have e : -n = (-1) * n := by omega
  rw [e, code_mul h (by omega) hn (by rw [← e]; omega), code_neg h]
theorem symC_one {p : Int} (h : Plc p) {d : Nat} (hd : d ∈ List.range (nC p)) : symC p 0 d = 1 ∧ symC p d 0 = 1 := by
  have : ∀ p ∈ K4, ∀ d ∈ List.range (nC p), symC p 0 d = 1 ∧ symC p d 0 = 1 := by decide +kernel
  rw [symC_kd h, symC_kd h]; rw [nC_kd h] at hd; exact this _ (kd_mem p) d hd
/-- The symbol is multiplicative in the classes. -/
theorem symC_mul {p : Int} (h : Plc p) {c d e : Nat} (hc : c ∈ List.range (nC p)) (hd : d ∈ List.range (nC p)) (he : e ∈ List.range (nC p)) (h0 : p = 0 → c < 2 ∧ d < 2 ∧ e < 2) : symC p (c ^^^ d) e = symC p c e * symC p d e := by
  have : ∀ p ∈ K4, ∀ c ∈ List.range (nC p), ∀ d ∈ List.range (nC p), ∀ e ∈ List.range (nC p), (p = 0 → c < 2 ∧ d < 2 ∧ e < 2) → symC p (c ^^^ d) e = symC p c e * symC p d e := by decide +kernel
  rw [symC_kd h, symC_kd h, symC_kd h]
  rw [nC_kd h] at hc hd he
  exact this _ (kd_mem p) c hc d hd e he (fun h1 => h0 ((kd_zero h).1 h1))
theorem sq_code {p n : Int} : sqAt n p = (code p n == 0) := rfl
theorem prod1 (a : Int) : prod [a] = a := by simp [prod, prodF]
theorem prod2 (a b : Int) : prod [a, b] = a * b := by simp [prod, prodF]
theorem prod3 (a b c : Int) : prod [a, b, c] = a * b * c := by simp [prod, prodF]
theorem prod4 (a b c d : Int) : prod [a, b, c, d] = a * b * c * d := by simp [prod, prodF]
theorem inv3 (a b c p : Int) : inv [a, b, c] p = sym b a p * sym c a p * sym c b p := by simp [inv, outr, inn]
theorem inv4 (a b c d p : Int) : inv [a, b, c, d] p = sym b a p * sym c a p * sym c b p * sym d a p * sym d b p * sym d c p := by simp [inv, outr, inn]
theorem mul_sm {a b : Int} {A B : Nat} (ha : a ≠ 0 ∧ a.natAbs ≤ A) (hb : b ≠ 0 ∧ b.natAbs ≤ B) : a * b ≠ 0 ∧ (a * b).natAbs ≤ A * B :=
  ⟨Int.mul_ne_zero ha.1 hb.1, by rw [Int.natAbs_mul]; exact Nat.mul_le_mul ha.2 hb.2⟩
theorem code2 {p a b : Int} (h : Plc p) (ha : Sm a) (hb : Sm b) : code p (a * b) = code p a ^^^ code p b :=
  code_mul h ha.1 hb.1 (by have := (mul_sm ha hb).2; omega)
theorem code3 {p a b c : Int} (h : Plc p) (ha : Sm a) (hb : Sm b) (hc : Sm c) : code p (a * b * c) = code p a ^^^ code p b ^^^ code p c := by
  have h1 := mul_sm ha hb
  rw [code_mul h h1.1 hc.1 (by have := (mul_sm h1 hc).2; omega), code2 h ha hb]
theorem code4 {p a b c d : Int} (h : Plc p) (ha : Sm a) (hb : Sm b) (hc : Sm c) (hd : Sm d) : code p (a * b * c * d) = code p a ^^^ code p b ^^^ code p c ^^^ code p d := by
  have h1 := mul_sm ha hb
  have h2 := mul_sm h1 hc
  rw [code_mul h h2.1 hd.1 (by have := (mul_sm h2 hd).2; omega), code3 h ha hb hc]
theorem sm_i {a : Int} (h : Sm a) : a.natAbs < 2 ^ 63 := by have := h.2; omega
theorem sm1 : Sm 1 := by unfold Sm; omega
theorem smm1 : Sm (-1) := by unfold Sm; omega
/-- A form vanishes at a place, told by classes. -/
def vanC (p : Int) : List Nat → Bool
  | [c, d] => (mC p ^^^ (c ^^^ d)) == 0
  | [c, d, e] => symC p d c * symC p e c * symC p e d == symC p (mC p) (mC p ^^^ (c ^^^ d ^^^ e))
  | [c, d, e, f] => !((c ^^^ d ^^^ e ^^^ f) == 0) || (symC p d c * symC p e c * symC p e d * symC p f c * symC p f d * symC p f e == symC p (mC p) (mC p))
  | _ => false
theorem vanC_kd {p : Int} (h : Plc p) (l : List Nat) : vanC p l = vanC (kd p) l := by
  unfold vanC
  split <;> simp only [symC_kd h, mC_kd h]
theorem van_code {p : Int} (h : Plc p) (h0 : p ≠ 0) {xs : List Int} (hx : ∀ x ∈ xs, Sm x) (hl : xs.length ≤ 5) : van xs p = vanC p (xs.map (code p)) := by
  unfold van
  rw [if_neg h0]
  match xs, hx, hl with
  | [], _, _ => rfl
  | [a], _, _ => rfl
  | [a, b], hx, _ =>
    have ha := hx a (by simp); have hb := hx b (by simp)
    have h1 := mul_sm ha hb
    simp only [List.length_cons, List.length_nil, List.map, vanC, sq_code, prod2]
    rw [if_pos (by omega), code_opp h h1.1 (by omega), code2 h ha hb]
  | [a, b, c], hx, _ =>
    have ha := hx a (by simp); have hb := hx b (by simp); have hc := hx c (by simp)
    have h1 := mul_sm (mul_sm ha hb) hc
    simp only [List.length_cons, List.length_nil, List.map, vanC, sq_code, prod3, inv3]
    rw [if_neg (by omega), if_pos (by omega)]
    unfold sym
    rw [code_opp h h1.1 (by omega), code3 h ha hb hc, code_neg h]
  | [a, b, c, d], hx, _ =>
    have ha := hx a (by simp); have hb := hx b (by simp); have hc := hx c (by simp); have hd := hx d (by simp)
    simp only [List.length_cons, List.length_nil, List.map, vanC, sq_code, prod4, inv4]
    rw [if_neg (by omega), if_neg (by omega), if_pos (by omega)]
    unfold sym
    rw [code4 h ha hb hc hd, code_neg h]
  | [a, b, c, d, e], _, _ => rfl
theorem van1_t : ∀ p ∈ K4, p ≠ 0 → ∀ c ∈ List.range (nC p), vanC p [c, 0, mC p] = true := by decide +kernel
theorem van1_tab (p : Int) (h : Plc p) (h0 : p ≠ 0) (c : Nat) (hc : c ∈ List.range (nC p)) : vanC p [c, 0, mC p] = true := by
  rw [nC_kd h] at hc; rw [vanC_kd h, mC_kd h]; exact van1_t _ (kd_mem p) (fun e => h0 ((kd_zero h).1 e)) c hc
theorem van2_t : ∀ p ∈ K4, p ≠ 0 → ∀ c ∈ List.range (nC p), ∀ d ∈ List.range (nC p), vanC p [c, d, 0, mC p] = true := by decide +kernel
theorem van2_tab (p : Int) (h : Plc p) (h0 : p ≠ 0) (c : Nat) (hc : c ∈ List.range (nC p)) (d : Nat) (hd : d ∈ List.range (nC p)) : vanC p [c, d, 0, mC p] = true := by
  rw [nC_kd h] at hc hd; rw [vanC_kd h, mC_kd h]; exact van2_t _ (kd_mem p) (fun e => h0 ((kd_zero h).1 e)) c hc d hd
theorem planes_pos {xs : List Int} {p : Int} : decide (planes xs p > 0) = van xs p := by
  unfold planes
  have hs := less_bd xs
  by_cases c0 : p = 0
  · rw [if_pos c0]
    unfold van mn
    rw [if_pos c0, ← Bool.decide_and]
    apply decide_eq_decide.2
    split <;> omega
  · rw [if_neg c0]
    by_cases cv : van xs p = true
    · rw [if_pos cv, cv]; split <;> simp
    · rw [if_neg cv, Bool.eq_false_iff.2 cv]; simp
theorem van_len {xs : List Int} {p : Int} (h0 : p ≠ 0) (h : van xs p = true) : 2 ≤ xs.length := by
  unfold van at h
  rw [if_neg h0] at h
  by_cases c2 : (xs.length : Int) = 2
  · omega
  · by_cases c3 : (xs.length : Int) = 3
    · omega
    · by_cases c4 : (xs.length : Int) = 4
      · omega
      · rw [if_neg c2, if_neg c3, if_neg c4] at h; simp at h
theorem planes_half (xs : List Int) (p : Int) : 0 ≤ planes xs p ∧ 2 * planes xs p ≤ (xs.length : Int) := by
  unfold planes
  have hs := less_bd xs
  by_cases c0 : p = 0
  · rw [if_pos c0]; unfold mn; split <;> omega
  · rw [if_neg c0]
    by_cases cv : van xs p = true
    · have := van_len c0 cv
      rw [if_pos cv]; split <;> omega
    · rw [if_neg cv]; omega
theorem planes_join {xs : List Int} {p : Int} (h : Plc p) (hx : ∀ x ∈ xs, Sm x) (h1 : 1 ≤ xs.length) (hl : (xs ++ [1, -1]).length ≤ 4) : planes (xs ++ [1, -1]) p = planes xs p + 1 := by
  by_cases c0 : p = 0
  · have e : less (xs ++ [1, -1]) = less xs + 1 := by
      have : ∀ (ys : List Int) (acc : Int), lessF (ys ++ [1, -1]) acc = lessF ys acc + 1 := by
        intro ys
        induction ys with
        | nil => intro acc; simp [lessF]
        | cons y ys ih => intro acc; simp only [List.cons_append, lessF]; exact ih _
      exact this xs 0
    have hs := less_bd xs
    unfold planes
    rw [if_pos c0, if_pos c0, e]
    rw [List.length_append] at hl ⊢
    simp only [List.length_cons, List.length_nil] at hl ⊢
    unfold mn; split <;> split <;> omega
  · match xs, hx, h1, hl with
    | [a], hx, _, _ =>
      have ha := hx a (by simp)
      have hv : van [a, 1, -1] p = true := by
        rw [van_code h c0 (by intro x hx; simp only [List.mem_cons, List.not_mem_nil, or_false] at hx; rcases hx with rfl | rfl | rfl; exact ha; exact sm1; exact smm1) (by simp)]
        simp only [List.map, code_one h, code_neg h]
        exact van1_tab p h c0 _ (code_in ha.1 (sm_i ha))
      unfold planes
      rw [if_neg c0, if_neg c0]
      simp only [List.cons_append, List.nil_append]
      rw [if_pos hv, if_neg (by simp), if_neg (by unfold van; rw [if_neg c0]; simp)]
      rfl
    | [a, b], hx, _, _ =>
      have ha := hx a (by simp); have hb := hx b (by simp)
      have hm := mul_sm ha hb
      have hv : van [a, b, 1, -1] p = true := by
        rw [van_code h c0 (by intro x hx; simp only [List.mem_cons, List.not_mem_nil, or_false] at hx; rcases hx with rfl | rfl | rfl | rfl; exact ha; exact hb; exact sm1; exact smm1) (by simp)]
        simp only [List.map, code_one h, code_neg h]
        exact van2_tab p h c0 _ (code_in ha.1 (sm_i ha)) _ (code_in hb.1 (sm_i hb))
      have e : prod [a, b, 1, -1] = -(a * b) := by rw [prod4]; omega
      have v2 : van [a, b] p = sqAt (-(a * b)) p := by unfold van; rw [if_neg c0, if_pos (by simp), prod2]
      unfold planes
      rw [if_neg c0, if_neg c0]
      simp only [List.cons_append, List.nil_append]
      rw [if_pos hv]
      simp only [e, v2]
      by_cases cq : sqAt (-(a * b)) p = true
      · simp [cq]
      · simp [cq]
    | _ :: _ :: _ :: _, _, _, hl => exfalso; simp at hl

end Locg
