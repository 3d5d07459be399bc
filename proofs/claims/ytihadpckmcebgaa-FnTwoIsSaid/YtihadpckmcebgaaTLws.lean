/- Plain arithmetic: forms at all their places. -/
import Derived.Test.YtihadpckmcebgaaTSqa
import Derived.Test.YtihadpckmcebgaaTAlk
set_option linter.unusedVariables false
set_option linter.unusedSimpArgs false
namespace Locg
open Go.RowKit Go.Proofs.YtihadpckmcebgaaW.PrintWords Go.Proofs.YtihadpckmcebgaaW.PrintMore

def bad (xs : List Int) : List Int := (plc xs).filter (fun p => !van xs p)
def minL (f : Int → Int) : List Int → Int → Int
  | [], acc => acc
  | p :: ps, acc => minL f ps (mn acc (f p))
def pall (xs : List Int) : Int := minL (planes xs) (plc xs) xs.length
def vbad (xs : List Int) (t : Int) : List Int := (plc (xs ++ [t])).filter (fun p => !rep xs t p)
theorem mn_le {a b : Int} : mn a b ≤ a ∧ mn a b ≤ b ∧ (mn a b = a ∨ mn a b = b) := by unfold mn; split <;> omega
theorem minL_le (f : Int → Int) : ∀ (ps : List Int) (acc : Int), minL f ps acc ≤ acc ∧ (∀ p ∈ ps, minL f ps acc ≤ f p) ∧ (minL f ps acc = acc ∨ ∃ p ∈ ps, minL f ps acc = f p)
  | [], acc => ⟨Int.le_refl _, by simp, Or.inl rfl⟩
  | p :: ps, acc => by
    simp only [minL]
    obtain ⟨h1, h2, h3⟩ := minL_le f ps (mn acc (f p))
    have hm := mn_le (a := acc) (b := f p)
    refine ⟨by omega, ?_, ?_⟩
    · intro q hq
      rcases List.mem_cons.1 hq with e | e
      · rw [e]; omega
      · exact h2 q e
    · rcases h3 with e | ⟨q, hq, e⟩
      · rcases hm.2.2 with f1 | f1
        · exact Or.inl (by rw [e, f1])
        · exact Or.inr ⟨p, by simp, by rw [e, f1]⟩
      · exact Or.inr ⟨q, by simp [hq], e⟩
theorem zero_plc (xs : List Int) : (0 : Int) ∈ plc xs := plc_mem.2 ⟨by decide, Or.inl rfl⟩
theorem two_plc (xs : List Int) : (2 : Int) ∈ plc xs := plc_mem.2 ⟨by decide, Or.inr (Or.inl rfl)⟩
/-- The planes everywhere: the least at the places. -/
theorem pall_iff {xs : List Int} {m : Int} : pall xs = m ↔ (∀ p ∈ plc xs, m ≤ planes xs p) ∧ ∃ p ∈ plc xs, planes xs p = m := by
  obtain ⟨h1, h2, h3⟩ := minL_le (planes xs) (plc xs) xs.length
  have key : ∃ p ∈ plc xs, pall xs = planes xs p := by
    rcases h3 with e | h
    · have h0 := h2 0 (zero_plc xs)
      have hh := planes_half xs 0
      refine ⟨0, zero_plc xs, ?_⟩
      show minL _ _ _ = _
      omega
    · exact h
  obtain ⟨q, hq, e⟩ := key
  constructor
  · intro h
    exact ⟨fun p hp => by have := h2 p hp; rw [← h]; exact this, q, hq, by rw [← e, h]⟩
  · rintro ⟨g1, p, hp, g2⟩
    have a1 := g1 q hq
    have a2 := h2 p hp
    show minL _ _ _ = _
    have : pall xs = minL (planes xs) (plc xs) xs.length := rfl
    omega
theorem pall_le {xs : List Int} {p : Int} (h : p ∈ plc xs) : pall xs ≤ planes xs p := (pall_iff.1 rfl).1 p h
theorem pall_bd (xs : List Int) : 0 ≤ pall xs ∧ 2 * pall xs ≤ xs.length := by
  obtain ⟨h1, p, hp, e⟩ := (pall_iff (xs := xs) (m := pall xs)).1 rfl
  have := planes_half xs p
  omega
theorem planes_van {xs : List Int} {p : Int} : planes xs p > 0 ↔ van xs p = true := by
  have := planes_pos (xs := xs) (p := p)
  rw [← this, decide_eq_true_eq]
theorem bad_nil {xs : List Int} : bad xs = [] ↔ 0 < pall xs := by
  unfold bad
  rw [List.filter_eq_nil_iff]
  constructor
  · intro h
    obtain ⟨_, p, hp, e⟩ := (pall_iff (xs := xs) (m := pall xs)).1 rfl
    have := h p hp
    simp only [Bool.not_eq_true', Bool.not_eq_false] at this
    have := planes_van.2 (by simpa using this)
    omega
  · intro h p hp
    have := pall_le hp
    have := planes_van.1 (show planes xs p > 0 by omega)
    simp [this]
/-- The primes of a product are among the places. -/
theorem prod_place {xs : List Int} (hx : ∀ x ∈ xs, Sm x) {q : Int} (hq : PrimeL q) (hd : q ∣ prod xs) : q ∈ plc xs := by
  obtain ⟨x, hm, h⟩ := (prod_dvd hq xs).1 hd
  exact plc_mem.2 ⟨(prime_sm hq (hx x hm) h).1, Or.inr (Or.inr ⟨x, hm, h⟩)⟩
theorem plc_5000 {xs : List Int} {q : Int} (h : q ∈ plc xs) : q ≤ 5000 := by
  rcases plc_plc h with e | e | e
  · omega
  · omega
  · exact e.2.2
/-- A product of the class of 1 at all places of the form is a square. -/
theorem prod_square {xs : List Int} {n : Int} (hx : ∀ x ∈ xs, Sm x) (hn : n ≠ 0) (hN : n.natAbs < 2 ^ 63) (hd : n.natAbs = (prod xs).natAbs) (h : ∀ p ∈ plc xs, code p n = 0) : ∃ m, m ≠ 0 ∧ n = m * m := by
  refine sq_places hn hN (h 0 (zero_plc xs)) (fun q q1 q2 => ?_)
  have hq := prod_place hx q1 (by rw [← Int.dvd_natAbs, ← hd, Int.dvd_natAbs]; exact q2)
  exact ⟨plc_5000 hq, h q hq⟩
theorem good_t : ∀ p ∈ K4, p ≠ 0 → p ≠ 2 → ∀ c ∈ List.range 2, ∀ d ∈ List.range 2, ∀ e ∈ List.range 2, vanC p [c, d, e] = true ∧ ∀ f ∈ List.range 2, vanC p [c, d, e, f] = true := by decide +kernel
/-- Where the prime does not divide: a class of two. -/
theorem code_good {p x : Int} (h : OddP p) (hx : ¬ p ∣ x) : code p x ∈ List.range 2 := by
  obtain ⟨b, hb, e⟩ := code_bit h x
  have hv := (val_of_not (p := p) (n := x) (fun h0 => hx (Int.dvd_of_tmod_eq_zero h0))).1
  rw [e, hv]
  have : par 0 = 0 := rfl
  rw [this]; simpa using hb
theorem off_plc {xs : List Int} {p : Int} (h : Plc p) (hx : ∀ x ∈ xs, Sm x) (hp : p ∉ plc xs) : OddP p ∧ p ≠ 0 ∧ p ≠ 2 ∧ ∀ x ∈ xs, ¬ p ∣ x := by
  rcases h with e | e | e
  · subst e; exact absurd (zero_plc xs) hp
  · subst e; exact absurd (two_plc xs) hp
  · refine ⟨e, by have := e.2.1; omega, by have := e.2.1; omega, fun x hm hd => hp ?_⟩
    exact plc_mem.2 ⟨(prime_sm e.1 (hx x hm) hd).1, Or.inr (Or.inr ⟨x, hm, hd⟩)⟩
/-- Off its places a form of three terms or four vanishes. -/
theorem good_van {xs : List Int} {p : Int} (h : Plc p) (hx : ∀ x ∈ xs, Sm x) (h3 : 3 ≤ xs.length) (h4 : xs.length ≤ 4) (hp : p ∉ plc xs) : van xs p = true := by
  obtain ⟨ho, h0, h2, hd⟩ := off_plc h hx hp
  have hk := ne_kd h h0
  have hk2 : kd p ≠ 2 := fun e => h2 ((kd_two h).1 e)
  rw [van_code h h0 hx (by omega), vanC_kd h]
  match xs, h3, h4, hd with
  | [a, b, c], _, _, hd =>
    exact (good_t _ (kd_mem p) hk hk2 _ (code_good ho (hd a (by simp))) _ (code_good ho (hd b (by simp))) _ (code_good ho (hd c (by simp)))).1
  | [a, b, c, d], _, _, hd =>
    exact (good_t _ (kd_mem p) hk hk2 _ (code_good ho (hd a (by simp))) _ (code_good ho (hd b (by simp))) _ (code_good ho (hd c (by simp)))).2 _ (code_good ho (hd d (by simp)))
theorem pall_one {xs : List Int} (h : 0 < pall xs) : 2 ≤ xs.length := by
  have := pall_bd xs; omega
/-- A form with planes at all its places vanishes at each place. -/
theorem pall_van {xs : List Int} {p : Int} (h : Plc p) (hx : ∀ x ∈ xs, Sm x) (h4 : xs.length ≤ 4) (hp : 0 < pall xs) : van xs p = true := by
  by_cases hm : p ∈ plc xs
  · have := pall_le hm
    exact planes_van.1 (by omega)
  · have h2 := pall_one hp
    by_cases h3 : 3 ≤ xs.length
    · exact good_van h hx h3 h4 hm
    · match xs, h2, h3 with
      | [a, b], _, _ =>
        have ha := hx a (by simp); have hb := hx b (by simp)
        have hab := mul_sm ha hb
        obtain ⟨ho, h0, _, _⟩ := off_plc h hx hm
        have hc : ∀ q ∈ plc [a, b], code q (-(a * b)) = 0 := by
          intro q hq
          have h1 := pall_le hq
          have hv := planes_van.1 (show planes [a, b] q > 0 by omega)
          by_cases c0 : q = 0
          · subst c0
            rw [van0] at hv
            have hneg : ¬ -(a * b) < 0 := by
              have h1 := ha.1; have h2 := hb.1
              simp only [less, lessF, List.length_cons, List.length_nil] at hv
              rcases Int.lt_or_lt_of_ne h1 with a1 | a1 <;> rcases Int.lt_or_lt_of_ne h2 with b1 | b1
              · simp [a1, b1] at hv
              · have := Int.mul_neg_of_neg_of_pos a1 b1; omega
              · have := Int.mul_neg_of_pos_of_neg a1 b1; omega
              · simp [show ¬ a < 0 by omega, show ¬ b < 0 by omega] at hv
            rw [code0]
            rw [if_neg hneg]
          · unfold van at hv
            rw [if_neg c0, if_pos (by simp), prod2, sq_code, beq_iff_eq] at hv
            exact hv
        obtain ⟨m, m0, e⟩ := prod_square (n := -(a * b)) hx (by omega) (by omega) (by rw [prod2, Int.natAbs_neg]) hc
        unfold van
        rw [if_neg h0, if_pos (by simp), prod2, sq_code, e, code_square h m0 (by rw [← e]; omega)]
        rfl
      | [], h, _ => exact absurd h (by simp)
      | [_], h, _ => exact absurd h (by simp)
      | _ :: _ :: _ :: _, _, h => exact absurd (by simp) h
theorem sq_pos0 {xs : List Int} (hx : ∀ x ∈ xs, Sm x) (h4 : xs.length = 4) (hp : planes xs 0 = 2) : code 0 (prod xs) = 0 := by
  match xs, h4 with
  | [a, b, c, d], _ =>
    have ha := hx a (by simp); have hb := hx b (by simp); have hc := hx c (by simp); have hd := hx d (by simp)
    unfold planes mn at hp
    rw [if_pos rfl] at hp
    simp only [less, lessF, List.length_cons, List.length_nil] at hp
    rw [prod4, code4 (p := 0) (Or.inl rfl) ha hb hc hd, code0, code0, code0, code0]
    by_cases a1 : a < 0 <;> by_cases b1 : b < 0 <;> by_cases c1 : c < 0 <;> by_cases d1 : d < 0 <;> simp [a1, b1, c1, d1] at hp ⊢
/-- At each place there are at least the planes everywhere. -/
theorem pall_planes {xs : List Int} {p : Int} (h : Plc p) (hx : ∀ x ∈ xs, Sm x) (h4 : xs.length ≤ 4) : pall xs ≤ planes xs p := by
  have hb := pall_bd xs
  have hpl := planes_half xs p
  by_cases c0 : 0 < pall xs
  · have hv := pall_van h hx h4 c0
    have hv2 := planes_van.2 hv
    by_cases c1 : pall xs = 1
    · omega
    · have hl : xs.length = 4 := by omega
      have h2 : pall xs = 2 := by omega
      have hb4 := prod_bd4 hx (by omega)
      have hc : ∀ q ∈ plc xs, code q (prod xs) = 0 := by
        intro q hq
        have h1 := pall_le hq
        have h3 := planes_half xs q
        by_cases e : q = 0
        · subst e; exact sq_pos0 hx hl (by omega)
        · have hv := planes_van.1 (show planes xs q > 0 by omega)
          unfold planes at h1
          rw [if_neg e, if_pos hv] at h1
          by_cases c : (xs.length : Int) = 4 ∧ sqAt (prod xs) q = true
          · have := c.2; rw [sq_code, beq_iff_eq] at this; exact this
          · rw [if_neg c] at h1; omega
      by_cases hm : p ∈ plc xs
      · exact pall_le hm
      · obtain ⟨ho, h0, _, _⟩ := off_plc h hx hm
        obtain ⟨m, m0, e⟩ := prod_square (n := prod xs) hx hb4.1 (by omega) rfl hc
        unfold planes
        rw [if_neg h0, if_pos hv, if_pos ⟨by omega, by rw [sq_code, e, code_square h m0 (by rw [← e]; omega)]; rfl⟩]
        omega
  · omega
theorem plc_join {xs : List Int} : plc (xs ++ [1, -1]) = plc xs := by
  unfold plc
  apply List.filter_congr
  intro p hp
  unfold plOf
  rw [List.any_append]
  have t : ∀ p ∈ PP, p ≠ 0 → ([1, -1] : List Int).any (fun x => x % p == 0) = false := by decide
  by_cases c : p = 0
  · simp [c]
  · rw [t p hp c, Bool.or_false]
theorem pall_join {xs : List Int} (hx : ∀ x ∈ xs, Sm x) (h1 : 1 ≤ xs.length) (hl : (xs ++ [1, -1]).length ≤ 4) : pall (xs ++ [1, -1]) = pall xs + 1 := by
  rw [pall_iff, plc_join]
  obtain ⟨g1, q, hq, g2⟩ := (pall_iff (xs := xs) (m := pall xs)).1 rfl
  refine ⟨fun p hp => ?_, q, hq, ?_⟩
  · rw [planes_join (plc_plc hp) hx h1 hl]; have := g1 p hp; omega
  · rw [planes_join (plc_plc hq) hx h1 hl, g2]
theorem qv_app : ∀ (xs vs : List Int) (t d : Int), xs.length = vs.length → qv (xs ++ [t]) (vs ++ [d]) = qv xs vs + t * d * d
  | [], [], t, d, _ => by simp [qv]
  | x :: xs, v :: vs, t, d, h => by
    simp only [List.cons_append, qv, qv_app xs vs t d (by simpa using h)]; omega
/-- What a form represents, it represents at each place. -/
theorem rep_zero {xs vs : List Int} {t d p : Int} (h : Plc p) (hl : xs.length = vs.length) (h4 : xs.length ≤ 4) (hx : ∀ x ∈ xs, Sm x) (ht : Sm t) (hb : ∀ v ∈ vs, v.natAbs ≤ 100000000) (hd : d.natAbs ≤ 100000000) (hd0 : d ≠ 0) (hz : qv xs vs = t * d * d) : rep xs t p = true := by
  have hz2 : qv (xs ++ [-t]) (vs ++ [d]) = 0 := by rw [qv_app xs vs (-t) d hl, hz, Int.neg_mul, Int.neg_mul]; omega
  have hv : ∃ v ∈ vs ++ [d], v ≠ 0 := ⟨d, by simp, hd0⟩
  have hl2 : (xs ++ [-t]).length = (vs ++ [d]).length := by simp [hl]
  have hx2 := sm_app hx (sm_opp ht)
  unfold rep
  by_cases c : (xs.length : Int) = 4 ∧ p ≠ 0
  · rw [if_pos c]
  · rw [if_neg c]
    by_cases c0 : p = 0
    · subst c0; exact zero_van0 hl2 hx2 hz2 hv
    · exact zero_van h hl2 (by simp; omega) hx2 (by intro v hv; rcases List.mem_append.1 hv with e | e; exact hb v e; rw [List.mem_singleton.1 e]; exact hd) hz2 hv
theorem vbad_nil {xs : List Int} {t : Int} (h : ∀ p, Plc p → rep xs t p = true) : vbad xs t = [] := by
  unfold vbad
  rw [List.filter_eq_nil_iff]
  intro p hp
  rw [h p (plc_plc hp)]; simp
def unitV (i : Nat) (n : Nat) : List Int := (List.range n).map (fun k => if k = i then 1 else 0)
theorem qv_zero : ∀ (xs : List Int) (vs : List Int), (∀ v ∈ vs, v = 0) → qv xs vs = 0
  | [], vs, _ => by cases vs <;> rfl
  | x :: xs, [], _ => rfl
  | x :: xs, v :: vs, h => by
    simp only [qv, qv_zero xs vs (fun u hu => h u (by simp [hu])), h v (by simp)]; simp
theorem term_vec : ∀ (xs : List Int) (x : Int), x ∈ xs → ∃ vs, xs.length = vs.length ∧ (∀ v ∈ vs, v.natAbs ≤ 1) ∧ qv xs vs = x
  | [], x, h => by simp at h
  | y :: xs, x, h => by
    by_cases c : x = y
    · refine ⟨1 :: xs.map (fun _ => 0), by simp, ?_, ?_⟩
      · intro v hv
        rcases List.mem_cons.1 hv with e | e
        · rw [e]; decide
        · obtain ⟨_, _, e⟩ := List.mem_map.1 e; rw [← e]; decide
      · simp only [qv]
        rw [qv_zero _ _ (by intro v hv; obtain ⟨_, _, e⟩ := List.mem_map.1 hv; exact e.symm), c]; omega
    · have h2 : x ∈ xs := by
        rcases List.mem_cons.1 h with e | e
        · exact absurd e c
        · exact e
      obtain ⟨vs, v1, v2, v3⟩ := term_vec xs x h2
      refine ⟨0 :: vs, by simp [v1], ?_, by simp only [qv, v3]; omega⟩
      intro v hv
      rcases List.mem_cons.1 hv with e | e
      · rw [e]; decide
      · exact v2 v e
/-- A form represents its terms. -/
theorem rep_term {xs : List Int} {x p : Int} (h : Plc p) (hx : ∀ x ∈ xs, Sm x) (h4 : xs.length ≤ 4) (hm : x ∈ xs) : rep xs x p = true := by
  obtain ⟨vs, v1, v2, v3⟩ := term_vec xs x hm
  exact rep_zero h v1 h4 hx (hx x hm) (fun v hv => by have := v2 v hv; omega) (d := 1) (by decide) (by decide) (by rw [v3]; omega)
theorem prodF_app' (t : Int) : ∀ (xs : List Int) (acc : Int), prodF (xs ++ [t]) acc = prodF xs acc * t
  | [], acc => rfl
  | x :: xs, acc => prodF_app' t xs (acc * x)

end Locg
