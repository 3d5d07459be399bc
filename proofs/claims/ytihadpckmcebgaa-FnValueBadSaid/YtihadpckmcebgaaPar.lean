/- Plain arithmetic: a form of three terms fails to vanish at an even number of places. -/
import Derived.Test.YtihadpckmcebgaaLws
set_option linter.unusedVariables false
set_option linter.unusedSimpArgs false
namespace Locg
open Go.RowKit Go.Proofs.YtihadpckmcebgaaW.PrintWords Go.Proofs.YtihadpckmcebgaaW.PrintMore

def prS (f : Int → Int) : List Int → Int
  | [] => 1
  | p :: ps => f p * prS f ps
theorem prS_mul (f g : Int → Int) : ∀ ps : List Int, prS (fun p => f p * g p) ps = prS f ps * prS g ps
  | [] => rfl
  | p :: ps => by simp only [prS, prS_mul f g ps]; grind
theorem prS_congr {f g : Int → Int} : ∀ ps : List Int, (∀ p ∈ ps, f p = g p) → prS f ps = prS g ps
  | [], _ => rfl
  | p :: ps, h => by simp only [prS, h p (by simp), prS_congr ps (fun q hq => h q (by simp [hq]))]
def small (n : Nat) : Int := if n < 30 then (n : Int) - 30 else (n : Int) - 29
def recip (n : Nat) : Bool := (List.range (n + 1)).all fun m => prS (fun p => sym (small n) (small m) p) PP == 1
theorem recip_t : ∀ n ∈ List.range 60, recip n = true := by decide +kernel
theorem small_of {x : Int} (h : Sm x) : ∃ n, n < 60 ∧ small n = x := by
  have h1 := h.1; have h2 := h.2
  by_cases c : x < 0
  · exact ⟨(x + 30).toNat, by omega, by unfold small; rw [if_pos (by omega)]; omega⟩
  · exact ⟨(x + 29).toNat, by omega, by unfold small; rw [if_neg (by omega)]; omega⟩
/-- The product of the symbols at all places is 1. -/
theorem product {x y : Int} (hx : Sm x) (hy : Sm y) : prS (fun p => sym x y p) PP = 1 := by
  obtain ⟨n, hn, rfl⟩ := small_of hx
  obtain ⟨m, hm, rfl⟩ := small_of hy
  have key : ∀ a b : Nat, a < 60 → b ≤ a → prS (fun p => sym (small a) (small b) p) PP = 1 := by
    intro a b ha hb
    have := recip_t a (by rw [List.mem_range]; exact ha)
    unfold recip at this
    have := List.all_eq_true.1 this b (by rw [List.mem_range]; omega)
    simpa using this
  rcases Nat.le_total m n with h | h
  · exact key n m hn h
  · rw [prS_congr PP (fun p _ => sym_comm (small n) (small m) p)]; exact key m n hm h
def eta (a b c p : Int) : Int := sym b a p * sym c a p * sym c b p * (sym (-1) (-1) p * sym (-1) a p * sym (-1) b p * sym (-1) c p)
theorem sym_mulR {p x a b : Int} (h : Plc p) (hx : x ≠ 0 ∧ x.natAbs < 2 ^ 63) (ha : a ≠ 0 ∧ a.natAbs < 2 ^ 63) (hb : b ≠ 0 ∧ b.natAbs < 2 ^ 63) (hab : (a * b).natAbs < 2 ^ 63) : sym x (a * b) p = sym x a p * sym x b p := by
  rw [sym_comm x (a * b), sym_comm x a, sym_comm x b]
  unfold sym
  rw [code_mul h ha.1 hb.1 hab]
  exact symC_mul' h ha hb hx
theorem pm_eq {a b : Int} (ha : a = 1 ∨ a = -1) (hb : b = 1 ∨ b = -1) : (a == b) = (a * b == 1) := by rcases ha with rfl | rfl <;> rcases hb with rfl | rfl <;> rfl
theorem eta_pm (a b c p : Int) : eta a b c p = 1 ∨ eta a b c p = -1 := by
  unfold eta
  rcases sym_pm b a p with h1 | h1 <;> rcases sym_pm c a p with h2 | h2 <;> rcases sym_pm c b p with h3 | h3 <;> rcases sym_pm (-1) (-1) p with h4 | h4 <;> rcases sym_pm (-1) a p with h5 | h5 <;> rcases sym_pm (-1) b p with h6 | h6 <;> rcases sym_pm (-1) c p with h7 | h7 <;>
    rw [h1, h2, h3, h4, h5, h6, h7] <;> simp
theorem van_eta {a b c p : Int} (h : Plc p) (ha : Sm a) (hb : Sm b) (hc : Sm c) : van [a, b, c] p = (eta a b c p == 1) := by
  have m1 := mul_sm ha hb
  have m2 := mul_sm m1 hc
  have e : -(a * b * c) = (-1) * (a * b * c) := by omega
  have es : sym (-1) (-(a * b * c)) p = sym (-1) (-1) p * sym (-1) a p * sym (-1) b p * sym (-1) c p := by
    rw [e, sym_mulR h (by decide) (by decide) ⟨m2.1, by omega⟩ (by omega), sym_mulR h (by decide) ⟨m1.1, by omega⟩ ⟨hc.1, sm_i hc⟩ (by omega), sym_mulR h (by decide) ⟨ha.1, sm_i ha⟩ ⟨hb.1, sm_i hb⟩ (by omega)]
    grind
  have key : (inv [a, b, c] p == sym (-1) (-(prod [a, b, c])) p) = (eta a b c p == 1) := by
    rw [inv3, prod3, pm_eq (by rcases sym_pm b a p with h1 | h1 <;> rcases sym_pm c a p with h2 | h2 <;> rcases sym_pm c b p with h3 | h3 <;> rw [h1, h2, h3] <;> simp) (sym_pm _ _ _), es]
    rfl
  by_cases c0 : p = 0
  · subst c0
    rw [← key, van0, inv3, prod3, es]
    unfold sym
    rw [code0 a, code0 b, code0 c, code0 (-1)]
    have h1 := ha.1; have h2 := hb.1; have h3 := hc.1
    simp only [less, lessF, List.length_cons, List.length_nil]
    by_cases a1 : a < 0 <;> by_cases b1 : b < 0 <;> by_cases c1 : c < 0 <;> simp [a1, b1, c1, symC]
  · rw [← key]
    unfold van
    rw [if_neg c0, if_neg (by simp), if_pos (by simp)]
theorem prod_eta {a b c : Int} (ha : Sm a) (hb : Sm b) (hc : Sm c) : prS (fun p => eta a b c p) PP = 1 := by
  unfold eta
  rw [prS_mul, prS_mul (fun p => sym b a p * sym c a p), prS_mul (fun p => sym b a p), prS_mul (fun p => sym (-1) (-1) p * sym (-1) a p * sym (-1) b p), prS_mul (fun p => sym (-1) (-1) p * sym (-1) a p), prS_mul (fun p => sym (-1) (-1) p)]
  rw [product hb ha, product hc ha, product hc hb, product smm1 smm1, product smm1 ha, product smm1 hb, product smm1 hc]
  rfl
theorem parity (f : Int → Int) : ∀ ps : List Int, (∀ p ∈ ps, f p = 1 ∨ f p = -1) → prS f ps = (if (ps.filter (fun p => !(f p == 1))).length % 2 = 0 then 1 else -1)
  | [], _ => rfl
  | p :: ps, h => by
    have ih := parity f ps (fun q hq => h q (by simp [hq]))
    simp only [prS, ih]
    rcases h p (by simp) with e | e
    · rw [List.filter_cons_of_neg (by simp [e]), e]; simp
    · rw [List.filter_cons_of_pos (by simp [e]), e, List.length_cons]
      split <;> split <;> omega
theorem plc_opp (xs : List Int) (t : Int) : plc (xs ++ [-t]) = plc (xs ++ [t]) := by
  unfold plc
  apply List.filter_congr
  intro p hp
  unfold plOf
  rw [List.any_append, List.any_append]
  have : ∀ y : Int, (y % p == 0) = decide (p ∣ y) := by
    intro y
    rw [Bool.eq_iff_iff]; simp [Int.dvd_iff_emod_eq_zero]
  simp only [List.any_cons, List.any_nil, Bool.or_false, this, Int.dvd_neg]
/-- Two terms fail to represent a number at an even number of places. -/
theorem vbad_even {a b t : Int} (ha : Sm a) (hb : Sm b) (ht : Sm t) : (vbad [a, b] t).length % 2 = 0 := by
  have ht2 := sm_opp ht
  have hx : ∀ x ∈ [a, b, -t], Sm x := by intro x hx; simp only [List.mem_cons, List.not_mem_nil, or_false] at hx; rcases hx with rfl | rfl | rfl; exact ha; exact hb; exact ht2
  have e : vbad [a, b] t = PP.filter (fun p => !(eta a b (-t) p == 1)) := by
    have e1 : vbad [a, b] t = (plc [a, b, -t]).filter (fun p => !(eta a b (-t) p == 1)) := by
      unfold vbad
      rw [← plc_opp]
      apply List.filter_congr
      intro p hp
      rw [← van_eta (plc_plc hp) ha hb ht2]
      unfold rep
      rw [if_neg (by simp)]; rfl
    rw [e1]
    unfold plc
    rw [List.filter_filter]
    apply List.filter_congr
    intro p hp
    by_cases c : plOf [a, b, -t] p = true
    · rw [c, Bool.and_true]
    · have hn : p ∉ plc [a, b, -t] := by unfold plc; rw [List.mem_filter]; exact fun h => c h.2
      have := good_van (PP_plc hp) hx (by simp) (by simp) hn
      rw [van_eta (PP_plc hp) ha hb ht2] at this
      rw [this, Bool.eq_false_iff.2 c]; rfl
  rw [e]
  have h1 := prod_eta ha hb ht2
  rw [parity _ PP (fun p _ => eta_pm _ _ _ p)] at h1
  by_cases c : (PP.filter (fun p => !(eta a b (-t) p == 1))).length % 2 = 0
  · exact c
  · rw [if_neg c] at h1; omega

end Locg
