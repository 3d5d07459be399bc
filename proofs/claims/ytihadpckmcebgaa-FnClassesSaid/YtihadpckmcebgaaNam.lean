/- Plain arithmetic: the classes that a form represents at a place. -/
import Derived.Test.YtihadpckmcebgaaRep
set_option linter.unusedVariables false
set_option linter.unusedSimpArgs false
namespace Locg
open Go.RowKit Go.Proofs.YtihadpckmcebgaaW.PrintWords Go.Proofs.YtihadpckmcebgaaW.PrintMore

def nr (p : Int) : Int := if p = 7 then 3 else if p = 97 then 5 else 2
def names (p : Int) : List Int := if p = 0 then [1, -1] else if p = 2 then [1, 3, 5, 7, 2, 6, 10, 14] else [1, nr p, p, p * nr p]
def clsL (xs : List Int) (p : Int) : List Int := (names p).filter (fun t => tOk t && rep xs t p)
theorem nr_tab : ∀ p ∈ P6, 2 ≤ nr p ∧ nr p ≤ 5 ∧ res p (nr p) = -1 ∧ (∀ y ∈ List.range 5, 2 ≤ y → (y : Int) < nr p → res p (y : Int) = 1) ∧ (names p).map (code p) = [0, 1, 2, 3] ∧ (names p).length = 4 ∧ 3 ≤ p := by decide +kernel
theorem names_tab : ∀ p ∈ P8, (names p).length ≤ 8 ∧ ∀ t ∈ names p, t ≠ 0 ∧ t.natAbs ≤ 1000 := by decide +kernel
theorem up2_tab : ∀ p ∈ P8, p ≠ 0 → ∀ c ∈ List.range (nC p), ∀ d ∈ List.range (nC p), ∀ f ∈ List.range (nC p), vanC p [c, d] = true → vanC p [c, d, f] = true := by decide +kernel
theorem up3_tab : ∀ p ∈ P8, p ≠ 0 → ∀ c ∈ List.range (nC p), ∀ d ∈ List.range (nC p), ∀ e ∈ List.range (nC p), ∀ f ∈ List.range (nC p), vanC p [c, d, e] = true → vanC p [c, d, e, f] = true := by decide +kernel
theorem three_tab : ∀ p ∈ P6, ∀ c ∈ List.range 4, ∀ d ∈ List.range 4, ∀ e ∈ List.range 4, (([0, 1, 2, 3] : List Nat).filter (fun f => vanC p [c, d, e, mC p ^^^ f])).length ≥ 3 := by decide +kernel
/-- A form that vanishes represents all. -/
theorem van_rep {xs : List Int} {t p : Int} (h : p ∈ P8) (hx : ∀ x ∈ xs, Sm x) (hl : xs.length ≤ 4) (ht : Sm t) (hv : van xs p = true) : rep xs t p = true := by
  unfold rep
  by_cases c : (xs.length : Int) = 4 ∧ p ≠ 0
  · rw [if_pos c]
  · rw [if_neg c]
    by_cases c0 : p = 0
    · subst c0
      rw [van0] at hv ⊢
      rw [less_app]
      simp only [List.length_append, List.length_cons, List.length_nil, Bool.and_eq_true, decide_eq_true_eq] at hv ⊢
      split <;> omega
    · have h2 := van_len c0 hv
      have ht2 := sm_opp ht
      rw [van_code h c0 (sm_app hx ht2) (by simp; omega)]
      rw [van_code h c0 hx (by omega)] at hv
      match xs, hx, h2, hl, c, hv with
      | [a, b], hx, _, _, _, hv =>
        have ha := hx a (by simp); have hb := hx b (by simp)
        exact up2_tab p h c0 _ (code_in ha.1 (sm_i ha)) _ (code_in hb.1 (sm_i hb)) _ (code_in ht2.1 (sm_i ht2)) hv
      | [a, b, d], hx, _, _, _, hv =>
        have ha := hx a (by simp); have hb := hx b (by simp); have hd := hx d (by simp)
        exact up3_tab p h c0 _ (code_in ha.1 (sm_i ha)) _ (code_in hb.1 (sm_i hb)) _ (code_in hd.1 (sm_i hd)) _ (code_in ht2.1 (sm_i ht2)) hv
      | [a, b, d, e], _, _, _, c, _ => exact absurd ⟨rfl, c0⟩ c
      | _ :: _ :: _ :: _ :: _ :: _, _, _, hl, _, _ => exfalso; simp only [List.length_cons] at hl; omega
theorem cls_full {xs : List Int} {p : Int} (hall : ∀ t ∈ names p, Sm t) (hr : ∀ t ∈ names p, rep xs t p = true) : clsL xs p = names p := by
  unfold clsL
  apply List.filter_eq_self.2
  intro t ht
  rw [tOk_iff.2 (hall t ht), hr t ht]; rfl
theorem cls_end {xs : List Int} {p : Int} (h : p ∈ P8) (hx : ∀ x ∈ xs, Sm x) (hl : xs.length ≤ 4) (hall : ∀ t ∈ names p, Sm t) :
    (planes xs p = 0 ∨ (clsL xs p).length = (names p).length) ∧ (xs.length < 3 ∨ p < 3 ∨ (clsL xs p).length ≥ 3) := by
  refine ⟨?_, ?_⟩
  · by_cases cv : van xs p = true
    · right
      rw [cls_full hall (fun t ht => van_rep h hx hl (hall t ht) cv)]
    · left
      have hp := planes_pos (xs := xs) (p := p)
      rw [Bool.eq_false_iff.2 cv, decide_eq_false_iff_not] at hp
      have := (planes_half xs p).1
      omega
  · by_cases c1 : xs.length < 3
    · exact Or.inl c1
    · by_cases c2 : p < 3
      · exact Or.inr (Or.inl c2)
      · refine Or.inr (Or.inr ?_)
        have h6 : p ∈ P6 := by
          rcases List.mem_cons.1 h with h | h
          · omega
          · rcases List.mem_cons.1 h with h | h
            · omega
            · exact h
        have ht := nr_tab p h6
        have c0 : p ≠ 0 := by omega
        by_cases c4 : xs.length = 4
        · rw [cls_full hall (fun t _ => by unfold rep; rw [if_pos ⟨by omega, c0⟩]), ht.2.2.2.2.2.1]; omega
        · obtain ⟨a, b, d, rfl⟩ : ∃ a b d, xs = [a, b, d] := by
            match xs, c1, c4, hl with
            | [a, b, d], _, _, _ => exact ⟨a, b, d, rfl⟩
            | [], h, _, _ => exact absurd (by simp) h
            | [_], h, _, _ => exact absurd (by simp) h
            | [_, _], h, _, _ => exact absurd (by simp) h
            | [_, _, _, _], _, h, _ => exact absurd rfl h
            | _ :: _ :: _ :: _ :: _ :: _, _, _, h => exfalso; simp only [List.length_cons] at h; omega
          have ha := hx a (by simp); have hb := hx b (by simp); have hd := hx d (by simp)
          have e1 : clsL [a, b, d] p = (names p).filter ((fun f => vanC p [code p a, code p b, code p d, mC p ^^^ f]) ∘ code p) := by
            unfold clsL
            apply List.filter_congr
            intro t hn
            have hst := hall t hn
            rw [tOk_iff.2 hst, Bool.true_and]
            unfold rep
            rw [if_neg (by simp), van_code h c0 (sm_app hx (sm_opp hst)) (by simp)]
            simp only [List.cons_append, List.nil_append, List.map, Function.comp]
            rw [code_opp h hst.1 (sm_i hst)]
          have e2 := congrArg List.length (List.filter_map (f := code p) (p := fun f => vanC p [code p a, code p b, code p d, mC p ^^^ f]) (l := names p))
          rw [List.length_map, ht.2.2.2.2.1, ← e1] at e2
          have hn : nC p = 4 := by unfold nC; rw [if_neg (by omega)]
          have q1 := code_in (p := p) ha.1 (sm_i ha)
          have q2 := code_in (p := p) hb.1 (sm_i hb)
          have q3 := code_in (p := p) hd.1 (sm_i hd)
          rw [hn] at q1 q2 q3
          have := three_tab p h6 _ q1 _ q2 _ q3
          omega

end Locg
