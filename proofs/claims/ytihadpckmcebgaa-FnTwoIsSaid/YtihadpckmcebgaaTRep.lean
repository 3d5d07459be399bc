/- Plain arithmetic: numbers that a form represents at a place. -/
import Derived.Test.YtihadpckmcebgaaTCls
set_option linter.unusedVariables false
set_option linter.unusedSimpArgs false
namespace Locg
open Go.RowKit Go.Proofs.YtihadpckmcebgaaW.PrintWords Go.Proofs.YtihadpckmcebgaaW.PrintMore

def rep (xs : List Int) (t p : Int) : Bool := if (xs.length : Int) = 4 ∧ p ≠ 0 then true else van (xs ++ [-t]) p
def tOk (t : Int) : Bool := decide (t ≠ 0) && decide (t.natAbs ≤ 30)
theorem tOk_iff {t : Int} : tOk t = true ↔ Sm t := by simp [tOk, Sm]
theorem sm_opp {t : Int} (h : Sm t) : Sm (-t) := by unfold Sm at h ⊢; omega
theorem sm_app {xs : List Int} {t : Int} (hx : ∀ x ∈ xs, Sm x) (ht : Sm t) : ∀ x ∈ xs ++ [t], Sm x := by
  intro x h
  rcases List.mem_append.1 h with h | h
  · exact hx x h
  · rw [List.mem_singleton.1 h]; exact ht
theorem less_app (xs : List Int) (t : Int) : less (xs ++ [t]) = less xs + (if t < 0 then 1 else 0) := by
  have : ∀ (ys : List Int) (acc : Int), lessF (ys ++ [t]) acc = lessF ys acc + (if t < 0 then 1 else 0) := by
    intro ys
    induction ys with
    | nil => intro acc; simp only [List.nil_append, lessF]; split <;> omega
    | cons y ys ih => intro acc; simp only [List.cons_append, lessF]; exact ih _
  exact this xs 0
theorem van0 (xs : List Int) : van xs 0 = (decide (less xs > 0) && decide (less xs < (xs.length : Int))) := by unfold van; rw [if_pos rfl]
theorem code0 (n : Int) : code 0 n = if n < 0 then 1 else 0 := by unfold code; rw [if_pos rfl]
/-- Only the class counts. -/
theorem rep_congr {xs : List Int} {t t' p : Int} (h : Plc p) (hx : ∀ x ∈ xs, Sm x) (hl : xs.length ≤ 4) (ht : Sm t) (ht' : Sm t') (e : code p t = code p t') : rep xs t p = rep xs t' p := by
  unfold rep
  by_cases c : (xs.length : Int) = 4 ∧ p ≠ 0
  · rw [if_pos c, if_pos c]
  · rw [if_neg c, if_neg c]
    by_cases c0 : p = 0
    · subst c0
      rw [code0, code0] at e
      have h1 := ht.1; have h2 := ht'.1
      have e2 : (if -t < 0 then (1 : Int) else 0) = (if -t' < 0 then 1 else 0) := by
        split at e <;> split at e <;> split <;> split <;> omega
      rw [van0, van0, less_app, less_app, e2]
      simp
    · rw [van_code h c0 (sm_app hx (sm_opp ht)) (by simp; omega), van_code h c0 (sm_app hx (sm_opp ht')) (by simp; omega)]
      simp only [List.map_append, List.map]
      rw [code_opp h ht.1 (sm_i ht), code_opp h ht'.1 (sm_i ht'), e]
theorem code_sq {p t k : Int} (h : Plc p) (ht : Sm t) (hk : 1 ≤ k) (hK : k ≤ 4) : code p (t * k * k) = code p t := by
  have hks : Sm k := by unfold Sm; omega
  rw [code3 h ht hks hks, Nat.xor_assoc, Nat.xor_self, Nat.xor_zero]
/-- One term: the same class. -/
theorem rep_one {a t p : Int} (h : Plc p) (ha : Sm a) (ht : Sm t) (hr : rep [a] t p = true) : sqAt (a * t) p = true := by
  unfold rep at hr
  rw [if_neg (by simp)] at hr
  by_cases c0 : p = 0
  · subst c0
    have h1 := ha.1; have h2 := ht.1
    rw [van0] at hr
    simp only [List.cons_append, List.nil_append, less, lessF, List.length_cons, List.length_nil, Bool.and_eq_true, decide_eq_true_eq] at hr
    rw [code_zero (Int.mul_ne_zero h1 h2)]
    apply decide_eq_true
    rcases Int.lt_or_lt_of_ne h1 with h3 | h3
    · rcases Int.lt_or_lt_of_ne h2 with h4 | h4
      · exact Int.mul_pos_of_neg_of_neg h3 h4
      · rw [if_pos h3, if_pos (by omega)] at hr; omega
    · rcases Int.lt_or_lt_of_ne h2 with h4 | h4
      · rw [if_neg (by omega), if_neg (by omega)] at hr; omega
      · exact Int.mul_pos h3 h4
  · have e : -(prod [a, -t]) = a * t := by rw [prod2, Int.mul_neg]; omega
    have v2 : van [a, -t] p = sqAt (-(prod [a, -t])) p := by unfold van; rw [if_neg c0, if_pos (by simp)]
    simp only [List.cons_append, List.nil_append] at hr
    rw [v2, e] at hr; exact hr
theorem app1_t : ∀ p ∈ K4, p ≠ 0 → ∀ c ∈ List.range (nC p), ∀ e ∈ List.range (nC p), ∀ f ∈ List.range (nC p), vanC p [c, f] = true → vanC p [c, e, f] = true := by decide +kernel
theorem app1_tab (p : Int) (h : Plc p) (h0 : p ≠ 0) (c : Nat) (hc : c ∈ List.range (nC p)) (e : Nat) (he : e ∈ List.range (nC p)) (f : Nat) (hf : f ∈ List.range (nC p)) (hv : vanC p [c, f] = true) : vanC p [c, e, f] = true := by
  rw [nC_kd h] at hc he hf; rw [vanC_kd h] at hv ⊢; exact app1_t _ (kd_mem p) (fun e => h0 ((kd_zero h).1 e)) c hc e he f hf hv
theorem app2_t : ∀ p ∈ K4, p ≠ 0 → ∀ c ∈ List.range (nC p), ∀ d ∈ List.range (nC p), ∀ e ∈ List.range (nC p), ∀ f ∈ List.range (nC p), vanC p [c, d, f] = true → vanC p [c, d, e, f] = true := by decide +kernel
theorem app2_tab (p : Int) (h : Plc p) (h0 : p ≠ 0) (c : Nat) (hc : c ∈ List.range (nC p)) (d : Nat) (hd : d ∈ List.range (nC p)) (e : Nat) (he : e ∈ List.range (nC p)) (f : Nat) (hf : f ∈ List.range (nC p)) (hv : vanC p [c, d, f] = true) : vanC p [c, d, e, f] = true := by
  rw [nC_kd h] at hc hd he hf; rw [vanC_kd h] at hv ⊢; exact app2_t _ (kd_mem p) (fun e => h0 ((kd_zero h).1 e)) c hc d hd e he f hf hv
/-- One more term. -/
theorem rep_more {xs : List Int} {s t p : Int} (h : Plc p) (hx : ∀ x ∈ xs, Sm x) (h1 : 1 ≤ xs.length) (hs : Sm s) (hs0 : 0 < s) (hl : (xs ++ [s]).length ≤ 4) (ht : Sm t) (hr : rep xs t p = true) : rep (xs ++ [s]) t p = true := by
  rw [List.length_append] at hl
  simp only [List.length_cons, List.length_nil] at hl
  unfold rep at hr ⊢
  rw [if_neg (by omega)] at hr
  by_cases c : (((xs ++ [s]).length : Nat) : Int) = 4 ∧ p ≠ 0
  · rw [if_pos c]
  · rw [if_neg c]
    by_cases c0 : p = 0
    · subst c0
      have hb := less_bd xs
      rw [van0, less_app] at hr ⊢
      rw [less_app, if_neg (by omega)]
      simp only [List.length_append, List.length_cons, List.length_nil, Bool.and_eq_true, decide_eq_true_eq] at hr ⊢
      omega
    · rw [van_code h c0 (sm_app (sm_app hx hs) (sm_opp ht)) (by simp; omega)]
      rw [van_code h c0 (sm_app hx (sm_opp ht)) (by simp; omega)] at hr
      have ht2 := sm_opp ht
      match xs, hx, h1, hl, c, hr with
      | [a], hx, _, _, _, hr =>
        have ha := hx a (by simp)
        exact app1_tab p h c0 _ (code_in ha.1 (sm_i ha)) _ (code_in hs.1 (sm_i hs)) _ (code_in ht2.1 (sm_i ht2)) hr
      | [a, b], hx, _, _, _, hr =>
        have ha := hx a (by simp); have hb := hx b (by simp)
        exact app2_tab p h c0 _ (code_in ha.1 (sm_i ha)) _ (code_in hb.1 (sm_i hb)) _ (code_in hs.1 (sm_i hs)) _ (code_in ht2.1 (sm_i ht2)) hr
      | [a, b, d], hx, _, _, c, hr => exact absurd ⟨rfl, c0⟩ c
      | _ :: _ :: _ :: _ :: _, _, _, hl, _, _ => exfalso; simp only [List.length_cons] at hl; omega

theorem up2_t : ∀ p ∈ K4, p ≠ 0 → ∀ c ∈ List.range (nC p), ∀ d ∈ List.range (nC p), ∀ f ∈ List.range (nC p), vanC p [c, d] = true → vanC p [c, d, f] = true := by decide +kernel
theorem up2_tab (p : Int) (h : Plc p) (h0 : p ≠ 0) (c : Nat) (hc : c ∈ List.range (nC p)) (d : Nat) (hd : d ∈ List.range (nC p)) (f : Nat) (hf : f ∈ List.range (nC p)) (hv : vanC p [c, d] = true) : vanC p [c, d, f] = true := by
  rw [nC_kd h] at hc hd hf; rw [vanC_kd h] at hv ⊢; exact up2_t _ (kd_mem p) (fun e => h0 ((kd_zero h).1 e)) c hc d hd f hf hv
theorem up3_t : ∀ p ∈ K4, p ≠ 0 → ∀ c ∈ List.range (nC p), ∀ d ∈ List.range (nC p), ∀ e ∈ List.range (nC p), ∀ f ∈ List.range (nC p), vanC p [c, d, e] = true → vanC p [c, d, e, f] = true := by decide +kernel
theorem up3_tab (p : Int) (h : Plc p) (h0 : p ≠ 0) (c : Nat) (hc : c ∈ List.range (nC p)) (d : Nat) (hd : d ∈ List.range (nC p)) (e : Nat) (he : e ∈ List.range (nC p)) (f : Nat) (hf : f ∈ List.range (nC p)) (hv : vanC p [c, d, e] = true) : vanC p [c, d, e, f] = true := by
  rw [nC_kd h] at hc hd he hf; rw [vanC_kd h] at hv ⊢; exact up3_t _ (kd_mem p) (fun e => h0 ((kd_zero h).1 e)) c hc d hd e he f hf hv
/-- A form that vanishes represents all. -/
theorem van_rep {xs : List Int} {t p : Int} (h : Plc p) (hx : ∀ x ∈ xs, Sm x) (hl : xs.length ≤ 4) (ht : Sm t) (hv : van xs p = true) : rep xs t p = true := by
  unfold rep
  by_cases c : (xs.length : Int) = 4 ∧ p ≠ 0
  · rw [if_pos c]
  · rw [if_neg c]
    by_cases c0 : p = 0
    · subst c0
      rw [van0] at hv ⊢
      rw [less_app]
      simp only [List.length_append, List.length_cons, List.length_nil, Bool.and_eq_true, decide_eq_true_eq] at hv ⊢
      split <;> omega
    · have h2 := van_len c0 hv
      have ht2 := sm_opp ht
      rw [van_code h c0 (sm_app hx ht2) (by simp; omega)]
      rw [van_code h c0 hx (by omega)] at hv
      match xs, hx, h2, hl, c, hv with
      | [a, b], hx, _, _, _, hv =>
        have ha := hx a (by simp); have hb := hx b (by simp)
        exact up2_tab p h c0 _ (code_in ha.1 (sm_i ha)) _ (code_in hb.1 (sm_i hb)) _ (code_in ht2.1 (sm_i ht2)) hv
      | [a, b, d], hx, _, _, _, hv =>
        have ha := hx a (by simp); have hb := hx b (by simp); have hd := hx d (by simp)
        exact up3_tab p h c0 _ (code_in ha.1 (sm_i ha)) _ (code_in hb.1 (sm_i hb)) _ (code_in hd.1 (sm_i hd)) _ (code_in ht2.1 (sm_i ht2)) hv
      | [a, b, d, e], _, _, _, c, _ => exact absurd ⟨rfl, c0⟩ c
      | _ :: _ :: _ :: _ :: _ :: _, _, _, hl, _, _ => exfalso; simp only [List.length_cons] at hl; omega

end Locg
