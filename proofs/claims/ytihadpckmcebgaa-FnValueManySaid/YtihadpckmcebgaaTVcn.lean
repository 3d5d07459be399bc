/- Plain arithmetic: vectors up to a size, counted. -/
import Derived.Test.YtihadpckmcebgaaTPlain
set_option linter.unusedVariables false
set_option linter.unusedSimpArgs false
namespace Locg
open Go.RowKit

def sumF (g : Int → Int) : Nat → Int → Int
  | 0, _ => 0
  | m + 1, x => g x + sumF g m (x + 1)
theorem sumF_app (g : Int → Int) : ∀ (a b : Nat) (x : Int), sumF g (a + b) x = sumF g a x + sumF g b (x + a)
  | 0, b, x => by simp [sumF]
  | a + 1, b, x => by
    rw [show a + 1 + b = (a + b) + 1 from by omega]
    simp only [sumF]
    rw [sumF_app g a b (x + 1), show x + 1 + (a : Int) = x + ((a + 1 : Nat) : Int) from by omega]
    omega
theorem sumF_le {g h : Int → Int} : ∀ (m : Nat) (x : Int), (∀ y, x ≤ y → y < x + m → g y ≤ h y) → sumF g m x ≤ sumF h m x
  | 0, x, _ => Int.le_refl _
  | m + 1, x, H => by
    have h1 := H x (by omega) (by omega)
    have h2 := sumF_le m (x + 1) (fun y a b => H y (by omega) (by omega))
    simp only [sumF]; omega
theorem sumF_eq {g h : Int → Int} (m : Nat) (x : Int) (H : ∀ y, x ≤ y → y < x + m → g y = h y) : sumF g m x = sumF h m x :=
  Int.le_antisymm (sumF_le m x (fun y a b => Int.le_of_eq (H y a b))) (sumF_le m x (fun y a b => Int.le_of_eq (H y a b).symm))
theorem sumF_zero (m : Nat) (x : Int) : sumF (fun _ => 0) m x = 0 := by
  induction m generalizing x with
  | zero => rfl
  | succ m ih => simp only [sumF, ih]; rfl
theorem sumF_nonneg {g : Int → Int} (m : Nat) (x : Int) (H : ∀ y, 0 ≤ g y) : 0 ≤ sumF g m x := by
  have := sumF_le (g := fun _ => 0) (h := g) m x (fun y _ _ => H y)
  rwa [sumF_zero] at this
theorem sumF_some {g : Int → Int} : ∀ (m : Nat) (x : Int), 0 < sumF g m x → ∃ y, x ≤ y ∧ y < x + m ∧ 0 < g y
  | 0, x, h => by simp [sumF] at h
  | m + 1, x, h => by
    simp only [sumF] at h
    by_cases c : 0 < g x
    · exact ⟨x, by omega, by omega, c⟩
    · obtain ⟨y, h1, h2, h3⟩ := sumF_some (g := g) m (x + 1) (by omega)
      exact ⟨y, by omega, by omega, h3⟩
theorem sumF_last (g : Int → Int) (m : Nat) (x : Int) : sumF g (m + 1) x = sumF g m x + g (x + m) := by
  rw [sumF_app g m 1 x]; simp [sumF]
/-- From -n to n. -/
theorem sumF_both (g : Int → Int) (n : Nat) : sumF g (2 * n + 1) (-(n : Int)) = sumF g n (-(n : Int)) + g 0 + sumF g n 1 := by
  rw [show 2 * n + 1 = n + (n + 1) from by omega, sumF_app]
  simp only [sumF]
  rw [show -(n : Int) + (n : Int) = 0 from by omega]
  simp only [Int.zero_add]; omega
theorem sumF_even (g : Int → Int) (he : ∀ x, g (-x) = g x) : ∀ n : Nat, sumF g n (-(n : Int)) = sumF g n 1
  | 0 => rfl
  | n + 1 => by
    rw [sumF_last g n 1]
    simp only [sumF]
    have := sumF_even g he n
    rw [show -((n + 1 : Nat) : Int) + 1 = -(n : Int) from by omega, this, he, show ((n + 1 : Nat) : Int) = 1 + (n : Int) from by omega]
    omega
theorem sumF_wider {g : Int → Int} (H : ∀ y, 0 ≤ g y) (n : Nat) : sumF g (2 * n + 1) (-(n : Int)) ≤ sumF g (2 * (n + 1) + 1) (-((n + 1 : Nat) : Int)) := by
  rw [show 2 * (n + 1) + 1 = (2 * n + 1 + 1) + 1 from by omega, sumF_last g (2 * n + 1 + 1)]
  simp only [sumF]
  rw [show -((n + 1 : Nat) : Int) + 1 = -(n : Int) from by omega]
  have h1 := H (-((n + 1 : Nat) : Int))
  have h2 := H (-((n + 1 : Nat) : Int) + ((2 * n + 1 + 1 : Nat) : Int))
  have h3 : sumF g (2 * n + 1) (-(n : Int)) = g (-(n : Int)) + sumF g (2 * n) (-(n : Int) + 1) := rfl
  omega
/-- The vectors that go on from v by d integers of size at most n and fulfil P. -/
def cntV (P : List Int → Bool) (n : Nat) : Nat → List Int → Int
  | 0, v => if P v = true then 1 else 0
  | d + 1, v => sumF (fun x => cntV P n d (v ++ [x])) (2 * n + 1) (-(n : Int))
theorem cntV_nonneg (P : List Int → Bool) (n : Nat) : ∀ (d : Nat) (v : List Int), 0 ≤ cntV P n d v
  | 0, v => by simp only [cntV]; split <;> omega
  | d + 1, v => sumF_nonneg _ _ (fun y => cntV_nonneg P n d _)
theorem cntV_wider (P : List Int → Bool) (n : Nat) : ∀ (d : Nat) (v : List Int), cntV P n d v ≤ cntV P (n + 1) d v
  | 0, v => Int.le_refl _
  | d + 1, v => Int.le_trans (sumF_le _ _ (fun y _ _ => cntV_wider P n d _)) (sumF_wider (fun y => cntV_nonneg P (n + 1) d _) n)
theorem cntV_le {P Q : List Int → Bool} (n : Nat) : ∀ (d : Nat) (v : List Int), (∀ u, u.length = v.length + d → P u = true → Q u = true) → cntV P n d v ≤ cntV Q n d v
  | 0, v, h => by
    simp only [cntV]
    by_cases c : P v = true
    · rw [if_pos c, if_pos (h v rfl c)]; exact Int.le_refl _
    · rw [if_neg c]; split <;> omega
  | d + 1, v, h => sumF_le _ _ (fun y _ _ => cntV_le n d _ (fun u hu => h u (by simp at hu; omega)))
theorem cntV_eq {P Q : List Int → Bool} (n d : Nat) (v : List Int) (h : ∀ u, u.length = v.length + d → P u = Q u) : cntV P n d v = cntV Q n d v :=
  Int.le_antisymm (cntV_le n d v (fun u hu hp => by rw [← h u hu]; exact hp)) (cntV_le n d v (fun u hu hp => by rw [h u hu]; exact hp))
theorem cntV_some {P : List Int → Bool} {n : Nat} : ∀ (d : Nat) (v : List Int), (∀ x ∈ v, x.natAbs ≤ n) → 0 < cntV P n d v → ∃ u, u.length = v.length + d ∧ (∀ x ∈ u, x.natAbs ≤ n) ∧ P u = true
  | 0, v, hv, h => by
    simp only [cntV] at h
    by_cases c : P v = true
    · exact ⟨v, rfl, hv, c⟩
    · rw [if_neg c] at h; omega
  | d + 1, v, hv, h => by
    obtain ⟨y, h1, h2, h3⟩ := sumF_some _ _ h
    obtain ⟨u, h4, h5, h6⟩ := cntV_some d (v ++ [y]) (by intro x hx; rcases List.mem_append.1 hx with e | e; exact hv x e; rw [List.mem_singleton.1 e]; omega) h3
    exact ⟨u, by rw [h4]; simp; omega, h5, h6⟩
theorem cntV_bd (P : List Int → Bool) (n : Nat) : ∀ (d : Nat) (v : List Int), cntV P n d v ≤ ((2 * n + 1) ^ d : Nat)
  | 0, v => by simp only [cntV, Nat.pow_zero]; split <;> omega
  | d + 1, v => by
    have h : ∀ (m : Nat) (x : Int), sumF (fun _ => (((2 * n + 1) ^ d : Nat) : Int)) m x = ((m * (2 * n + 1) ^ d : Nat) : Int) := by
      intro m
      induction m with
      | zero => intro x; simp [sumF]
      | succ m ih => intro x; simp only [sumF, ih]; rw [Nat.add_mul, Nat.one_mul]; omega
    have := sumF_le (g := fun x => cntV P n d (v ++ [x])) (h := fun _ => (((2 * n + 1) ^ d : Nat) : Int)) (2 * n + 1) (-(n : Int)) (fun y _ _ => cntV_bd P n d _)
    rw [h] at this
    rw [Nat.pow_succ, Nat.mul_comm]
    exact this
/-- The vectors at which a form has a value. -/
def cq (n : Nat) : List Int → Int → Int
  | [], t => if t = 0 then 1 else 0
  | a :: f, t => sumF (fun x => cq n f (t - a * x * x)) (2 * n + 1) (-(n : Int))
theorem qv_snoc : ∀ (f v : List Int) (a x : Int), f.length = v.length → qv (f ++ [a]) (v ++ [x]) = qv f v + a * x * x := fun f v a x h => qv_app f v a x h
theorem cntV_cq (n : Nat) (t : Int) : ∀ (f pre v : List Int), pre.length = v.length → cntV (fun u => qv (pre ++ f) u == t) n f.length v = cq n f (t - qv pre v)
  | [], pre, v, h => by
    simp only [List.length_nil, cntV, cq, List.append_nil]
    by_cases c : qv pre v = t
    · rw [if_pos (by rw [beq_iff_eq]; exact c), if_pos (by omega)]
    · rw [if_neg (by rw [beq_iff_eq]; exact c), if_neg (by omega)]
  | a :: f, pre, v, h => by
    simp only [List.length_cons, cntV, cq]
    apply sumF_eq
    intro x _ _
    have := cntV_cq n t f (pre ++ [a]) (v ++ [x]) (by simp [h])
    rw [List.append_assoc, List.singleton_append] at this
    rw [this, qv_snoc pre v a x h]
    congr 1; omega
theorem cntV_form (n : Nat) (t : Int) (f : List Int) : cntV (fun u => qv f u == t) n f.length [] = cq n f t := by
  have := cntV_cq n t f [] [] rfl
  rw [List.nil_append] at this
  rw [this]; simp [qv]
/-- Half of them: the first integer that is not 0 is greater than 0. -/
def po (n : Nat) : List Int → Int → Int
  | [], _ => 0
  | a :: f, t => sumF (fun x => cq n f (t - a * x * x)) n 1 + po n f t
theorem cq_po (n : Nat) : ∀ (f : List Int) (t : Int), cq n f t = 2 * po n f t + (if t = 0 then 1 else 0)
  | [], t => by simp [cq, po]
  | a :: f, t => by
    simp only [cq, po]
    rw [sumF_both, sumF_even (fun x => cq n f (t - a * x * x)) (fun x => by
      have : a * -x * -x = a * x * x := by grind
      simp only [this]) n]
    have := cq_po n f t
    simp only [Int.mul_zero, Int.sub_zero]
    omega
def fp : List Int → Bool
  | [] => false
  | x :: xs => if x = 0 then fp xs else decide (0 < x)
theorem fp_app : ∀ (v u : List Int), fp (v ++ u) = (if v.all (· == 0) = true then fp u else fp v)
  | [], u => by simp
  | x :: v, u => by
    simp only [List.cons_append, fp, List.all_cons, fp_app v u, Bool.and_eq_true, beq_iff_eq]
    by_cases c : x = 0
    · simp [c]
    · simp [c]
theorem qv_zeros : ∀ (f v : List Int), v.all (· == 0) = true → qv f v = 0
  | [], _, _ => by simp [qv]
  | _ :: _, [], _ => by simp [qv]
  | a :: f, x :: v, h => by
    simp only [List.all_cons, Bool.and_eq_true, beq_iff_eq] at h
    simp only [qv]
    rw [h.1, qv_zeros f v h.2]; simp
theorem cntV_none {P : List Int → Bool} (n : Nat) : ∀ (d : Nat) (v : List Int), (∀ u : List Int, P (v ++ u) = false) → cntV P n d v = 0
  | 0, v, h => by
    have := h []
    rw [List.append_nil] at this
    simp only [cntV, this]; rfl
  | d + 1, v, h => by
    have : ∀ x : Int, cntV P n d (v ++ [x]) = 0 := fun x => cntV_none n d _ (fun u => by rw [List.append_assoc]; exact h _)
    simp only [cntV, this, sumF_zero]
theorem cntV_po (n : Nat) (t : Int) : ∀ (f pre v : List Int), pre.length = v.length → v.all (· == 0) = true → cntV (fun u => (qv (pre ++ f) u == t) && fp u) n f.length v = po n f t
  | [], pre, v, h, hz => by
    have : fp v = false := by
      have := fp_app v []
      rw [List.append_nil, if_pos hz] at this
      rw [this]; rfl
    simp only [List.length_nil, cntV, po, this, Bool.and_false]; rfl
  | a :: f, pre, v, h, hz => by
    simp only [List.length_cons, cntV, po]
    rw [sumF_both]
    have e0 : sumF (fun x => cntV (fun u => (qv (pre ++ a :: f) u == t) && fp u) n f.length (v ++ [x])) n (-(n : Int)) = 0 := by
      rw [sumF_eq (h := fun _ => 0) n (-(n : Int)) (fun y h1 h2 => cntV_none n _ _ (fun u => by
        have : fp (v ++ [y] ++ u) = false := by
          rw [List.append_assoc, fp_app, if_pos hz]
          simp only [List.singleton_append, fp]
          rw [if_neg (by omega)]; simp; omega
        rw [this, Bool.and_false])), sumF_zero]
    have e1 : sumF (fun x => cntV (fun u => (qv (pre ++ a :: f) u == t) && fp u) n f.length (v ++ [x])) n 1 = sumF (fun x => cq n f (t - a * x * x)) n 1 := by
      apply sumF_eq
      intro y h1 h2
      have := cntV_cq n t f (pre ++ [a]) (v ++ [y]) (by simp [h])
      rw [List.append_assoc, List.singleton_append, qv_snoc pre v a y h, qv_zeros pre v hz, Int.zero_add] at this
      rw [← this]
      -- every vector that goes on from here is counted
      have key : ∀ (d : Nat) (w : List Int), cntV (fun u => (qv (pre ++ a :: f) u == t) && fp u) n d (v ++ [y] ++ w) = cntV (fun u => qv (pre ++ a :: f) u == t) n d (v ++ [y] ++ w) := by
        intro d
        induction d with
        | zero =>
          intro w
          have : fp (v ++ [y] ++ w) = true := by
            rw [List.append_assoc, fp_app, if_pos hz]
            simp only [List.singleton_append, fp]
            rw [if_neg (by omega)]; simp; omega
          simp only [cntV, this, Bool.and_true]
        | succ d ih =>
          intro w
          simp only [cntV]
          apply sumF_eq
          intro x _ _
          have := ih (w ++ [x])
          rw [← List.append_assoc] at this
          exact this
      have := key f.length []
      rwa [List.append_nil] at this
    have e2 := cntV_po n t f (pre ++ [a]) (v ++ [0]) (by simp [h]) (by rw [List.all_append, hz]; rfl)
    rw [List.append_assoc, List.singleton_append] at e2
    rw [e0, e1, e2]; omega
theorem cntV_pos (n : Nat) (t : Int) (f : List Int) : cntV (fun u => (qv f u == t) && fp u) n f.length [] = po n f t := by
  have := cntV_po n t f [] [] rfl rfl
  rwa [List.nil_append] at this
end Locg
