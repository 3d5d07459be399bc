/- Plain arithmetic, computed: which small numbers are sums of two, three and four squares, in ascending order. -/
import Derived.Test.YtihadpckmcebgaaTFast
set_option linter.unusedVariables false
set_option linter.unusedSimpArgs false
namespace Locg
open Go.RowKit Go.Proofs.YtihadpckmcebgaaW.PrintWords

theorem sqFrom_some_iff {f : Int → Option (List Int)} {c left : Int} (hc : 1 ≤ c) : ∀ (d : Nat) (x : Int), 0 ≤ x → (left + 2 - x).toNat = d →
    ((sqFrom f c left (left + 2 - x).toNat x).isSome = true ↔ ∃ y, x ≤ y ∧ y * y * c ≤ left ∧ (f y).isSome = true) := by
  have key : ∀ x : Int, 0 ≤ x → ¬ x * x * c ≤ left → ¬ ∃ y, x ≤ y ∧ y * y * c ≤ left ∧ (f y).isSome = true := by
    rintro x hx h ⟨y, h1, h2, _⟩
    have := sq_le hx h1
    have := Int.mul_le_mul_of_nonneg_right this (show 0 ≤ c by omega)
    omega
  intro d
  induction d with
  | zero =>
    intro x hx hd
    have hn : ¬ x * x * c ≤ left := fun h => by have := sq_bound hc hx h; omega
    rw [sqFrom_stop _ hn]
    simp only [Option.isSome_none, Bool.false_eq_true, false_iff]
    exact key x hx hn
  | succ d ih =>
    intro x hx hd
    by_cases h : x * x * c ≤ left
    · cases hf : f x with
      | some r =>
        rw [sqFrom_hit hc hx h hf]
        simp only [Option.isSome_some, true_iff]
        exact ⟨x, Int.le_refl _, h, by rw [hf]; rfl⟩
      | none =>
        rw [sqFrom_next hc hx h hf, ih (x + 1) (by omega) (by omega)]
        constructor
        · rintro ⟨y, h1, h2, h3⟩; exact ⟨y, by omega, h2, h3⟩
        · rintro ⟨y, h1, h2, h3⟩
          refine ⟨y, ?_, h2, h3⟩
          rcases Int.lt_or_le x y with h4 | h4
          · omega
          · obtain rfl : y = x := by omega
            rw [hf] at h3; cases h3
    · rw [sqFrom_stop _ h]
      simp only [Option.isSome_none, Bool.false_eq_true, false_iff]
      exact key x hx h
/-- Does one of the first so many numbers answer? -/
def anyN (f : Nat → Bool) (k : Nat) : Bool := Nat.rec (motive := fun _ => Bool) false (fun i ih => or ih (f i)) k
theorem anyN_iff {f : Nat → Bool} : ∀ k, anyN f k = true ↔ ∃ i, i < k ∧ f i = true
  | 0 => by simp [anyN]
  | k + 1 => by
    have e : anyN f (k + 1) = or (anyN f k) (f k) := rfl
    rw [e, Bool.or_eq_true, anyN_iff k]
    constructor
    · rintro (⟨i, h, h'⟩ | h)
      · exact ⟨i, by omega, h'⟩
      · exact ⟨k, by omega, h⟩
    · rintro ⟨i, h, h'⟩
      rcases Nat.lt_or_ge i k with h1 | h1
      · exact .inl ⟨i, h1, h'⟩
      · obtain rfl : i = k := by omega
        exact .inr h'
def ex1 (left : Nat) : Bool := Nat.beq (Nat.mul (sqF 6 left 0) (sqF 6 left 0)) left
def ex2 (low left : Nat) : Bool := anyN (fun y => and (Nat.ble low y) (ex1 (Nat.sub left (Nat.mul y y)))) (Nat.succ (sqF 6 (Nat.div left 2) 0))
def ex3 (low left : Nat) : Bool := anyN (fun y => and (Nat.ble low y) (ex2 y (Nat.sub left (Nat.mul y y)))) (Nat.succ (sqF 6 (Nat.div left 3) 0))
def ex4 (low left : Nat) : Bool := anyN (fun y => and (Nat.ble low y) (ex3 y (Nat.sub left (Nat.mul y y)))) (Nat.succ (sqF 6 (Nat.div left 4) 0))
theorem ex1_iff {left : Nat} (h : left < 4096) : ex1 left = true ↔ isq left * isq left = (left : Int) := by
  unfold ex1
  rw [sqF_eq 6 (by omega), beq_iff, decide_eq_true_eq]
  have e : isq (left : Int) = ((isqrt left : Nat) : Int) := by simp [isq]
  rw [e]
  constructor
  · intro h; exact_mod_cast h
  · intro h; exact_mod_cast h
theorem bound_iff {left c y : Nat} (hc : 1 ≤ c) (h : left < 4096) : y < sqF 6 (left / c) 0 + 1 ↔ y * y * c ≤ left := by
  have hl : left / c < 2 ^ 6 * 2 ^ 6 := by have := Nat.div_le_self left c; omega
  rw [sqF_eq 6 hl]
  have hs := isqrt_spec (left / c)
  rw [← Nat.le_div_iff_mul_le hc]
  constructor
  · intro h; exact Nat.le_trans (Nat.mul_le_mul (show y ≤ isqrt (left / c) by omega) (show y ≤ isqrt (left / c) by omega)) hs.1
  · intro h
    rcases Nat.lt_or_ge y (isqrt (left / c) + 1) with h1 | h1
    · exact h1
    · have := Nat.mul_le_mul h1 h1; omega
theorem sub_cast {left y : Nat} (h : y * y ≤ left) : (((left - y * y : Nat)) : Int) = (left : Int) - (y : Int) * (y : Int) := by rw [Int.natCast_sub h]; simp
theorem exm_step {m c : Nat} (hc : 1 ≤ c) (hcm : c = m + 2) {g : Nat → Nat → Bool} (hg : ∀ y left : Nat, left < 4096 → ((y * y ≤ left) ∨ m ≠ 0) → (g y left = true ↔ (sqs m y left).isSome = true)) {low left : Nat} (h : left < 4096) :
    anyN (fun y => and (Nat.ble low y) (g y (left - y * y))) (sqF 6 (left / c) 0 + 1) = true ↔ (sqs (m + 1) low left).isSome = true := by
  have e : sqs (m + 1) low left = sqFrom (fun x => sqs m x ((left : Int) - x * x)) ((m : Int) + 2) left ((left : Int) + 2 - low).toNat low := rfl
  rw [e, sqFrom_some_iff (by omega) _ _ (by omega) rfl, anyN_iff]
  constructor
  · rintro ⟨y, h1, h2⟩
    rw [Bool.and_eq_true] at h2
    have hb := (bound_iff hc h).1 h1
    have hyl : y * y * 2 ≤ y * y * c := Nat.mul_le_mul_left _ (by omega)
    have hle := Nat.le_of_ble_eq_true h2.1
    have := (hg y (left - y * y) (by omega) (.inl (by omega))).1 h2.2
    rw [sub_cast (by omega)] at this
    refine ⟨y, by omega, ?_, this⟩
    have hb' : ((y * y * c : Nat) : Int) ≤ (left : Nat) := by omega
    rw [hcm] at hb'
    simpa using hb'
  · rintro ⟨y, h1, h2, h3⟩
    obtain ⟨y, rfl⟩ := Int.eq_ofNat_of_zero_le (show 0 ≤ y by omega)
    have hb : y * y * c ≤ left := by
      have : ((y * y * c : Nat) : Int) ≤ (left : Nat) := by rw [hcm]; simpa using h2
      omega
    have hyl : y * y * 2 ≤ y * y * c := Nat.mul_le_mul_left _ (by omega)
    refine ⟨y, (bound_iff hc h).2 hb, ?_⟩
    rw [Bool.and_eq_true]
    refine ⟨Nat.ble_eq_true_of_le (by omega), (hg y (left - y * y) (by omega) (.inl (by omega))).2 ?_⟩
    rw [sub_cast (by omega)]
    exact h3
theorem ex1_some {y left : Nat} (h : left < 4096) (hy : y * y ≤ left) : ex1 left = true ↔ (sqs 0 y left).isSome = true := by
  rw [ex1_iff h]
  simp only [sqs]
  constructor
  · intro e
    have hle : (y : Int) ≤ isq left := le_of_sq (isq_nonneg _) (by rw [e]; have : ((y * y : Nat) : Int) ≤ (left : Nat) := by omega
                                                                   simpa using this)
    rw [if_pos ⟨e, hle⟩]; rfl
  · intro e
    split at e
    · rename_i h; exact h.1
    · cases e
theorem ex2_some {low left : Nat} (h : left < 4096) : ex2 low left = true ↔ (sqs 1 low left).isSome = true :=
  exm_step (m := 0) (c := 2) (by omega) rfl (g := fun _ l => ex1 l) (fun y l hl hy => ex1_some hl (hy.resolve_right (by simp))) h
theorem ex3_some {low left : Nat} (h : left < 4096) : ex3 low left = true ↔ (sqs 2 low left).isSome = true :=
  exm_step (m := 1) (c := 3) (by omega) rfl (g := ex2) (fun y l hl hy => ex2_some hl) h
theorem ex4_some {low left : Nat} (h : left < 4096) : ex4 low left = true ↔ (sqs 3 low left).isSome = true :=
  exm_step (m := 2) (c := 4) (by omega) rfl (g := ex3) (fun y l hl hy => ex3_some hl) h

/-- What is found, ascends and has the sum. -/
def sumSq (l : List Int) : Int := l.foldl (fun s x => s + x * x) 0
theorem sumSq_go (l : List Int) : ∀ a : Int, l.foldl (fun s x => s + x * x) a = a + sumSq l := by
  induction l with
  | nil => intro a; simp [sumSq]
  | cons x l ih => intro a; simp only [sumSq, List.foldl_cons]; rw [ih, ih (0 + x * x)]; omega
theorem sumSq_cons (x : Int) (l : List Int) : sumSq (x :: l) = x * x + sumSq l := by
  have := sumSq_go l (0 + x * x); simp only [sumSq, List.foldl_cons] at this ⊢; omega
def asc : Int → List Int → Prop
  | _, [] => True
  | low, x :: l => low ≤ x ∧ asc x l
theorem sqFrom_good {f : Int → Option (List Int)} {c left : Int} (hf : ∀ x r, 0 ≤ x → f x = some r → asc x r ∧ sumSq r = left - x * x) : ∀ (d : Nat) (x : Int) (r : List Int), 0 ≤ x → sqFrom f c left d x = some r → asc x r ∧ sumSq r = left
  | 0, _, _, _, h => by simp [sqFrom] at h
  | d + 1, x, r, hx, h => by
    simp only [sqFrom] at h
    split at h
    · split at h
      · rename_i r' hr
        injection h with h
        obtain ⟨h1, h2⟩ := hf x r' hx hr
        rw [← h, sumSq_cons, h2]
        exact ⟨⟨Int.le_refl _, h1⟩, by omega⟩
      · obtain ⟨h1, h2⟩ := sqFrom_good hf d (x + 1) r (by omega) h
        refine ⟨?_, h2⟩
        cases r with
        | nil => trivial
        | cons a r => exact ⟨by have := h1.1; omega, h1.2⟩
    · cases h
theorem sqs_good : ∀ (m : Nat) (low left : Int) (r : List Int), 0 ≤ low → sqs m low left = some r → asc low r ∧ sumSq r = left
  | 0, low, left, r, h0, h => by
    simp only [sqs] at h
    split at h
    · rename_i hc
      injection h with h
      rw [← h, sumSq_cons]
      exact ⟨⟨hc.2, trivial⟩, by simp [sumSq]; exact hc.1⟩
    · cases h
  | m + 1, low, left, r, h0, h => by
    simp only [sqs] at h
    exact sqFrom_good (fun x r hx hr => sqs_good m _ _ r hx hr) _ _ _ h0 h

theorem sqFrom_ge {f : Int → Option (List Int)} {c left : Int} : ∀ (d : Nat) (x : Int) (r : List Int), sqFrom f c left d x = some r → ∃ y l, r = y :: l ∧ x ≤ y
  | 0, _, _, h => by simp [sqFrom] at h
  | d + 1, x, r, h => by
    simp only [sqFrom] at h
    split at h
    · split at h
      · rename_i r' hr
        injection h with h
        exact ⟨x, r', h.symm, Int.le_refl _⟩
      · obtain ⟨y, l, h1, h2⟩ := sqFrom_ge d (x + 1) r h
        exact ⟨y, l, h1, by omega⟩
    · cases h
/-- The sum of three squares, by its end. -/
def threeN (d n : Nat) : Bool := Nat.rec (motive := fun _ => Nat → Bool) (fun n => !Nat.beq (Nat.mod n 8) 7) (fun _ ih n => bif and (!Nat.beq n 0) (Nat.beq (Nat.mod n 4) 0) then ih (Nat.div n 4) else !Nat.beq (Nat.mod n 8) 7) d n
def allN (f : Nat → Bool) (k : Nat) : Bool := Nat.rec (motive := fun _ => Bool) true (fun i ih => and (f i) ih) k
theorem allN_get {f : Nat → Bool} : ∀ k, allN f k = true → ∀ i, i < k → f i = true
  | 0, _, i, h => by omega
  | k + 1, hc, i, h => by
    have e : allN f (k + 1) = and (f k) (allN f k) := rfl
    rw [e, Bool.and_eq_true] at hc
    rcases Nat.lt_or_ge i k with h1 | h1
    · exact allN_get k hc.2 i h1
    · obtain rfl : i = k := by omega
      exact hc.1
def ok3 (n : Nat) : Bool := (ex3 0 n) == (threeN 6 n)
def ok4 (n : Nat) : Bool := ex4 0 n
set_option maxRecDepth 100000 in
theorem three_ok : allN ok3 495 = true := by decide +kernel
set_option maxRecDepth 100000 in
theorem three_2000 : ok3 2000 = true := by decide +kernel
set_option maxRecDepth 100000 in
theorem four_ok' : allN ok4 495 = true := by decide +kernel
set_option maxRecDepth 100000 in
theorem four_2000 : ok4 2000 = true := by decide +kernel
def okT (n : Nat) : Bool := (ex2 0 n) == twoIs n
set_option maxRecDepth 100000 in
theorem two_ok' : allN okT 723 = true := by decide +kernel
set_option maxRecDepth 100000 in
theorem two_2000' : okT 2000 = true := by decide +kernel
theorem two_all {n : Nat} (h : n ≤ 722 ∨ n = 2000) : (sqs 1 0 n).isSome = twoIs n := by
  have : okT n = true := by
    rcases h with h | h
    · exact allN_get 723 two_ok' n (by omega)
    · rw [h]; exact two_2000'
  have e := ex2_some (low := 0) (left := n) (by omega)
  have h1 : ex2 0 n = twoIs n := by simpa [okT] using this
  rw [Bool.eq_iff_iff, ← h1, e]; rfl
theorem three_all {n : Nat} (h : n ≤ 494 ∨ n = 2000) : (sqs 2 0 n).isSome = threeN 6 n := by
  have : ok3 n = true := by
    rcases h with h | h
    · exact allN_get 495 three_ok n (by omega)
    · rw [h]; exact three_2000
  have e := ex3_some (low := 0) (left := n) (by omega)
  have h1 : ex3 0 n = threeN 6 n := by simpa [ok3] using this
  rw [Bool.eq_iff_iff, ← h1, e]; rfl
theorem four_all {n : Nat} (h : n ≤ 494 ∨ n = 2000) : (sqs 3 0 n).isSome = true := by
  have : ok4 n = true := by
    rcases h with h | h
    · exact allN_get 495 four_ok' n (by omega)
    · rw [h]; exact four_2000
  exact (ex4_some (low := 0) (left := n) (by omega)).1 this

end Locg
