/- Plain arithmetic, computed: ways of two and of four squares for small numbers. -/
import Derived.Test.YtihadpckmcebgaaTPrm
set_option linter.unusedVariables false
set_option linter.unusedSimpArgs false
namespace Locg
open Go.RowKit Go.Proofs.YtihadpckmcebgaaW.PrintWords

/-- A root by its bits. -/
def sqF (d n x : Nat) : Nat := Nat.rec (motive := fun _ => Nat → Nat) (fun x => x) (fun d ih x => bif Nat.ble (Nat.mul (Nat.add x (Nat.pow 2 d)) (Nat.add x (Nat.pow 2 d))) n then ih (Nat.add x (Nat.pow 2 d)) else ih x) d x
theorem sqF_spec (n : Nat) : ∀ (d x : Nat), x * x ≤ n → n < (x + 2 ^ d) * (x + 2 ^ d) → sqF d n x * sqF d n x ≤ n ∧ n < (sqF d n x + 1) * (sqF d n x + 1)
  | 0, x, h, h' => by simpa [sqF] using ⟨h, h'⟩
  | d + 1, x, h, h' => by
    have e : sqF (d + 1) n x = bif Nat.ble (Nat.mul (Nat.add x (Nat.pow 2 d)) (Nat.add x (Nat.pow 2 d))) n then sqF d n (Nat.add x (Nat.pow 2 d)) else sqF d n x := rfl
    rw [e]
    change _ ∧ _
    by_cases c : (x + 2 ^ d) * (x + 2 ^ d) ≤ n
    · have hb : Nat.ble (Nat.mul (Nat.add x (Nat.pow 2 d)) (Nat.add x (Nat.pow 2 d))) n = true := Nat.ble_eq_true_of_le c
      rw [hb]
      exact sqF_spec n d (x + 2 ^ d) c (by rw [show x + 2 ^ d + 2 ^ d = x + 2 ^ (d + 1) from by rw [Nat.pow_succ]; omega]; exact h')
    · have hb : Nat.ble (Nat.mul (Nat.add x (Nat.pow 2 d)) (Nat.add x (Nat.pow 2 d))) n = false := by
        rw [Bool.eq_false_iff]; intro h; exact c (Nat.le_of_ble_eq_true h)
      rw [hb]
      exact sqF_spec n d x h (by omega)
theorem sqF_eq {n : Nat} (d : Nat) (h : n < 2 ^ d * 2 ^ d) : sqF d n 0 = isqrt n := by
  obtain ⟨h1, h2⟩ := sqF_spec n d 0 (by omega) (by simpa using h)
  exact (isqrt_unique h1 h2).symm
def wayN (n x : Nat) : Nat := bif Nat.ble (Nat.mul x x) n then (bif Nat.beq (Nat.mul (sqF 6 (Nat.sub n (Nat.mul x x)) 0) (sqF 6 (Nat.sub n (Nat.mul x x)) 0)) (Nat.sub n (Nat.mul x x)) then Nat.mul (bif Nat.beq x 0 then 1 else 2) (bif Nat.beq (Nat.sub n (Nat.mul x x)) 0 then 1 else 2) else 0) else 0
def r2N (n : Nat) : Nat := Nat.rec (motive := fun _ => Nat) 0 (fun x ih => Nat.add ih (wayN n x)) 46
theorem ble_iff {a b : Nat} : Nat.ble a b = decide (a ≤ b) := by
  rw [Bool.eq_iff_iff, decide_eq_true_eq]; exact ⟨Nat.le_of_ble_eq_true, Nat.ble_eq_true_of_le⟩
theorem beq_iff {a b : Nat} : Nat.beq a b = decide (a = b) := by
  rw [Bool.eq_iff_iff, decide_eq_true_eq]; exact ⟨Nat.eq_of_beq_eq_true, fun h => by rw [h]; exact Nat.beq_refl b⟩
theorem wayN_eq {n x : Nat} (hn : n < 4096) : ((wayN n x : Nat) : Int) = if x * x ≤ n then wayW n x else 0 := by
  unfold wayN
  rw [ble_iff, beq_iff, beq_iff, beq_iff]
  change ((bif decide (x * x ≤ n) then (bif decide (sqF 6 (n - x * x) 0 * sqF 6 (n - x * x) 0 = n - x * x) then (bif decide (x = 0) then 1 else 2) * (bif decide (n - x * x = 0) then 1 else 2) else 0) else 0 : Nat) : Int) = _
  rw [sqF_eq (n := n - x * x) 6 (by omega)]
  by_cases c : x * x ≤ n
  · have e : ((n : Int) - (x : Int) * (x : Int)) = ((n - x * x : Nat) : Int) := by rw [Int.natCast_sub c]; simp
    have eq : isq ((n - x * x : Nat) : Int) = (isqrt (n - x * x) : Nat) := by simp [isq]
    have hs := isqrt_spec (n - x * x)
    simp only [decide_eq_true c, cond_true, if_pos c]
    unfold wayW
    rw [e, eq]
    by_cases c1 : isqrt (n - x * x) * isqrt (n - x * x) = n - x * x
    · have c1i : ((isqrt (n - x * x) : Nat) : Int) * ((isqrt (n - x * x) : Nat) : Int) = ((n - x * x : Nat) : Int) := by exact_mod_cast c1
      rw [if_pos c1i, decide_eq_true c1, cond_true]
      clear c1i e eq hs
      generalize isqrt (n - x * x) = s at c1
      generalize n - x * x = m at c1
      by_cases d1 : x = 0 <;> by_cases d2 : m = 0
      · obtain rfl : s = 0 := by rcases Nat.eq_zero_or_pos s with h | h
                                 · exact h
                                 · have := Nat.mul_pos h h; omega
        simp [d1, d2]
      · have : 0 < s := by rcases Nat.eq_zero_or_pos s with h | h
                           · subst h; omega
                           · exact h
        simp [d1, d2, this]
      · obtain rfl : s = 0 := by rcases Nat.eq_zero_or_pos s with h | h
                                 · exact h
                                 · have := Nat.mul_pos h h; omega
        have : 0 < x := by omega
        simp [d1, d2, this]
      · have : 0 < s := by rcases Nat.eq_zero_or_pos s with h | h
                           · subst h; omega
                           · exact h
        have : 0 < x := by omega
        simp [d1, d2, *]
    · have c1' : ¬ ((isqrt (n - x * x) : Nat) : Int) * ((isqrt (n - x * x) : Nat) : Int) = ((n - x * x : Nat) : Int) := fun h => c1 (by exact_mod_cast h)
      rw [if_neg c1', decide_eq_false c1, cond_false]; rfl
  · simp [c]
theorem r2from_snoc (n : Int) : ∀ (d : Nat) (x : Int), r2from n (d + 1) x = r2from n d x + wayW n (x + d)
  | 0, x => by simp [r2from]
  | d + 1, x => by
    have := r2from_snoc n d (x + 1)
    have e : x + ((d + 1 : Nat) : Int) = x + 1 + d := by omega
    simp only [r2from] at this ⊢
    rw [e]; omega
def r2P (n k : Nat) : Nat := Nat.rec (motive := fun _ => Nat) 0 (fun x ih => Nat.add ih (wayN n x)) k
theorem r2P_eq {n : Nat} (hn : n < 4096) : ∀ k, ((r2P n k : Nat) : Int) = r2from n (min k (isqrt n + 1)) 0
  | 0 => by simp only [Nat.zero_min]; rfl
  | k + 1 => by
    have e : r2P n (k + 1) = r2P n k + wayN n k := rfl
    have hs := isqrt_spec n
    rw [e, Int.natCast_add, r2P_eq hn k, wayN_eq hn]
    by_cases c : k * k ≤ n
    · have hk : k ≤ isqrt n := by
        rcases Nat.lt_or_ge (isqrt n) k with h | h
        · have := Nat.mul_le_mul (show isqrt n + 1 ≤ k from h) (show isqrt n + 1 ≤ k from h); omega
        · exact h
      rw [if_pos c, show min (k + 1) (isqrt n + 1) = k + 1 from by omega, show min k (isqrt n + 1) = k from by omega, r2from_snoc]
      simp
    · have hk : isqrt n < k := by
        rcases Nat.lt_or_ge (isqrt n) k with h | h
        · exact h
        · have := Nat.mul_le_mul h h; omega
      rw [if_neg c, show min (k + 1) (isqrt n + 1) = isqrt n + 1 from by omega, show min k (isqrt n + 1) = isqrt n + 1 from by omega]
      simp
theorem r2N_eq {n : Nat} (hn : n < 2116) : r2 n = (r2N n : Nat) := by
  have h := r2P_eq (n := n) (by omega) 46
  have hs := isqrt_spec n
  have hk : isqrt n + 1 ≤ 46 := by
    rcases Nat.lt_or_ge (isqrt n) 46 with h | h
    · exact h
    · have := Nat.mul_le_mul h h; omega
  rw [show min 46 (isqrt n + 1) = isqrt n + 1 from by omega] at h
  change r2 n = ((r2P n 46 : Nat) : Int)
  rw [h]
  unfold r2
  congr 1

/-- The sum of the divisors up to k that 4 does not divide. -/
def s4 (n k : Nat) : Nat := Nat.rec (motive := fun _ => Nat) 0 (fun d ih => Nat.add ih (bif Nat.beq (Nat.mod n (Nat.succ d)) 0 then (bif Nat.beq (Nat.mod (Nat.succ d) 4) 0 then 0 else Nat.succ d) else 0)) k
def tab : List Nat := [1, 4, 4, 0, 4, 8, 0, 0, 4, 4, 8, 0, 0, 8, 0, 0, 4, 8, 4, 0, 8, 0, 0, 0, 0, 12, 8, 0, 0, 8, 0, 0, 4, 0, 8, 0, 4, 8, 0, 0, 8, 8, 0, 0, 0, 8, 0, 0, 0, 4,
  12, 0, 8, 8, 0, 0, 0, 0, 8, 0, 0, 8, 0, 0, 4, 16, 0, 0, 8, 0, 0, 0, 4, 8, 8, 0, 0, 0, 0, 0, 8, 4, 8, 0, 0, 16, 0, 0, 0, 8, 8, 0, 0, 0, 0, 0, 0, 8, 4, 0,
  12, 8, 0, 0, 8, 0, 8, 0, 0, 8, 0, 0, 0, 8, 0, 0, 8, 8, 0, 0, 0, 4, 8, 0, 0, 16, 0, 0, 4, 0, 16, 0, 0, 0, 0, 0, 8, 8, 0, 0, 0, 0, 0, 0, 4, 16, 8, 0, 8, 8,
  0, 0, 0, 8, 0, 0, 0, 8, 0, 0, 8, 0, 4, 0, 8, 0, 0, 0, 0, 12, 16, 0, 0, 8, 0, 0, 0, 0, 8, 0, 8, 8, 0, 0, 0, 16, 0, 0, 0, 0, 0, 0, 0, 8, 8, 0, 4, 8, 0, 0,
  12, 0, 8, 0, 0, 16, 0, 0, 8, 0, 0, 0, 8, 0, 0, 0, 0, 0, 8, 0, 0, 16, 0, 0, 0, 12, 8, 0, 0, 8, 0, 0, 8, 8, 8, 0, 0, 0, 0, 0, 0, 8, 4, 0, 8, 8, 0, 0, 0, 0,
  16, 0, 0, 0, 0, 0, 4, 8, 0, 0, 16, 8, 0, 0, 0, 16, 0, 0, 0, 8, 0, 0, 8, 0, 8, 0, 0, 8, 0, 0, 0, 8, 0, 0, 0, 0, 0, 0, 4, 12, 16, 0, 8, 8, 0, 0, 8, 0, 8, 0,
  0]

def dot : List Nat → List Nat → Nat
  | [], _ => 0
  | _ :: _, [] => 0
  | a :: as, b :: bs => Nat.add (Nat.mul a b) (dot as bs)
def chkTab : List Nat → Nat → Bool
  | [], _ => true
  | t :: r, n => and (Nat.beq t (r2N n)) (chkTab r (Nat.succ n))
def chkFour : List Nat → List Nat → Nat → Bool
  | [], _, _ => true
  | t :: r, b, n => and (Nat.beq (dot tab (t :: b)) (bif Nat.beq n 0 then 1 else Nat.mul 8 (s4 n n))) (chkFour r (t :: b) (Nat.succ n))
set_option maxRecDepth 100000 in
theorem tab_ok : chkTab tab 0 = true := by decide +kernel
set_option maxRecDepth 100000 in
theorem four_ok : chkFour tab [] 0 = true := by decide +kernel
theorem tab_len : tab.length = 301 := by decide +kernel
theorem chkTab_get : ∀ (l : List Nat) (n : Nat), chkTab l n = true → ∀ i (h : i < l.length), l[i] = r2N (n + i)
  | [], _, _, i, h => by simp at h
  | t :: r, n, hc, i, h => by
    simp only [chkTab, Bool.and_eq_true] at hc
    cases i with
    | zero => simpa using Nat.eq_of_beq_eq_true hc.1
    | succ i =>
      have := chkTab_get r (n + 1) hc.2 i (by simpa using h)
      simpa [Nat.add_assoc, Nat.add_comm 1 i] using this
theorem tab_get (i : Nat) (h : i < 301) : tab[i]'(by rw [tab_len]; exact h) = r2N i := by simpa using chkTab_get tab 0 tab_ok i (by rw [tab_len]; exact h)
/-- The numbers from n down to 0. -/
def dn : Nat → List Nat
  | 0 => [r2N 0]
  | n + 1 => r2N (n + 1) :: dn n
theorem chkFour_get : ∀ (l b : List Nat) (n : Nat), (∀ i (h : i < l.length), l[i] = r2N (n + i)) → b = (match n with | 0 => [] | m + 1 => dn m) → chkFour l b n = true →
    ∀ i, i < l.length → dot tab (dn (n + i)) = (if n + i = 0 then 1 else 8 * s4 (n + i) (n + i))
  | [], _, _, _, _, _, i, h => by simp at h
  | t :: r, b, n, hl, hb, hc, i, h => by
    simp only [chkFour, Bool.and_eq_true] at hc
    have ht : t = r2N n := hl 0 (by simp)
    have hb' : t :: b = dn n := by
      rw [ht, hb]; cases n <;> rfl
    cases i with
    | zero =>
      have := Nat.eq_of_beq_eq_true hc.1
      rw [hb'] at this
      rw [Nat.add_zero, this, beq_iff]
      by_cases c : n = 0 <;> simp [c]
    | succ i =>
      have := chkFour_get r (t :: b) (n + 1) (fun i h => by have := hl (i + 1) (by simpa using h); simpa [Nat.add_assoc, Nat.add_comm 1 i] using this) hb' hc.2 i (by simpa using h)
      rw [show n + (i + 1) = n + 1 + i from by omega]
      exact this
theorem four_get (n : Nat) (h : n < 301) : dot tab (dn n) = (if n = 0 then 1 else 8 * s4 n n) := by
  have := chkFour_get tab [] 0 (fun i h => by simpa using tab_get i (by rw [tab_len] at h; exact h)) rfl four_ok n (by rw [tab_len]; exact h)
  simpa using this
theorem dot_conv : ∀ (m i : Nat) (l : List Nat) (n : Nat), n = i + m → n < 2116 → (∀ j, j ≤ m → l[j]? = some (r2N (i + j))) → ((dot l (dn m) : Nat) : Int) = conv n (m + 1) i
  | 0, i, l, n, hn, hb, hl => by
    cases l with
    | nil => have := hl 0 (by omega); simp at this
    | cons a as =>
      have h0 := hl 0 (by omega)
      simp at h0
      have e : dot (a :: as) (dn 0) = a * r2N 0 := by cases as <;> rfl
      rw [e]
      simp only [conv]
      rw [show ((n : Int) - (i : Int)) = ((0 : Nat) : Int) from by omega, r2N_eq (n := 0) (by omega), r2N_eq (n := i) (by omega), h0]
      simp
  | m + 1, i, l, n, hn, hb, hl => by
    cases l with
    | nil => have := hl 0 (by omega); simp at this
    | cons a as =>
      have h0 := hl 0 (by omega)
      simp at h0
      have e : dot (a :: as) (dn (m + 1)) = a * r2N (m + 1) + dot as (dn m) := rfl
      have ih := dot_conv m (i + 1) as n (by omega) hb (fun j hj => by have := hl (j + 1) (by omega); rw [show i + 1 + j = i + (j + 1) from by omega]; simpa using this)
      rw [e]
      have e2 : conv (n : Int) (m + 1 + 1) (i : Int) = r2 i * r2 ((n : Int) - i) + conv n (m + 1) (i + 1) := rfl
      rw [e2, show ((n : Int) - (i : Int)) = ((m + 1 : Nat) : Int) from by omega, r2N_eq (n := m + 1) (by omega), r2N_eq (n := i) (by omega), ← h0]
      rw [show ((i : Int) + 1) = ((i + 1 : Nat) : Int) from rfl, ← ih]
      simp
theorem r4_eq (n : Nat) (h : n < 301) : r4 n = ((if n = 0 then 1 else 8 * s4 n n : Nat) : Int) := by
  rw [← four_get n h]
  unfold r4
  rw [show ((n : Int) + 1).toNat = n + 1 from by omega]
  refine (dot_conv n 0 tab n (by omega) (by omega) (fun j hj => ?_)).symm
  rw [List.getElem?_eq_getElem (by rw [tab_len]; omega), tab_get j (by omega)]
  simp
end Locg
