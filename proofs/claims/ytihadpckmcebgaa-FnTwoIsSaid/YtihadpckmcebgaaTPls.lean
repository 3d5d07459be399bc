/- Plain arithmetic: the primes of a number, the places of a form. -/
import Derived.Test.YtihadpckmcebgaaTZer
import Derived.Test.YtihadpckmcebgaaTPlc
set_option linter.unusedVariables false
set_option linter.unusedSimpArgs false
namespace Locg
open Go.RowKit Go.Proofs.YtihadpckmcebgaaW.PrintWords Go.Proofs.YtihadpckmcebgaaW.PrintMore

def TT : List Int := [1, 2, 3, 5, 6, 7, 10, 12, 15, 4, 21, 30, 8, -1, -2, -3, -5, -6, -7, -10, -12, -15, -4, -21, -30, -8]
theorem TT_sm {x : Int} (h : x ∈ TT) : Sm x := by
  have : ∀ x ∈ TT, x ≠ 0 ∧ x.natAbs ≤ 30 := by decide +kernel
  exact this x h
theorem pl_prime : ∀ (d : Nat) (n p : Int), 2 ≤ p → 0 < n → n.natAbs < 2 ^ 63 → (∀ r : Int, 2 ≤ r → r < p → ¬ r ∣ n) → ∀ q ∈ pl d n p, q ∣ n ∧ PrimeL q := by
  intro d
  induction d with
  | zero => intro n p _ _ _ _ q hq; simp [pl] at hq
  | succ d ih =>
    intro n p hp hn hN hr q hq
    simp only [pl] at hq
    by_cases c : p * p ≤ n
    · rw [if_pos c] at hq
      by_cases c2 : n.tmod p = 0
      · rw [if_pos c2] at hq
        have hpn : p ∣ n := Int.dvd_of_tmod_eq_zero c2
        rcases List.mem_cons.1 hq with h | h
        · subst h
          refine ⟨hpn, hp, fun r h2 hd => ?_⟩
          have hle := Int.le_of_dvd (by omega) hd
          rcases Int.lt_or_eq_of_le hle with h | h
          · exact absurd (Int.dvd_trans hd hpn) (hr r h2 h)
          · exact h
        · have hv := val_spec hp (show n ≠ 0 by omega) hN
          have hud : unit p n ∣ n := ⟨p ^ (val p n).toNat, by rw [Int.mul_comm]; exact hv.1⟩
          have := ih (unit p n) (p + 1) (by omega) (hv.2.2.2.2.2.2 hn) (by omega) (fun r h2 h3 hd => by
            rcases Int.lt_or_eq_of_le (show r ≤ p by omega) with h4 | h4
            · exact hr r h2 h4 (Int.dvd_trans hd hud)
            · subst h4; exact hv.2.1 (Int.tmod_eq_zero_of_dvd hd)) q h
          exact ⟨Int.dvd_trans this.1 hud, this.2⟩
      · rw [if_neg c2] at hq
        exact ih n (p + 1) (by omega) hn hN (fun r h2 h3 hd => by
            rcases Int.lt_or_eq_of_le (show r ≤ p by omega) with h4 | h4
            · exact hr r h2 h4 hd
            · subst h4; exact c2 (Int.tmod_eq_zero_of_dvd hd)) q hq
    · rw [if_neg c] at hq
      by_cases c2 : n > 1
      · rw [if_pos c2] at hq
        have h := List.mem_singleton.1 hq
        subst h
        refine ⟨Int.dvd_refl _, by omega, fun r h2 hd => ?_⟩
        have hle := Int.le_of_dvd hn hd
        have hrp : p ≤ r := by
          rcases Int.lt_or_le r p with h | h
          · exact absurd hd (hr r h2 h)
          · exact h
        obtain ⟨s, hs⟩ := hd
        have hs1 : 1 ≤ s := by
          rcases Int.lt_or_le 0 s with h | h
          · omega
          · have := Int.mul_nonneg (show 0 ≤ r by omega) (show 0 ≤ -s by omega); rw [Int.mul_neg] at this; omega
        rcases Int.lt_or_eq_of_le hs1 with h | h
        · have hsp : p ≤ s := by
            rcases Int.lt_or_le s p with h3 | h3
            · exact absurd ⟨r, by rw [Int.mul_comm]; exact hs⟩ (hr s (by omega) h3)
            · exact h3
          have := Int.mul_le_mul hrp hsp (by omega) (by omega)
          omega
        · subst h; omega
      · rw [if_neg c2] at hq; simp at hq
theorem prime_pow {q p : Int} (hq : PrimeL q) : ∀ k : Nat, q ∣ p ^ k → q ∣ p
  | 0, h => by
    rw [Int.pow_zero] at h
    have := Int.le_of_dvd (by omega) h; have := hq.1; omega
  | k + 1, h => by
    rw [Int.pow_succ] at h
    rcases prime_mul hq h with h | h
    · exact prime_pow hq k h
    · exact h
theorem least_prime {n p : Int} (hp : 2 ≤ p) (hr : ∀ r : Int, 2 ≤ r → r < p → ¬ r ∣ n) (hpn : p ∣ n) : PrimeL p := by
  refine ⟨hp, fun r h2 hd => ?_⟩
  have hle := Int.le_of_dvd (by omega) hd
  rcases Int.lt_or_eq_of_le hle with h | h
  · exact absurd (Int.dvd_trans hd hpn) (hr r h2 h)
  · exact h
theorem no_small {n p : Int} (hn : 1 < n) (hp : 2 ≤ p) (hpp : ¬ p * p ≤ n) (hr : ∀ r : Int, 2 ≤ r → r < p → ¬ r ∣ n) : PrimeL n := by
  rw [prime_iff (by omega)]
  intro r r1 r2
  exact hr r r1 (lt_of_sq (by omega) (by omega))
theorem pl_all : ∀ (d : Nat) (n p : Int), 2 ≤ p → 0 < n → n.natAbs < 2 ^ 63 → n + 2 - p ≤ d → 1 ≤ d → (∀ r : Int, 2 ≤ r → r < p → ¬ r ∣ n) →
    (∀ q, PrimeL q → q ∣ n → q ∈ pl d n p) ∧ (pl d n p).Pairwise (· < ·) ∧ ∀ q ∈ pl d n p, p ≤ q := by
  intro d
  induction d with
  | zero => intro n p _ _ _ _ h1; omega
  | succ d ih =>
    intro n p hp hn hN hd h1 hr
    simp only [pl]
    by_cases c : p * p ≤ n
    · have hpn : 2 * p ≤ n := by have := Int.mul_le_mul_of_nonneg_right hp (show 0 ≤ p by omega); omega
      rw [if_pos c]
      by_cases c2 : n.tmod p = 0
      · have hpd := Int.dvd_of_tmod_eq_zero c2
        have hpP := least_prime hp hr hpd
        obtain ⟨v1, v2, v3, v4, v5, v6, v7⟩ := val_spec hp (show n ≠ 0 by omega) hN
        have hud : unit p n ∣ n := ⟨p ^ (val p n).toNat, by rw [Int.mul_comm]; exact v1⟩
        have hr2 : ∀ r : Int, 2 ≤ r → r < p + 1 → ¬ r ∣ unit p n := by
          intro r h2 h3 hd
          rcases Int.lt_or_eq_of_le (show r ≤ p by omega) with h4 | h4
          · exact hr r h2 h4 (Int.dvd_trans hd hud)
          · subst h4; exact v2 (Int.tmod_eq_zero_of_dvd hd)
        obtain ⟨i1, i2, i3⟩ := ih (unit p n) (p + 1) (by omega) (v7 hn) (by omega) (by omega) (by omega) hr2
        rw [if_pos c2]
        refine ⟨fun q hq hqd => ?_, ?_, ?_⟩
        · rw [v1] at hqd
          rcases prime_mul hq hqd with h | h
          · have := hpP.2 q hq.1 (prime_pow hq _ h)
            rw [this]; exact List.mem_cons_self
          · exact List.mem_cons_of_mem _ (i1 q hq h)
        · rw [List.pairwise_cons]
          exact ⟨fun q hq => by have := i3 q hq; omega, i2⟩
        · intro q hq
          rcases List.mem_cons.1 hq with h | h
          · omega
          · have := i3 q h; omega
      · rw [if_neg c2]
        obtain ⟨i1, i2, i3⟩ := ih n (p + 1) (by omega) hn hN (by omega) (by omega) (fun r h2 h3 he => by
          rcases Int.lt_or_eq_of_le (show r ≤ p by omega) with h4 | h4
          · exact hr r h2 h4 he
          · exact c2 (Int.tmod_eq_zero_of_dvd (h4 ▸ he)))
        exact ⟨i1, i2, fun q hq => by have := i3 q hq; omega⟩
    · rw [if_neg c]
      by_cases c2 : n > 1
      · rw [if_pos c2]
        have hnP := no_small c2 hp c hr
        refine ⟨fun q hq hqd => ?_, by simp, ?_⟩
        · rw [hnP.2 q hq.1 hqd]; simp
        · intro q hq
          obtain rfl := List.mem_singleton.1 hq
          rcases Int.lt_or_le q p with h | h
          · exact absurd (Int.dvd_refl q) (hr q (by omega) h)
          · exact h
      · rw [if_neg c2]
        refine ⟨fun q hq hqd => ?_, by simp, by simp⟩
        have := Int.le_of_dvd hn hqd; have := hq.1; omega
theorem absI_dvd {q n : Int} : q ∣ absI n ↔ q ∣ n := by unfold absI; exact Int.dvd_natAbs
theorem primes_iff {n q : Int} (hn : n ≠ 0) (h : n.natAbs < 2 ^ 63) : q ∈ primes n ↔ PrimeL q ∧ q ∣ n := by
  have ha : 0 < absI n ∧ (absI n).natAbs < 2 ^ 63 ∧ absI n + 2 - 2 ≤ ((n.natAbs + 2 : Nat) : Int) := by unfold absI; omega
  constructor
  · intro hq
    have := pl_prime (n.natAbs + 2) (absI n) 2 (by omega) ha.1 ha.2.1 (fun r h2 h3 => by omega) q hq
    exact ⟨this.2, absI_dvd.1 this.1⟩
  · rintro ⟨h1, h2⟩
    exact (pl_all (n.natAbs + 2) (absI n) 2 (by omega) ha.1 ha.2.1 ha.2.2 (by omega) (fun r h2 h3 => by omega)).1 q h1 (absI_dvd.2 h2)
theorem primes_sorted {n : Int} (hn : n ≠ 0) (h : n.natAbs < 2 ^ 63) : (primes n).Pairwise (· < ·) := by
  have ha : 0 < absI n ∧ (absI n).natAbs < 2 ^ 63 ∧ absI n + 2 - 2 ≤ ((n.natAbs + 2 : Nat) : Int) := by unfold absI; omega
  exact (pl_all (n.natAbs + 2) (absI n) 2 (by omega) ha.1 ha.2.1 ha.2.2 (by omega) (fun r h2 h3 => by omega)).2.1
/-- Two ascending lists with the same numbers are one. -/
theorem sorted_ext : ∀ {a b : List Int}, a.Pairwise (· < ·) → b.Pairwise (· < ·) → (∀ x, x ∈ a ↔ x ∈ b) → a = b
  | [], [], _, _, _ => rfl
  | [], y :: b, _, _, h => by have := (h y).2 (by simp); simp at this
  | x :: a, [], _, _, h => by have := (h x).1 (by simp); simp at this
  | x :: a, y :: b, ha, hb, h => by
    rw [List.pairwise_cons] at ha hb
    have hxy : x = y := by
      have h1 := (h x).1 (by simp)
      have h2 := (h y).2 (by simp)
      rcases List.mem_cons.1 h1 with e | e
      · exact e
      · rcases List.mem_cons.1 h2 with e2 | e2
        · exact e2.symm
        · have := hb.1 x e; have := ha.1 y e2; omega
    subst hxy
    rw [sorted_ext ha.2 hb.2 (fun z => ?_)]
    constructor
    · intro hz
      rcases List.mem_cons.1 ((h z).1 (List.mem_cons_of_mem _ hz)) with e | e
      · have := ha.1 z hz; omega
      · exact e
    · intro hz
      rcases List.mem_cons.1 ((h z).2 (List.mem_cons_of_mem _ hz)) with e | e
      · have := hb.1 z hz; omega
      · exact e
def PP : List Int := [0, 2, 3, 5, 7, 11, 13, 17, 19, 23, 29]
def plOf (xs : List Int) (p : Int) : Bool := p == 0 || (p == 2 || xs.any (fun x => x % p == 0))
/-- The places of a list of small numbers. -/
def plc (xs : List Int) : List Int := PP.filter (plOf xs)
theorem PP_sorted : PP.Pairwise (· < ·) := by unfold PP; decide
theorem PP_plc {p : Int} (h : p ∈ PP) : Plc p := by
  have : ∀ p ∈ PP, placeOk p = true := by decide +kernel
  exact placeOk_iff.1 (this p h)
theorem PP_prime {p : Int} (h : PrimeL p) (h30 : p ≤ 30) : p ∈ PP := by
  have t : ∀ p ∈ List.range 31, 2 ≤ p → placeOk (p : Int) = true → (p : Int) ∈ PP := by decide +kernel
  have h2 := h.1
  have hp : Plc p := by
    rcases Int.lt_or_eq_of_le h2 with h3 | h3
    · exact Or.inr (Or.inr ⟨h, by omega, by omega⟩)
    · exact Or.inr (Or.inl h3.symm)
  have := t p.toNat (by rw [List.mem_range]; omega) (by omega) (by rw [Int.toNat_of_nonneg (by omega)]; exact placeOk_iff.2 hp)
  rwa [Int.toNat_of_nonneg (by omega)] at this
theorem PP_of {p : Int} (h : p ∈ PP) (h2 : 2 < p) : PrimeL p := by
  rcases PP_plc h with e | e | e
  · omega
  · omega
  · exact e.1
theorem plc_mem {xs : List Int} {p : Int} : p ∈ plc xs ↔ p ∈ PP ∧ (p = 0 ∨ p = 2 ∨ ∃ x ∈ xs, p ∣ x) := by
  unfold plc plOf
  rw [List.mem_filter]
  simp only [Bool.or_eq_true, beq_iff_eq, List.any_eq_true]
  simp only [Int.dvd_iff_emod_eq_zero]
theorem plc_plc {xs : List Int} {p : Int} (h : p ∈ plc xs) : Plc p := PP_plc (plc_mem.1 h).1
theorem plc_sorted (xs : List Int) : (plc xs).Pairwise (· < ·) := PP_sorted.filter _
theorem prime_sm {q x : Int} (hq : PrimeL q) (hx : Sm x) (h : q ∣ x) : q ∈ PP ∧ 2 ≤ q := by
  have : q.natAbs ≤ x.natAbs := Nat.le_of_dvd (by have := hx.1; omega) (Int.natAbs_dvd_natAbs.2 h)
  have := hx.2; have := hq.1
  exact ⟨PP_prime hq (by omega), hq.1⟩
theorem prodF_dvd {q : Int} (hq : PrimeL q) : ∀ (xs : List Int) (acc : Int), q ∣ prodF xs acc ↔ q ∣ acc ∨ ∃ x ∈ xs, q ∣ x
  | [], acc => by simp [prodF]
  | x :: xs, acc => by
    simp only [prodF, prodF_dvd hq xs (acc * x), List.mem_cons, exists_eq_or_imp]
    constructor
    · rintro (h | h)
      · rcases prime_mul hq h with h | h
        · exact Or.inl h
        · exact Or.inr (Or.inl h)
      · exact Or.inr (Or.inr h)
    · rintro (h | h | h)
      · exact Or.inl (Int.dvd_trans h (Int.dvd_mul_right _ _))
      · exact Or.inl (Int.dvd_trans h (Int.dvd_mul_left _ _))
      · exact Or.inr h
theorem prod_dvd {q : Int} (hq : PrimeL q) (xs : List Int) : q ∣ prod xs ↔ ∃ x ∈ xs, q ∣ x := by
  unfold prod
  rw [prodF_dvd hq]
  constructor
  · rintro (h | h)
    · have := Int.le_of_dvd (by omega) h; have := hq.1; omega
    · exact h
  · exact Or.inr
/-- The reference's places: of a product. -/
def placesL (n : Int) : List Int := [0, 2] ++ (primes n).filter (fun x => decide (x > 2))
theorem placesL_plc {xs : List Int} {n : Int} (hx : ∀ x ∈ xs, Sm x) (hn : n ≠ 0) (h : n.natAbs < 2 ^ 63) (hd : ∀ q, PrimeL q → (q ∣ n ↔ ∃ x ∈ xs, q ∣ x)) : placesL n = plc xs := by
  refine sorted_ext ?_ (plc_sorted xs) (fun q => ?_)
  · unfold placesL
    rw [List.cons_append, List.cons_append, List.nil_append, List.pairwise_cons, List.pairwise_cons]
    have hs := (primes_sorted hn h).filter (fun x : Int => decide (x > 2))
    have hg : ∀ y ∈ (primes n).filter (fun x : Int => decide (x > 2)), 2 < y := fun y hy => by simpa using (List.mem_filter.1 hy).2
    refine ⟨fun y hy => ?_, hg, hs⟩
    rcases List.mem_cons.1 hy with e | e
    · omega
    · have := hg y e; omega
  · rw [plc_mem]
    unfold placesL
    rw [List.mem_append, List.mem_filter, primes_iff hn h]
    simp only [List.mem_cons, List.not_mem_nil, or_false, decide_eq_true_eq]
    constructor
    · rintro ((e | e) | ⟨⟨h1, h2⟩, h3⟩)
      · exact ⟨by rw [e]; decide, Or.inl e⟩
      · exact ⟨by rw [e]; decide, Or.inr (Or.inl e)⟩
      · obtain ⟨x, hm, hd2⟩ := (hd q h1).1 h2
        exact ⟨(prime_sm h1 (hx x hm) hd2).1, Or.inr (Or.inr ⟨x, hm, hd2⟩)⟩
    · rintro ⟨h1, e | e | ⟨x, hm, hd2⟩⟩
      · exact Or.inl (Or.inl e)
      · exact Or.inl (Or.inr e)
      · have hp := PP_plc h1
        rcases hp with e | e | e
        · exact Or.inl (Or.inl e)
        · exact Or.inl (Or.inr e)
        · exact Or.inr ⟨⟨e.1, (hd q e.1).2 ⟨x, hm, hd2⟩⟩, by have := e.2.1; omega⟩
theorem places_prod {xs : List Int} (hx : ∀ x ∈ xs, Sm x) (hl : xs.length ≤ 5) : placesL (prod xs) = plc xs := by
  have hb := prod_bd4 hx hl
  exact placesL_plc hx hb.1 (by omega) (fun q hq => prod_dvd hq xs)
/-- The program's places: primes one behind the other, sorted. -/
def addP : List Int → List Int → List Int
  | out, [] => out
  | out, q :: qs => addP (if out.contains q then out else out ++ [q]) qs
def addAll : List Int → List Int → List Int
  | out, [] => out
  | out, x :: xs => addAll (addP out (primes x)) xs
theorem addP_spec : ∀ (qs out : List Int), out.Nodup → (addP out qs).Nodup ∧ (∀ y, y ∈ addP out qs ↔ y ∈ out ∨ y ∈ qs) ∧ (addP out qs).length ≤ out.length + qs.length
  | [], out, h => ⟨h, by simp [addP], by simp [addP]⟩
  | q :: qs, out, h => by
    simp only [addP]
    by_cases c : out.contains q = true
    · rw [if_pos c]
      obtain ⟨h1, h2, h3⟩ := addP_spec qs out h
      refine ⟨h1, fun y => ?_, by simp only [List.length_cons]; omega⟩
      rw [h2, List.mem_cons]
      have hq : q ∈ out := by simpa using c
      constructor
      · rintro (e | e)
        · exact Or.inl e
        · exact Or.inr (Or.inr e)
      · rintro (e | e | e)
        · exact Or.inl e
        · exact Or.inl (e ▸ hq)
        · exact Or.inr e
    · rw [if_neg c]
      have hq : q ∉ out := by simpa using c
      obtain ⟨h1, h2, h3⟩ := addP_spec qs (out ++ [q]) (by rw [List.nodup_append]; exact ⟨h, by simp, fun a ha b hb => by rw [List.mem_singleton.1 hb]; intro e; subst e; exact hq ha⟩)
      refine ⟨h1, fun y => ?_, by rw [List.length_append] at h3; simp only [List.length_cons, List.length_nil] at h3 ⊢; omega⟩
      rw [h2, List.mem_append, List.mem_singleton, List.mem_cons, or_assoc]
theorem addAll_spec : ∀ (xs out : List Int), out.Nodup → (addAll out xs).Nodup ∧ (∀ y, y ∈ addAll out xs ↔ y ∈ out ∨ ∃ x ∈ xs, y ∈ primes x)
  | [], out, h => ⟨h, by simp [addAll]⟩
  | x :: xs, out, h => by
    simp only [addAll]
    obtain ⟨h1, h2, _⟩ := addP_spec (primes x) out h
    obtain ⟨h3, h4⟩ := addAll_spec xs (addP out (primes x)) h1
    refine ⟨h3, fun y => ?_⟩
    rw [h4, h2]
    simp only [List.mem_cons, exists_eq_or_imp, or_assoc]
def sortI (l : List Int) : List Int := l.mergeSort fun x y => decide (x ≤ y)
theorem sortI_plc {xs : List Int} (hx : ∀ x ∈ xs, Sm x) : sortI (addAll [0, 2] xs) = plc xs := by
  obtain ⟨h1, h2⟩ := addAll_spec xs [0, 2] (by decide)
  have hperm := List.mergeSort_perm (addAll [0, 2] xs) (fun x y => decide (x ≤ y))
  have hs := List.pairwise_mergeSort (le := fun x y : Int => decide (x ≤ y)) (by intro a b c; simp only [decide_eq_true_eq]; omega) (by intro a b; simp only [Bool.or_eq_true, decide_eq_true_eq]; omega) (addAll [0, 2] xs)
  have hn : (sortI (addAll [0, 2] xs)).Nodup := hperm.nodup_iff.2 h1
  refine sorted_ext ?_ (plc_sorted xs) (fun q => ?_)
  · have := hs.and hn
    refine this.imp ?_
    intro a b h
    have h5 : a ≤ b := by simpa using h.1
    have := h.2; omega
  · show q ∈ List.mergeSort _ _ ↔ _
    rw [hperm.mem_iff, h2, plc_mem]
    constructor
    · rintro (e | ⟨x, hm, e⟩)
      · simp only [List.mem_cons, List.not_mem_nil, or_false] at e
        rcases e with e | e
        · exact ⟨by rw [e]; decide, Or.inl e⟩
        · exact ⟨by rw [e]; decide, Or.inr (Or.inl e)⟩
      · have hsx := hx x hm
        rw [primes_iff hsx.1 (sm_i hsx)] at e
        exact ⟨(prime_sm e.1 hsx e.2).1, Or.inr (Or.inr ⟨x, hm, e.2⟩)⟩
    · rintro ⟨h1, e | e | ⟨x, hm, hd2⟩⟩
      · exact Or.inl (by rw [e]; simp)
      · exact Or.inl (by rw [e]; simp)
      · have hsx := hx x hm
        rcases PP_plc h1 with e | e | e
        · exact Or.inl (by rw [e]; simp)
        · exact Or.inl (by rw [e]; simp)
        · exact Or.inr ⟨x, hm, (primes_iff hsx.1 (sm_i hsx)).2 ⟨e.1, hd2⟩⟩

end Locg
