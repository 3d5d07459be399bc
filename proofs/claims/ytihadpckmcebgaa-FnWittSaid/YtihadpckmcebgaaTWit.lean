/- Plain arithmetic: forms of one Witt class. -/
import Derived.Test.YtihadpckmcebgaaTLws
import Derived.Test.YtihadpckmcebgaaTCor
set_option linter.unusedVariables false
set_option linter.unusedSimpArgs false
namespace Locg
open Go.RowKit Go.Proofs.YtihadpckmcebgaaW.PrintWords Go.Proofs.YtihadpckmcebgaaW.PrintMore

def negF (xs : List Int) : List Int := xs.map (fun x => -x)
theorem negF_sm {xs : List Int} (hx : ∀ x ∈ xs, Sm x) : ∀ x ∈ negF xs, Sm x := by
  intro x h
  obtain ⟨y, hy, rfl⟩ := List.mem_map.1 h
  exact sm_opp (hx y hy)
theorem negF_len (xs : List Int) : (negF xs).length = xs.length := by simp [negF]
def joinW (a b : List Int) : List Int := a ++ negF b
theorem plOf_dvd (xs : List Int) (p : Int) : plOf xs p = (p == 0 || (p == 2 || xs.any (fun x => decide (p ∣ x)))) := by
  unfold plOf
  congr 2
  have : (fun x : Int => x % p == 0) = fun x => decide (p ∣ x) := by
    funext y
    rw [Bool.eq_iff_iff]; simp [Int.dvd_iff_emod_eq_zero]
  rw [this]
theorem plc_of {xs ys : List Int} (h : ∀ p, (∃ x ∈ xs, p ∣ x) ↔ ∃ y ∈ ys, p ∣ y) : plc xs = plc ys := by
  refine sorted_ext (plc_sorted _) (plc_sorted _) (fun q => ?_)
  rw [plc_mem, plc_mem, h q]
theorem plc_joinW (a b : List Int) : plc (joinW a b) = plc (a ++ b) := by
  apply plc_of
  intro p
  unfold joinW negF
  simp only [List.mem_append, List.mem_map]
  constructor
  · rintro ⟨x, h | ⟨y, hy, rfl⟩, hd⟩
    · exact ⟨x, Or.inl h, hd⟩
    · exact ⟨y, Or.inr hy, Int.dvd_neg.1 hd⟩
  · rintro ⟨x, h | h, hd⟩
    · exact ⟨x, Or.inl h, hd⟩
    · exact ⟨-x, Or.inr ⟨x, h, rfl⟩, Int.dvd_neg.2 hd⟩
theorem plc_comm (a b : List Int) : plc (a ++ b) = plc (b ++ a) := by
  apply plc_of
  intro p
  simp only [List.mem_append]
  exact ⟨fun ⟨x, h, d⟩ => ⟨x, h.symm, d⟩, fun ⟨x, h, d⟩ => ⟨x, h.symm, d⟩⟩
theorem lessF_app : ∀ (xs ys : List Int) (acc : Int), lessF (xs ++ ys) acc = lessF xs acc + lessF ys 0
  | [], ys, acc => by
    have : ∀ (zs : List Int) (a : Int), lessF zs a = a + lessF zs 0 := by
      intro zs
      induction zs with
      | nil => intro a; simp [lessF]
      | cons z zs ih =>
        intro a
        simp only [lessF]
        by_cases c : z < 0
        · rw [if_pos c, if_pos c, ih (a + 1), ih (0 + 1)]; omega
        · rw [if_neg c, if_neg c]; exact ih a
    simp only [List.nil_append, lessF]; exact this ys acc
  | x :: xs, ys, acc => by simp only [List.cons_append, lessF]; exact lessF_app xs ys _
theorem less_append (xs ys : List Int) : less (xs ++ ys) = less xs + less ys := lessF_app xs ys 0
theorem less_neg : ∀ (xs : List Int), (∀ x ∈ xs, Sm x) → less (negF xs) = xs.length - less xs
  | [], _ => rfl
  | x :: xs, hx => by
    have ih := less_neg xs (fun y hy => hx y (by simp [hy]))
    have h0 := (hx x (by simp)).1
    have e1 : less (x :: xs) = less [x] + less xs := less_append [x] xs
    have e2 : less (negF (x :: xs)) = less [-x] + less (negF xs) := less_append [-x] (negF xs)
    rw [e1, e2, ih]
    simp only [less, lessF, List.length_cons]
    split <;> split <;> omega
theorem hyp_t : ∀ p ∈ K4, p ≠ 0 → ∀ c ∈ List.range (nC p), ∀ d ∈ List.range (nC p), ∀ e ∈ List.range (nC p), vanC p [c, d, e, c ^^^ d ^^^ e] = true →
    vanC p [mC p ^^^ d, mC p ^^^ e, mC p ^^^ (c ^^^ d ^^^ e), mC p ^^^ c] = true ∧ vanC p [mC p ^^^ e, mC p ^^^ (c ^^^ d ^^^ e), mC p ^^^ c, mC p ^^^ d] = true ∧ vanC p [mC p ^^^ (c ^^^ d ^^^ e), mC p ^^^ c, mC p ^^^ d, mC p ^^^ e] = true := by decide +kernel
theorem same_t : ∀ p ∈ K4, p ≠ 0 → ∀ c ∈ List.range (nC p), ∀ d ∈ List.range (nC p), ∀ e ∈ List.range (nC p), vanC p [c, d, mC p ^^^ e, mC p ^^^ (c ^^^ d ^^^ e)] = true → symC p d c = symC p (c ^^^ d ^^^ e) e := by decide +kernel
/-- Planes of four terms at a place, told by classes. -/
theorem two_planes {xs : List Int} {p : Int} (h0 : p ≠ 0) (hl : xs.length = 4) : planes xs p = 2 ↔ van xs p = true ∧ code p (prod xs) = 0 := by
  unfold planes
  rw [if_neg h0]
  by_cases cv : van xs p = true
  · rw [if_pos cv]
    by_cases c : sqAt (prod xs) p = true
    · rw [if_pos ⟨by omega, c⟩]
      rw [sq_code, beq_iff_eq] at c
      simp [cv, c]
    · rw [if_neg (fun h => c h.2)]
      rw [sq_code, beq_iff_eq] at c
      simp [c]
  · rw [if_neg cv]; simp [cv]
theorem xor_last {a b c d : Nat} (h : a ^^^ b ^^^ c ^^^ d = 0) : d = a ^^^ b ^^^ c := (xor_zero_iff.1 h).symm
theorem van_codes {p : Int} (h : Plc p) (h0 : p ≠ 0) {a b c d : Int} (ha : Sm a) (hb : Sm b) (hc : Sm c) (hd : Sm d) : van [a, b, c, d] p = vanC p [code p a, code p b, code p c, code p d] :=
  van_code h h0 (by intro x hx; simp only [List.mem_cons, List.not_mem_nil, or_false] at hx; rcases hx with rfl | rfl | rfl | rfl; exact ha; exact hb; exact hc; exact hd) (by simp)
theorem two_planes4 {p : Int} (h : Plc p) (h0 : p ≠ 0) {a b c d : Int} (ha : Sm a) (hb : Sm b) (hc : Sm c) (hd : Sm d) : planes [a, b, c, d] p = 2 ↔ vanC p [code p a, code p b, code p c, code p d] = true ∧ code p d = code p a ^^^ code p b ^^^ code p c := by
  rw [two_planes h0 rfl, van_codes h h0 ha hb hc hd, prod4, code4 h ha hb hc hd]
  constructor
  · rintro ⟨h1, h2⟩; exact ⟨h1, xor_last h2⟩
  · rintro ⟨h1, h2⟩; refine ⟨h1, ?_⟩; rw [h2, Nat.xor_self]
/-- The opposite form, turned round, has the planes too. -/
theorem hyp_rot {p : Int} (h : Plc p) (h0 : p ≠ 0) {a b c d : Int} (ha : Sm a) (hb : Sm b) (hc : Sm c) (hd : Sm d) (hp : planes [a, b, c, d] p = 2) :
    planes [-b, -c, -d, -a] p = 2 ∧ planes [-c, -d, -a, -b] p = 2 ∧ planes [-d, -a, -b, -c] p = 2 := by
  obtain ⟨h1, h2⟩ := (two_planes4 h h0 ha hb hc hd).1 hp
  have iA := code_in (p := p) ha.1 (sm_i ha)
  have iB := code_in (p := p) hb.1 (sm_i hb)
  have iC := code_in (p := p) hc.1 (sm_i hc)
  have oa := code_opp h ha.1 (sm_i ha)
  have ob := code_opp h hb.1 (sm_i hb)
  have oc := code_opp h hc.1 (sm_i hc)
  have od := code_opp h hd.1 (sm_i hd)
  rw [h2, vanC_kd h] at h1
  rw [two_planes4 h h0 (sm_opp hb) (sm_opp hc) (sm_opp hd) (sm_opp ha), two_planes4 h h0 (sm_opp hc) (sm_opp hd) (sm_opp ha) (sm_opp hb), two_planes4 h h0 (sm_opp hd) (sm_opp ha) (sm_opp hb) (sm_opp hc)]
  rw [oa, ob, oc, od, h2]
  rw [nC_kd h] at iA iB iC
  generalize code p a = x at *
  generalize code p b = y at *
  generalize code p c = z at *
  have t := hyp_t _ (kd_mem p) (ne_kd h h0) _ iA _ iB _ iC h1
  rw [vanC_kd h, vanC_kd h, vanC_kd h, mC_kd h]
  generalize mC (kd p) = m at *
  have x1 : m ^^^ x = m ^^^ y ^^^ (m ^^^ z) ^^^ (m ^^^ (x ^^^ y ^^^ z)) := by
    apply Nat.eq_of_testBit_eq; intro i; simp only [Nat.testBit_xor]
    cases m.testBit i <;> cases x.testBit i <;> cases y.testBit i <;> cases z.testBit i <;> rfl
  have x2 : m ^^^ y = m ^^^ z ^^^ (m ^^^ (x ^^^ y ^^^ z)) ^^^ (m ^^^ x) := by
    apply Nat.eq_of_testBit_eq; intro i; simp only [Nat.testBit_xor]
    cases m.testBit i <;> cases x.testBit i <;> cases y.testBit i <;> cases z.testBit i <;> rfl
  have x3 : m ^^^ z = m ^^^ (x ^^^ y ^^^ z) ^^^ (m ^^^ x) ^^^ (m ^^^ y) := by
    apply Nat.eq_of_testBit_eq; intro i; simp only [Nat.testBit_xor]
    cases m.testBit i <;> cases x.testBit i <;> cases y.testBit i <;> cases z.testBit i <;> rfl
  exact ⟨⟨t.1, x1⟩, ⟨t.2.1, x2⟩, ⟨t.2.2, x3⟩⟩
theorem planes0 (xs : List Int) : planes xs 0 = mn (less xs) ((xs.length : Int) - less xs) := by unfold planes; rw [if_pos rfl]
theorem half_all {xs : List Int} (h : 2 * pall xs = xs.length) {p : Int} (hp : p ∈ plc xs) : 2 * planes xs p = xs.length := by
  have := pall_le hp
  have := (planes_half xs p).2
  omega
theorem half_of {xs : List Int} (h : ∀ p ∈ plc xs, 2 * planes xs p = xs.length) : 2 * pall xs = xs.length := by
  obtain ⟨_, q, hq, e⟩ := (pall_iff (xs := xs) (m := pall xs)).1 rfl
  have := h q hq
  omega
/-- Two terms, a plane. -/
theorem one_plane {p : Int} (h0 : p ≠ 0) {a b : Int} : planes [a, b] p = 1 ↔ code p (-(a * b)) = 0 := by
  unfold planes
  rw [if_neg h0]
  have e : van [a, b] p = (code p (-(a * b)) == 0) := by unfold van; rw [if_neg h0, if_pos (by simp), prod2, sq_code]
  rw [e]
  by_cases c : code p (-(a * b)) = 0
  · simp [c]
  · simp [c]
theorem witt_symm {a b : List Int} (ha : ∀ x ∈ a, Sm x) (hb : ∀ x ∈ b, Sm x) (h1 : 1 ≤ a.length) (h2 : 1 ≤ b.length) (hl : a.length + b.length ≤ 4) (h : 2 * pall (joinW a b) = (joinW a b).length) :
    2 * pall (joinW b a) = (joinW b a).length := by
  apply half_of
  intro p hp
  rw [plc_joinW, plc_comm, ← plc_joinW] at hp
  have hP := plc_plc hp
  have hh := half_all h hp
  have e1 : (joinW a b).length = a.length + b.length := by simp [joinW, negF]
  have e2 : (joinW b a).length = a.length + b.length := by simp [joinW, negF]; omega
  rw [e1] at hh; rw [e2]
  by_cases c0 : p = 0
  · subst c0
    rw [planes0] at hh ⊢
    unfold joinW at *
    rw [e1] at hh; rw [e2]
    rw [less_append, less_neg b hb] at hh
    rw [less_append, less_neg a ha]
    have := less_bd a; have := less_bd b
    unfold mn at hh ⊢
    split at hh <;> split <;> omega
  · have hab : a.length + b.length = 2 ∨ a.length + b.length = 4 := by omega
    match a, b, ha, hb, h1, h2, hab with
    | [x], [y], ha, hb, _, _, _ =>
      have h3 : planes [x, -y] p = 1 := by
          have q : planes (joinW [x] [y]) p = 1 := by simp only [List.length_cons, List.length_nil] at hh; omega
          exact q
      rw [one_plane c0] at h3
      have h4 : planes [y, -x] p = 1 := by rw [one_plane c0]; rw [← h3]; congr 1; rw [Int.mul_neg, Int.mul_neg, Int.mul_comm]
      have h5 : planes (joinW [y] [x]) p = 1 := h4
      rw [h5]; rfl
    | [x], [y, z, w], ha, hb, _, _, _ =>
      have hx := ha x (by simp); have hy := hb y (by simp); have hz := hb z (by simp); have hw := hb w (by simp)
      have h3 : planes [x, -y, -z, -w] p = 2 := by
          have q : planes (joinW [x] [y, z, w]) p = 2 := by simp only [List.length_cons, List.length_nil] at hh; omega
          exact q
      have := (hyp_rot hP c0 hx (sm_opp hy) (sm_opp hz) (sm_opp hw) h3).1
      simp only [Int.neg_neg] at this
      have h5 : planes (joinW [y, z, w] [x]) p = 2 := this
      rw [h5]; rfl
    | [x, y], [z, w], ha, hb, _, _, _ =>
      have hx := ha x (by simp); have hy := ha y (by simp); have hz := hb z (by simp); have hw := hb w (by simp)
      have h3 : planes [x, y, -z, -w] p = 2 := by
          have q : planes (joinW [x, y] [z, w]) p = 2 := by simp only [List.length_cons, List.length_nil] at hh; omega
          exact q
      have := (hyp_rot hP c0 hx hy (sm_opp hz) (sm_opp hw) h3).2.1
      simp only [Int.neg_neg] at this
      have h5 : planes (joinW [z, w] [x, y]) p = 2 := this
      rw [h5]; rfl
    | [x, y, z], [w], ha, hb, _, _, _ =>
      have hx := ha x (by simp); have hy := ha y (by simp); have hz := ha z (by simp); have hw := hb w (by simp)
      have h3 : planes [x, y, z, -w] p = 2 := by
          have q : planes (joinW [x, y, z] [w]) p = 2 := by simp only [List.length_cons, List.length_nil] at hh; omega
          exact q
      have := (hyp_rot hP c0 hx hy hz (sm_opp hw) h3).2.2
      simp only [Int.neg_neg] at this
      have h5 : planes (joinW [w] [x, y, z]) p = 2 := this
      rw [h5]; rfl
    | [], _, _, _, h1, _, _ => exact absurd h1 (by simp)
    | _, [], _, _, _, h2, _ => exact absurd h2 (by simp)
    | [_], [_, _], _, _, _, _, hab => exfalso; simp at hab
    | [_, _], [_], _, _, _, _, hab => exfalso; simp at hab
    | _ :: _ :: _ :: _ :: _, _ :: _, _, _, _, _, hab => exfalso; simp only [List.length_cons] at hl; omega
    | _ :: _ :: _ :: _, _ :: _ :: _, _, _, _, _, hab => exfalso; simp only [List.length_cons] at hl; omega
    | _ :: _ :: _, _ :: _ :: _ :: _, _, _, _, _, hab => exfalso; simp only [List.length_cons] at hl; omega
    | _ :: _, _ :: _ :: _ :: _ :: _, _, _, _, _, hab => exfalso; simp only [List.length_cons] at hl; omega
/-- As many terms: alike at each of their places. -/
theorem witt_alike {a b : List Int} (ha : ∀ x ∈ a, Sm x) (hb : ∀ x ∈ b, Sm x) (h1 : 1 ≤ a.length) (he : a.length = b.length) (hl : a.length + b.length ≤ 4) (h : 2 * pall (joinW a b) = (joinW a b).length) {p : Int} (hp : p ∈ plc (a ++ b)) :
    code p (prod a) = code p (prod b) ∧ alk a b p = true := by
  rw [← plc_joinW] at hp
  have hP := plc_plc hp
  have hh := half_all h hp
  have e1 : (joinW a b).length = a.length + b.length := by simp [joinW, negF]
  rw [e1] at hh
  have pa := prod_bd4 ha (by omega)
  have pb := prod_bd4 hb (by omega)
  by_cases c0 : p = 0
  · subst c0
    have hl2 : less a = less b := by
      rw [planes0] at hh
      unfold joinW at *
      rw [e1, less_append, less_neg b hb] at hh
      have := less_bd a; have := less_bd b
      unfold mn at hh
      split at hh <;> omega
    refine ⟨?_, by unfold alk; rw [if_pos rfl, hl2]; simp⟩
    match a, b, ha, hb, h1, he, hl with
    | [x], [y], ha, hb, _, _, _ =>
      rw [prod1, prod1, code0, code0]
      simp only [less, lessF] at hl2
      by_cases c1 : x < 0 <;> by_cases c2 : y < 0 <;> simp [c1, c2] at hl2 ⊢
    | [x, y], [z, w], ha, hb, _, _, _ =>
      have hx := ha x (by simp); have hy := ha y (by simp); have hz := hb z (by simp); have hw := hb w (by simp)
      rw [prod2, prod2, code2 hP hx hy, code2 hP hz hw, code0, code0, code0, code0]
      simp only [less, lessF] at hl2
      by_cases c1 : x < 0 <;> by_cases c2 : y < 0 <;> by_cases c3 : z < 0 <;> by_cases c4 : w < 0 <;> simp [c1, c2, c3, c4] at hl2 ⊢
    | _ :: _ :: _ :: _, b, _, _, _, he, hl => exfalso; simp only [List.length_cons] at hl he; omega
  · match a, b, ha, hb, h1, he, hl with
    | [x], [y], ha, hb, _, _, _ =>
      have hx := ha x (by simp); have hy := hb y (by simp)
      have h3 : planes [x, -y] p = 1 := by
          have q : planes (joinW [x] [y]) p = 1 := by simp only [List.length_cons, List.length_nil] at hh; omega
          exact q
      have hm := mul_sm hx hy
      rw [one_plane c0, show -(x * -y) = x * y by rw [Int.mul_neg]; omega, code2 hP hx hy] at h3
      have h4 := xor_zero_iff.1 h3
      rw [prod1, prod1]
      refine ⟨h4, (alk_iff hP c0 ha hb (by simp) (by simp)).2 ⟨by rw [prod1, prod1]; exact h4, rfl⟩⟩
    | [x, y], [z, w], ha, hb, _, _, _ =>
      have hx := ha x (by simp); have hy := ha y (by simp); have hz := hb z (by simp); have hw := hb w (by simp)
      have h3 : planes [x, y, -z, -w] p = 2 := by
          have q : planes (joinW [x, y] [z, w]) p = 2 := by simp only [List.length_cons, List.length_nil] at hh; omega
          exact q
      obtain ⟨h4, h5⟩ := (two_planes4 hP c0 hx hy (sm_opp hz) (sm_opp hw)).1 h3
      have oz := code_opp hP hz.1 (sm_i hz)
      have ow := code_opp hP hw.1 (sm_i hw)
      rw [oz, ow] at h4 h5
      have iX := code_in (p := p) hx.1 (sm_i hx)
      have iY := code_in (p := p) hy.1 (sm_i hy)
      have iZ := code_in (p := p) hz.1 (sm_i hz)
      have ew : code p w = code p x ^^^ code p y ^^^ code p z := by
        have := congrArg (fun q => mC p ^^^ q) h5
        simp only [← Nat.xor_assoc, Nat.xor_self, Nat.zero_xor] at this
        rw [this]
        generalize mC p = m
        generalize code p x = x1
        generalize code p y = y1
        generalize code p z = z1
        apply Nat.eq_of_testBit_eq; intro i; simp only [Nat.testBit_xor]
        cases m.testBit i <;> cases x1.testBit i <;> cases y1.testBit i <;> cases z1.testBit i <;> rfl
      have hprod : code p (prod [x, y]) = code p (prod [z, w]) := by
        rw [prod2, prod2, code2 hP hx hy, code2 hP hz hw, ew]
        generalize code p x = x1
        generalize code p y = y1
        generalize code p z = z1
        apply Nat.eq_of_testBit_eq; intro i; simp only [Nat.testBit_xor]
        cases x1.testBit i <;> cases y1.testBit i <;> cases z1.testBit i <;> rfl
      refine ⟨hprod, (alk_iff hP c0 ha hb (by simp) (by simp)).2 ⟨hprod, ?_⟩⟩
      have i1 : inv [x, y] p = sym y x p := by simp [inv, outr, inn]
      have i2 : inv [z, w] p = sym w z p := by simp [inv, outr, inn]
      rw [i1, i2]
      unfold sym
      rw [ew] at h4 ⊢
      rw [vanC_kd hP, mC_kd hP] at h4
      rw [symC_kd hP, symC_kd hP]
      rw [nC_kd hP] at iX iY iZ
      exact same_t _ (kd_mem p) (ne_kd hP c0) _ iX _ iY _ iZ h4
    | _ :: _ :: _ :: _, b, _, _, _, he, hl => exfalso; simp only [List.length_cons] at hl he; omega
theorem prod_app2 (xs ys : List Int) : prod (xs ++ ys) = prod xs * prod ys := by
  have key : ∀ (zs : List Int) (acc : Int), prodF zs acc = acc * prodF zs 1 := by
    intro zs
    induction zs with
    | nil => intro acc; simp [prodF]
    | cons z zs ih =>
      intro acc
      simp only [prodF]
      rw [ih (acc * z), ih (1 * z)]; grind
  have : ∀ (xs : List Int) (acc : Int), prodF (xs ++ ys) acc = prodF xs acc * prodF ys 1 := by
    intro xs
    induction xs with
    | nil => intro acc; simp only [List.nil_append, prodF]; exact key ys acc
    | cons x xs ih => intro acc; simp only [List.cons_append, prodF]; exact ih _
  exact this xs 1
theorem witt_disc {a b : List Int} (ha : ∀ x ∈ a, Sm x) (hb : ∀ x ∈ b, Sm x) (h1 : 1 ≤ a.length) (he : a.length = b.length) (hl : a.length + b.length ≤ 4) (h : 2 * pall (joinW a b) = (joinW a b).length) :
    (coreF (prod a)).1 = (coreF (prod b)).1 := by
  have pa := prod_bd4 ha (by omega)
  have pb := prod_bd4 hb (by omega)
  have hx : ∀ x ∈ a ++ b, Sm x := by intro x hx; rcases List.mem_append.1 hx with e | e; exact ha x e; exact hb x e
  have m := pp_sm ha hb (by omega) (by omega)
  obtain ⟨k, _, e⟩ := prod_square (xs := a ++ b) (n := prod a * prod b) hx m.1 m.2 (by rw [prod_app2]) (fun p hp => by
    have := (witt_alike ha hb h1 he hl h hp).1
    rw [code_mul (plc_plc hp) pa.1 pb.1 m.2, this, Nat.xor_self])
  exact core_eq pa.1 (by omega) pb.1 (by omega) e

end Locg
