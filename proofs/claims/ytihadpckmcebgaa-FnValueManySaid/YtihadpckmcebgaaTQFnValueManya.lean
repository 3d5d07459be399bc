/- Vectors, counted. -/
import Derived.Test.YtihadpckmcebgaaTPFnValueManyx6
import Derived.Test.YtihadpckmcebgaaTVcn
import Derived.Test.YtihadpckmcebgaaTPlain
set_option linter.unusedVariables false
set_option linter.unusedSimpArgs false
namespace Go.Proofs.Ytihadpckmcebgaa.QFnValueMany
open Go.RowKit Go.Proofs.Ytihadpckmcebgaa.PFnValueMany Go.Proofs.YtihadpckmcebgaaW.PrintWords Go.Proofs.YtihadpckmcebgaaW.PrintLast Go.Proofs.YtihadpckmcebgaaW.PrintMore Locg

/-! ### draws -/
theorem xor_i64_nat (a b : Nat) (ha : a < 9223372036854775808) (hb : b < 9223372036854775808) : Go.bits .xor .i64 (a : Int) (b : Int) = ((a ^^^ b : Nat) : Int) := by
  have hx : a ^^^ b < 2 ^ 63 := Nat.xor_lt_two_pow (by omega) (by omega)
  have h1 : (BitVec.ofInt 64 (a : Int)).toNat = a := by
    rw [BitVec.ofInt_natCast, BitVec.toNat_ofNat]; exact Nat.mod_eq_of_lt (by omega)
  have h2 : (BitVec.ofInt 64 (b : Int)).toNat = b := by
    rw [BitVec.ofInt_natCast, BitVec.toNat_ofNat]; exact Nat.mod_eq_of_lt (by omega)
  show IntKind.i64.wrap ((BitVec.ofInt 64 (a : Int) ^^^ BitVec.ofInt 64 (b : Int)).toNat : Int) = _
  rw [BitVec.toNat_xor, h1, h2]
  have hw : ∀ n : Int, IntKind.i64.wrap n = wrap64 n := fun n => by simp [IntKind.wrap, wrap64, IntKind.bits, IntKind.signed]; omega
  rw [hw]
  exact w64' (by omega) (by omega)
theorem xor_nonneg (a b : Int) (ha : 0 ≤ a) (hA : a < 9223372036854775808) (hb : 0 ≤ b) (hB : b < 9223372036854775808) : 0 ≤ Go.bits .xor .i64 a b := by
  obtain ⟨a, rfl⟩ := Int.eq_ofNat_of_zero_le ha
  obtain ⟨b, rfl⟩ := Int.eq_ofNat_of_zero_le hb
  rw [xor_i64_nat a b (by omega) (by omega)]
  exact Int.natCast_nonneg _
theorem tmod_range {x n : Int} (hx : 0 ≤ x) (hn : 1 ≤ n) : 0 ≤ x.tmod n ∧ x.tmod n < n := by
  rw [Int.tmod_eq_emod_of_nonneg hx]; exact ⟨Int.emod_nonneg _ (by omega), Int.emod_lt_of_pos _ (by omega)⟩
def BytesB (b : List Int) : Prop := (∀ x ∈ b, 0 ≤ x ∧ x ≤ 255) ∧ b.length ≤ 2000
theorem BytesB.rd_ {b : List Int} (h : BytesB b) (i : Int) : 0 ≤ rd b i ∧ rd b i ≤ 255 := by
  unfold rd
  by_cases c : i.toNat < b.length
  · have := h.1 (b[i.toNat]) (by simp)
    simpa [List.getElem?_eq_getElem c] using this
  · simp [List.getElem?_eq_none (show b.length ≤ i.toNat by omega)]
/-- What the reader mixes at a place. -/
def pv (b : List Int) (p : Int) : Int := if b.length = 0 then 0 else if p < (b.length : Int) then rd b p else
  Go.bits .xor .i64 (rd b (p.tmod b.length) * 131 + rd b ((p * 7 + 3).tmod b.length) * 1117 + p * 29 + p.tdiv b.length * 53) ((rd b (p.tmod b.length) * 131 + rd b ((p * 7 + 3).tmod b.length) * 1117 + p * 29 + p.tdiv b.length * 53).tdiv 64)
theorem pick_at {b : List Int} (hb : BytesB b) {p : Int} (hp : 0 ≤ p) (hP : p ≤ 1000000000000000) {n : Int} (hn : 1 ≤ n) :
    0 ≤ pv b p ∧ Ev (fun k => spec_l6Rd_pick.f k b p n) ((pv b p).tmod n, p + 1) := by
  have hl := hb.2
  unfold pv
  rcases Nat.eq_zero_or_pos b.length with h0 | h0
  · rw [if_pos h0, Int.zero_tmod]
    refine ⟨by omega, Ev.step (f := fun _ => some (0, p + 1)) (fun k => ?_) (Ev.now _)⟩
    simp only [spec_l6Rd_pick.f, spec_l6Rd_pick.j0]
    rw [if_neg (by omega), w64 (x := p + 1) (by omega) (by omega), if_pos (by simp [h0])]
  · have e : ∀ k, spec_l6Rd_pick.f (k + 1) b p n = spec_l6Rd_pick.j0 (k + 1) n false b (p + 1) := by
      intro k
      simp only [spec_l6Rd_pick.f]
      rw [if_neg (by omega), w64 (x := p + 1) (by omega) (by omega)]
      congr 1
      simp; intro h; rw [h] at h0; simp at h0
    have hq : wrap64 (p + 1 - 1) = p := by rw [w64 (by omega) (by omega)]; omega
    rw [if_neg (by omega)]
    by_cases c : p < b.length
    · rw [if_pos c]
      refine ⟨(hb.rd_ p).1, Ev.step (f := fun _ => some ((rd b p).tmod n, p + 1)) (fun k => ?_) (Ev.now _)⟩
      have := hb.rd_ p
      rw [e]
      simp only [spec_l6Rd_pick.j0, hq]
      rw [if_neg (by simp), if_pos c, if_pos hp, if_neg (by omega), w64 (x := rd b p) (by omega) (by omega)]
    · rw [if_neg c]
      have hm := tmod_range hp (n := b.length) (by omega)
      have e7 : wrap64 (p * 7) = p * 7 := w64 (by omega) (by omega)
      have e73 : wrap64 (p * 7 + 3) = p * 7 + 3 := w64 (by omega) (by omega)
      have e29 : wrap64 (p * 29) = p * 29 := w64 (by omega) (by omega)
      have hm2 := tmod_range (x := p * 7 + 3) (by omega) (n := b.length) (by omega)
      have hA := hb.rd_ (p.tmod b.length)
      have hB := hb.rd_ ((p * 7 + 3).tmod b.length)
      have hd : 0 ≤ p.tdiv b.length ∧ p.tdiv b.length ≤ p := by
        rw [Int.tdiv_eq_ediv_of_nonneg hp]; exact ⟨Int.ediv_nonneg hp (by omega), Int.ediv_le_self _ hp⟩
      generalize hAe : rd b (p.tmod b.length) = A at hA
      generalize hBe : rd b ((p * 7 + 3).tmod b.length) = B at hB
      generalize hDe : p.tdiv b.length = D at hd
      have hx64 : 0 ≤ (A * 131 + B * 1117 + p * 29 + D * 53).tdiv 64 ∧ (A * 131 + B * 1117 + p * 29 + D * 53).tdiv 64 ≤ A * 131 + B * 1117 + p * 29 + D * 53 := by
        rw [Int.tdiv_eq_ediv_of_nonneg (by omega)]; omega
      have hx := xor_nonneg (A * 131 + B * 1117 + p * 29 + D * 53) ((A * 131 + B * 1117 + p * 29 + D * 53).tdiv 64) (by omega) (by omega) (by omega) (by omega)
      refine ⟨hx, Ev.step (f := fun _ => some (_, p + 1)) (fun k => ?_) (Ev.now _)⟩
      rw [e]
      simp only [spec_l6Rd_pick.j0, hq, e7, e73, hAe, hBe, hDe, e29]
      rw [if_neg (by simp), if_neg c, if_neg (by omega), if_pos hm.1, if_pos hm.2, if_pos hm2.1, if_pos hm2.2, if_neg (by omega)]
      rw [w64 (x := A) (by omega) (by omega), w64 (x := B) (by omega) (by omega), w64 (x := D) (by omega) (by omega), w64 (x := A * 131) (by omega) (by omega), w64 (x := B * 1117) (by omega) (by omega),
        w64 (x := A * 131 + B * 1117) (by omega) (by omega), w64 (x := A * 131 + B * 1117 + p * 29) (by omega) (by omega), w64 (x := D * 53) (by omega) (by omega),
        w64 (x := A * 131 + B * 1117 + p * 29 + D * 53) (by omega) (by omega), w64 (x := (A * 131 + B * 1117 + p * 29 + D * 53).tdiv 64) (by omega) (by omega)]
theorem pick_ev {b : List Int} (hb : BytesB b) {p : Int} (hp : 0 ≤ p) (hP : p ≤ 1000000000000000) {n : Int} (hn : 1 ≤ n) :
    ∃ v, 0 ≤ v ∧ v < n ∧ Ev (fun k => spec_l6Rd_pick.f k b p n) (v, p + 1) := by
  obtain ⟨h, e⟩ := pick_at hb hp hP hn
  exact ⟨_, (tmod_range h hn).1, (tmod_range h hn).2, e⟩
theorem open_ev {l : List Int} (h : ∀ x ∈ l, (Lit.int .u8 x).wf = true) : ∃ b, BytesB b ∧ spec_l6Open.f l = some (b, 0) := by
  have h' : ∀ x ∈ l, 0 ≤ x ∧ x ≤ 255 := fun x hx => by
    have := h x hx
    simp only [Lit.wf, Bool.and_eq_true, decide_eq_true_eq] at this
    have e1 : IntKind.u8.min = 0 := by decide
    have e2 : IntKind.u8.max = 255 := by decide
    omega
  unfold spec_l6Open.f
  by_cases c : (l.length : Int) > 2000
  · refine ⟨l.take 2000, ⟨fun x hx => h' x (List.mem_of_mem_take hx), by simp; omega⟩, ?_⟩
    rw [if_pos c, if_pos (by omega)]
  · exact ⟨l, ⟨h', by omega⟩, by rw [if_neg c]⟩


/-! ### split -/
theorem split_l {p : Int} (hp : 2 ≤ p) : ∀ (d : Nat) (n j : Int), n ≠ 0 → n.natAbs < 2 ^ d → d ≤ 63 → 0 ≤ j → j + d ≤ 1000 →
    ∀ k, d < k → impl_split.l0 k n p j = some (j + (spl p d n).1, (spl p d n).2) := by
  intro d
  induction d with
  | zero => intro n j hn h; simp at h; omega
  | succ d ih =>
    intro n j hn h hd hj hJ k hk
    obtain ⟨k, rfl⟩ : ∃ m, k = m + 1 := ⟨k - 1, by omega⟩
    simp only [impl_split.l0]
    rw [if_neg (by omega)]
    by_cases c : n.tmod p = 0
    · obtain ⟨h0, h1, h2, h3, _⟩ := tdiv_abs hp hn c
      have hlt : n.natAbs < 2 ^ 63 := Nat.lt_of_lt_of_le h (Nat.pow_le_pow_right (by omega) hd)
      rw [if_pos c, w64 (x := n.tdiv p) (by omega) (by omega), spl_dvd d c, w64 (x := j + 1) (by omega) (by omega),
        ih (n.tdiv p) (j + 1) h0 (by rw [Nat.pow_succ] at h; omega) (by omega) (by omega) (by omega) k (by omega)]
      simp only [Option.some.injEq, Prod.mk.injEq, and_true]; omega
    · rw [if_neg c, spl_not d c]
      simp
theorem split_at {n p : Int} (hp : 2 ≤ p) (hn : n ≠ 0) (h : n.natAbs < 2 ^ 63) (k : Nat) (hk : 63 < k) : impl_split.f k n p = some (val p n, unit p n) := by
  unfold impl_split.f val unit
  rw [split_l hp 63 n 0 hn h (by omega) (by omega) (by omega) k hk, ← spl_more hp 63 n hn h]
  simp
theorem split_ev {n p : Int} (hp : 2 ≤ p) (hn : n ≠ 0) (h : n.natAbs < 2 ^ 63) : Ev (fun k => impl_split.f k n p) (val p n, unit p n) := ⟨64, fun k hk => split_at hp hn h k (by omega)⟩


/-! ### valuations -/

/-! ### primes -/
theorem primesOf_l : ∀ (d : Nat) (n p : Int) (out : List Int), 0 < n → n ≤ 1000000000000 → 2 ≤ p → p ≤ 1000002 → n + 2 - p ≤ d → 1 ≤ d → out.length + d ≤ 17000000000000 →
    ∀ k, d + 64 < k → impl_primesOf.l0 k n out p = some (out ++ pl d n p) := by
  intro d
  induction d with
  | zero => intro n p out hn hN hp hP hd h1; omega
  | succ d ih =>
    intro n p out hn hN hp hP hd h1 hl k hk
    obtain ⟨k, rfl⟩ : ∃ m, k = m + 1 := ⟨k - 1, by omega⟩
    simp only [impl_primesOf.l0, pl]
    rw [wmul (a := p) (b := p) (by omega) (by omega) (by omega) (by omega)]
    by_cases c : p * p ≤ n
    · have hpn : 2 * p ≤ n := by have := Int.mul_le_mul_of_nonneg_right hp (show 0 ≤ p by omega); omega
      have hp6 : p ≤ 1000000 := le_of_sq (by omega) (by omega)
      rw [if_pos c, if_neg (by omega), if_pos c, w64 (x := p + 1) (by omega) (by omega)]
      by_cases c2 : n.tmod p = 0
      · have hv := val_spec hp (show n ≠ 0 by omega) (by omega)
        rw [if_pos c2, if_pos (by omega), split_at hp (by omega) (by omega) k (by omega), if_pos c2]
        simp only [Option.bind_some]
        rw [ih (unit p n) (p + 1) (out ++ [p]) (hv.2.2.2.2.2.2 hn) (by omega) (by omega) (by omega) (by omega) (by omega) (by simp; omega) k (by omega)]
        simp
      · rw [if_neg c2, if_neg c2]
        exact ih n (p + 1) out hn hN (by omega) (by omega) (by omega) (by omega) (by omega) k (by omega)
    · rw [if_neg c, if_neg c]
      by_cases c2 : n > 1
      · rw [if_pos c2, if_pos c2, if_pos (by omega)]
      · rw [if_neg c2, if_neg c2]; simp
theorem primesOf_ev {n : Int} (hn : n ≠ 0) (h : n.natAbs ≤ 1000000000000) : Ev (fun k => impl_primesOf.f k n) (primes n) := by
  refine ⟨n.natAbs + 67, fun k hk => ?_⟩
  simp only [impl_primesOf.f, impl_size.f, Option.bind_some]
  rw [size_ev (by omega) (by omega), primesOf_l (n.natAbs + 2) (absI n) 2 [] (by unfold absI; omega) (by unfold absI; omega) (by omega) (by omega) (by unfold absI; omega) (by omega) (by simp; omega) k (by omega)]
  rfl


/-! ### primes, of the reference -/

/-! ### residues, squares and symbols at a place -/
theorem implRest_eq {a m : Int} (h : 0 < m) (hm : m ≤ 5000) (ha : a.natAbs < 2 ^ 63) : impl_rest.f a m = some (a % m) := by
  unfold impl_rest.f
  have h1 := Int.tmod_lt_of_pos a h
  have h2 : -m < Int.tmod a m := by
    have := Int.tmod_lt_of_pos (-a) h; rw [Int.neg_tmod] at this; omega
  rw [if_neg (by omega), w64 (by omega) (by omega), rest_eq a h]
theorem implResidue_l {p r : Int} (hp : 3 ≤ p) (hP : p ≤ 5000) : ∀ (d : Nat) (x : Int), 1 ≤ x → p.tdiv 2 + 2 ≤ x + d → x ≤ 5001 →
    Ev (fun k => impl_residue.l0 k p r x) (resS p r d x) := by
  have e2 : p.tdiv 2 = p / 2 := tdiv2 (by omega)
  intro d
  induction d with
  | zero =>
    intro x h1 h2 h3
    refine Ev.step (f := fun _ => some (-1)) (fun k => ?_) (Ev.now _)
    simp only [impl_residue.l0]
    rw [w64 (x := p.tdiv 2) (by omega) (by omega), if_neg (by omega)]
  | succ d ih =>
    intro x h1 h2 h3
    by_cases c : x ≤ p.tdiv 2
    · have hxx := wmul (a := x) (b := x) (by omega) (by omega) (by omega) (by omega)
      by_cases c2 : (x * x).tmod p = r
      · refine Ev.step (f := fun _ => some 1) (fun k => ?_) (by simp only [resS, if_pos c, if_pos c2]; exact Ev.now _)
        simp only [impl_residue.l0]
        rw [w64 (x := p.tdiv 2) (by omega) (by omega), if_pos c, if_neg (by omega), hxx, if_pos c2]
      · refine Ev.step (fun k => ?_) (by simp only [resS, if_pos c, if_neg c2]; exact ih (x + 1) (by omega) (by omega) (by omega))
        simp only [impl_residue.l0]
        rw [w64 (x := p.tdiv 2) (by omega) (by omega), if_pos c, if_neg (by omega), hxx, if_neg c2, w64 (x := x + 1) (by omega) (by omega)]
    · refine Ev.step (f := fun _ => some (-1)) (fun k => ?_) (by simp only [resS, if_neg c]; exact Ev.now _)
      simp only [impl_residue.l0]
      rw [w64 (x := p.tdiv 2) (by omega) (by omega), if_neg c]
theorem implResidue_ev {p u : Int} (h : OddP p) (hu : u.natAbs < 2 ^ 63) : Ev (fun k => impl_residue.f k u p) (res p u) := by
  have hp := h.2
  unfold impl_residue.f
  simp only [implRest_eq (show 0 < p by omega) (by omega) hu, Option.bind_some]
  unfold res resR
  by_cases c : u % p = 0
  · simp only [if_pos c]; exact Ev.now _
  · simp only [if_neg c]
    exact implResidue_l (by omega) (by omega) _ 1 (by omega) (by rw [tdiv2 (by omega)]; omega) (by omega)
theorem implSq_ev {n p : Int} (h : Plc p) (hn : n ≠ 0) (hN : n.natAbs < 2 ^ 63) : Ev (fun k => impl_localSquare.f k n p) (sqAt n p) := by
  unfold impl_localSquare.f
  rcases h with rfl | h
  · simp only [if_true, code_zero hn]; exact Ev.now _
  · have hp := P7_bd h
    obtain ⟨_, v2, v3, v4, v5, v6, _⟩ := val_spec hp hn hN
    simp only [if_neg (show ¬ p = 0 by omega)]
    refine (split_ev hp hn hN).bind ?_
    simp only
    have hpar := par_cases (val p n)
    have hm : (val p n).tmod 2 = val p n % 2 := Int.tmod_eq_emod_of_nonneg v3
    by_cases c : (val p n).tmod 2 = 0
    · simp only [if_pos c]
      rcases h with rfl | h6
      · simp only [if_true, implRest_eq (a := unit 2 n) (m := 8) (by omega) (by omega) (by omega), Option.bind_some]
        have := unit2 hn hN
        have e : sqAt n 2 = (unit 2 n % 8 == 1) := by
          unfold sqAt code
          simp only [show ¬ (2 : Int) = 0 from by omega, if_false, if_true, show par (val 2 n) = 0 from by omega]
          rcases this with h | h | h | h <;> rw [h] <;> rfl
        rw [e]; exact Ev.now _
      · have h2 := h6.2
        simp only [if_neg (show ¬ p = 2 by omega)]
        refine (implResidue_ev h6 (by omega)).bind ?_
        have e : sqAt n p = (res p (unit p n) == 1) := by
          unfold sqAt code
          simp only [if_neg (show ¬ p = 0 by omega), if_neg (show ¬ p = 2 by omega), show par (val p n) = 0 from by omega]
          by_cases c : res p (unit p n) = 1
          · simp [c]
          · simp [c]
        rw [e]; exact Ev.now _
    · simp only [if_neg c]
      have e : sqAt n p = false := by
        unfold sqAt code
        simp only [if_neg (show ¬ p = 0 by omega), show par (val p n) = 1 from by omega]
        split
        · rename_i h2; subst h2; rw [show par (val 2 n) = 1 from by omega]; simp
        · simp
      rw [e]; exact Ev.now _

/-! ### symbols -/
theorem power_ev {t e : Int} (he : e = 0 ∨ e = 1) (ht : t = 1 ∨ t = -1) : Ev (fun k => impl_power.f k t e) (if e = 1 then t else 1) := by
  refine ⟨2, fun k hk => ?_⟩
  obtain ⟨m, rfl⟩ : ∃ m, k = m + 2 := ⟨k - 2, by omega⟩
  rcases he with rfl | rfl <;> rcases ht with rfl | rfl <;> simp [impl_power.f, impl_power.l0, wrap64]
theorem symOdd {p a b : Int} (h : OddP p) (ha : a ≠ 0) (hb : b ≠ 0) (hA : a.natAbs < 2 ^ 63) (hB : b.natAbs < 2 ^ 63) :
    sym a b p = (if (val p a * val p b) % 2 = 1 ∧ p % 4 = 3 then -1 else 1) * (if val p b % 2 = 1 then res p (unit p a) else 1) * (if val p a % 2 = 1 then res p (unit p b) else 1) := by
  have hp := h.2
  obtain ⟨_, a2, a3, _⟩ := val_spec (p := p) (by omega) ha hA
  obtain ⟨_, b2, b3, _⟩ := val_spec (p := p) (by omega) hb hB
  have ra := res_pm h (tmod_ne a2)
  have rb := res_pm h (tmod_ne b2)
  have pa := par_cases (val p a)
  have pb := par_cases (val p b)
  unfold sym symC code
  simp only [if_neg (show ¬ p = 0 by omega), if_neg (show ¬ p = 2 by omega), Int.mul_emod (val p a) (val p b) 2]
  rcases ra with r | r <;> rcases rb with s | s <;> rcases pa with ⟨q, q'⟩ | ⟨q, q'⟩ <;> rcases pb with ⟨t, t'⟩ | ⟨t, t'⟩ <;> rw [r, s, q, q', t, t'] <;> simp
theorem half_odd {p m : Int} (h : OddP p) (hm : 0 ≤ m) : ((m * (p - 1)).tdiv 2).tmod 2 = (if m % 2 = 1 ∧ p % 4 = 3 then 1 else 0) ∧ (m * ((p - 1).tdiv 2)).tmod 2 = (if m % 2 = 1 ∧ p % 4 = 3 then 1 else 0) := by
  have hp := h.2
  have ho := prime_odd h.1 hp.1
  have e1 : (p - 1).tdiv 2 = (p - 1) / 2 := tdiv2 (by omega)
  have e2 : m * (p - 1) = 2 * (m * ((p - 1) / 2)) := by
    rw [Int.mul_left_comm]; congr 1; omega
  have h1 : 0 ≤ m * ((p - 1) / 2) := Int.mul_nonneg hm (by omega)
  have e3 : (m * (p - 1)).tdiv 2 = m * ((p - 1) / 2) := by rw [e2]; exact Int.mul_tdiv_cancel_left _ (by omega)
  rw [e3, e1, Int.tmod_eq_emod_of_nonneg h1]
  have key : m * ((p - 1) / 2) % 2 = (if m % 2 = 1 ∧ p % 4 = 3 then 1 else 0) := by
    rw [Int.mul_emod]
    have hm2 : m % 2 = 0 ∨ m % 2 = 1 := by omega
    have hq : (p % 4 = 3 ∧ (p - 1) / 2 % 2 = 1) ∨ (p % 4 = 1 ∧ (p - 1) / 2 % 2 = 0) := by omega
    rcases hm2 with e | e <;> rcases hq with ⟨f, g⟩ | ⟨f, g⟩ <;> rw [e, f, g] <;> rfl
  exact ⟨key, key⟩
theorem two8 {x : Int} (h : x = 1 ∨ x = 3 ∨ x = 5 ∨ x = 7) : wrap64 (Int.tdiv (wrap64 (x - 1)) 2) = (x - 1) / 2 ∧ wrap64 (wrap64 (x * x) - 1) = 8 * ((x * x - 1) / 8) ∧ 0 ≤ (x - 1) / 2 ∧ (x - 1) / 2 ≤ 3 ∧ 0 ≤ (x * x - 1) / 8 ∧ (x * x - 1) / 8 ≤ 6 := by
  rcases h with rfl | rfl | rfl | rfl <;> decide +kernel
theorem symTwo {a b : Int} (ha : a ≠ 0) (hb : b ≠ 0) (hA : a.natAbs < 2 ^ 63) (hB : b.natAbs < 2 ^ 63) :
    sym a b 2 = (if ((unit 2 a % 8 - 1) / 2 * ((unit 2 b % 8 - 1) / 2) + val 2 a * ((unit 2 b % 8 * (unit 2 b % 8) - 1) / 8) + val 2 b * ((unit 2 a % 8 * (unit 2 a % 8) - 1) / 8)) % 2 = 1 then -1 else 1) := by
  have ua := unit2 ha hA
  have ub := unit2 hb hB
  have pa := par_cases (val 2 a)
  have pb := par_cases (val 2 b)
  unfold sym code
  simp only [show ¬ (2 : Int) = 0 from by omega, if_false, if_true]
  rcases ua with h | h | h | h <;> rcases ub with h' | h' | h' | h' <;> rw [h, h'] <;>
    rcases pa with ⟨q, q'⟩ | ⟨q, q'⟩ <;> rcases pb with ⟨t, t'⟩ | ⟨t, t'⟩ <;> rw [q, t] <;>
    first
    | (rw [if_pos (by omega)]; decide)
    | (rw [if_neg (by omega)]; decide)
theorem implSymbol_ev {p a b : Int} (h : Plc p) (ha : a ≠ 0) (hb : b ≠ 0) (hA : a.natAbs < 2 ^ 63) (hB : b.natAbs < 2 ^ 63) : Ev (fun k => impl_symbol.f k a b p) (sym a b p) := by
  unfold impl_symbol.f
  rcases h with rfl | h
  · simp only [if_true]
    unfold sym symC code
    by_cases c1 : a < 0
    · by_cases c2 : b < 0
      · simp only [if_pos c1, if_pos c2]; exact Ev.now _
      · simp only [if_pos c1, if_neg c2]; exact Ev.now _
    · simp only [if_neg c1]
      by_cases c2 : b < 0
      · simp only [if_pos c2]; exact Ev.now _
      · simp only [if_neg c2]; exact Ev.now _
  · have hp := P7_bd h
    obtain ⟨_, a2, a3, a4, a5, a6, _⟩ := val_spec hp ha hA
    obtain ⟨_, b2, b3, b4, b5, b6, _⟩ := val_spec hp hb hB
    simp only [if_neg (show ¬ p = 0 by omega)]
    refine (split_ev hp ha hA).bind ((split_ev hp hb hB).bind ?_)
    simp only
    rcases h with rfl | h6
    · simp only [if_true, implRest_eq (a := unit 2 a) (m := 8) (by omega) (by omega) (by omega), implRest_eq (a := unit 2 b) (m := 8) (by omega) (by omega) (by omega), Option.bind_some]
      have ta := two8 (unit2 ha hA)
      have tb := two8 (unit2 hb hB)
      rw [symTwo ha hb hA hB]
      generalize unit 2 a % 8 = x at ta
      generalize unit 2 b % 8 = y at tb
      generalize val 2 a = i at a3 a4
      generalize val 2 b = j at b3 b4
      simp only [ta.1, tb.1, ta.2.1, tb.2.1]
      obtain ⟨_, _, x1, x2, x3, x4⟩ := ta
      obtain ⟨_, _, y1, y2, y3, y4⟩ := tb
      generalize (x - 1) / 2 = X1 at x1 x2
      generalize (y - 1) / 2 = Y1 at y1 y2
      generalize (x * x - 1) / 8 = X2 at x3 x4
      generalize (y * y - 1) / 8 = Y2 at y3 y4
      have m0 := Int.mul_nonneg x1 y1
      have M0 := mul_le2 x1 x2 y1 y2
      have m1 := Int.mul_nonneg a3 y3
      have M1 := mul_le2 a3 (show i ≤ 63 by omega) y3 y4
      have m2 := Int.mul_nonneg b3 x3
      have M2 := mul_le2 b3 (show j ≤ 63 by omega) x3 x4
      have d1 : i * (8 * Y2) = 8 * (i * Y2) := by rw [Int.mul_left_comm]
      have d2 : j * (8 * X2) = 8 * (j * X2) := by rw [Int.mul_left_comm]
      rw [d1, d2]
      generalize X1 * Y1 = A at m0 M0
      generalize i * Y2 = B at m1 M1
      generalize j * X2 = C at m2 M2
      have e1 : (8 * B).tdiv 8 = B := Int.mul_tdiv_cancel_left _ (by omega)
      have e2 : (8 * C).tdiv 8 = C := Int.mul_tdiv_cancel_left _ (by omega)
      simp only [w64 (x := A) (by omega) (by omega), w64 (x := 8 * B) (by omega) (by omega), w64 (x := 8 * C) (by omega) (by omega), e1, e2, w64 (x := B) (by omega) (by omega), w64 (x := C) (by omega) (by omega),
        w64 (x := A + B) (by omega) (by omega), w64 (x := A + B + C) (by omega) (by omega), Int.tmod_eq_emod_of_nonneg (show 0 ≤ A + B + C by omega)]
      refine (power_ev (t := -1) (e := (A + B + C) % 2) (by omega) (by omega)).bind ?_
      exact Ev.now _
    · have h2 := h6.2
      simp only [if_neg (show ¬ p = 2 by omega)]
      have ra := res_pm h6 (tmod_ne a2)
      have rb := res_pm h6 (tmod_ne b2)
      have ea := implResidue_ev h6 (u := unit p a) (by omega)
      have eb := implResidue_ev h6 (u := unit p b) (by omega)
      rw [symOdd h6 ha hb hA hB]
      generalize res p (unit p a) = r at ra ea
      generalize res p (unit p b) = s at rb eb
      have m1 := Int.mul_nonneg a3 b3
      have M1 := mul_le2 a3 (show val p a ≤ 63 by omega) b3 (show val p b ≤ 63 by omega)
      have m2 := Int.mul_nonneg m1 (show 0 ≤ p - 1 by omega)
      have M2 := mul_le2 m1 (show val p a * val p b ≤ 4000 by omega) (show 0 ≤ p - 1 by omega) (show p - 1 ≤ 4999 by omega)
      have hh := (half_odd h6 m1).1
      have e1 : (val p b).tmod 2 = val p b % 2 := Int.tmod_eq_emod_of_nonneg b3
      have e2 : (val p a).tmod 2 = val p a % 2 := Int.tmod_eq_emod_of_nonneg a3
      have ht := tdiv2 m2
      simp only [w64 (x := val p a * val p b) (by omega) (by omega), w64 (x := p - 1) (by omega) (by omega), w64 (x := val p a * val p b * (p - 1)) (by omega) (by omega), w64 (x := (val p a * val p b * (p - 1)).tdiv 2) (by omega) (by omega), hh, e1, e2]
      refine (power_ev (t := -1) (by split <;> simp) (by omega)).bind (ea.bind ((power_ev (t := r) (e := val p b % 2) (by omega) (by omega)).bind (eb.bind ((power_ev (t := s) (e := val p a % 2) (by omega) (by omega)).bind ?_))))
      have w1 : ∀ x : Int, x = 1 ∨ x = -1 → wrap64 x = x := fun x hx => w64 (by omega) (by omega)
      have f1 : ∀ c : Prop, ∀ _ : Decidable c, (if (if c then (1 : Int) else 0) = 1 then (-1 : Int) else 1) = if c then -1 else 1 := by intro c _; split <;> simp
      rw [f1]
      generalize hX : (if (val p a * val p b) % 2 = 1 ∧ p % 4 = 3 then (-1 : Int) else 1) = X
      generalize hY : (if val p b % 2 = 1 then r else 1) = Y
      generalize hZ : (if val p a % 2 = 1 then s else 1) = Z
      have gX : X = 1 ∨ X = -1 := by rw [← hX]; split <;> simp
      have gY : Y = 1 ∨ Y = -1 := by rw [← hY]; split <;> omega
      have gZ : Z = 1 ∨ Z = -1 := by rw [← hZ]; split <;> omega
      have e3 : wrap64 (wrap64 (X * Y) * Z) = X * Y * Z := by rcases gX with rfl | rfl <;> rcases gY with rfl | rfl <;> rcases gZ with rfl | rfl <;> decide +kernel
      rw [e3]; exact Ev.now _

/-! ### forms -/
theorem implFormValid_l (xs : List Int) (hx : ∀ x ∈ xs, x.natAbs ≤ 1000000) (hl : xs.length ≤ 100) : ∀ (d j : Nat), j + d = xs.length →
    Ev (fun k => impl_FormValid.l0 k xs xs (xs.length : Int) j) ((xs.drop j).all (fun x => decide (x ≠ 0) && decide (x.natAbs ≤ 30)) && (decide (1 ≤ xs.length) && decide (xs.length ≤ 4))) := by
  intro d
  induction d with
  | zero =>
    intro j hj
    rw [List.drop_of_length_le (by omega)]
    refine Ev.step (f := fun _ => some (decide (1 ≤ xs.length) && decide (xs.length ≤ 4))) (fun k => ?_) (by simpa using Ev.now _)
    simp only [impl_FormValid.l0]
    rw [if_neg (by omega)]
    by_cases c : 1 ≤ xs.length
    · rw [if_pos (by omega), decide_eq_true c, Bool.true_and]; congr 1; exact decide_eq_decide.2 (by omega)
    · rw [if_neg (by omega), decide_eq_false c, Bool.false_and]
  | succ d ih =>
    intro j hj
    have hm := hx _ (rd_mem (xs := xs) (j := j) (by omega))
    rw [rd_drop (show j < xs.length by omega)]
    have := ih (j + 1) (by omega)
    generalize hp : rd xs (j : Int) = p at hm
    rw [List.all_cons]
    by_cases c0 : p = 0
    · rw [decide_eq_false (by omega : ¬ p ≠ 0), Bool.false_and, Bool.false_and, Bool.false_and]
      refine Ev.step (f := fun _ => some false) (fun k => ?_) (Ev.now _)
      simp only [impl_FormValid.l0]
      rw [if_pos (by omega), if_pos (by omega), if_pos (by omega), hp, if_pos c0]
    · have hs : impl_size.f p = some (absI p) := by simp only [impl_size.f]; rw [size_ev (by omega) (by omega)]
      by_cases c : p.natAbs ≤ 30
      · rw [decide_eq_true c0, decide_eq_true c, Bool.true_and, Bool.true_and]
        refine Ev.step (fun k => ?_) this
        simp only [impl_FormValid.l0]
        rw [if_pos (by omega), if_pos (by omega), if_pos (by omega), hp, if_neg c0, hs, Option.bind_some, if_neg (by unfold absI; omega), w64 (x := (j : Int) + 1) (by omega) (by omega)]
        rfl
      · rw [decide_eq_false c, Bool.and_false, Bool.false_and, Bool.false_and]
        refine Ev.step (f := fun _ => some false) (fun k => ?_) (Ev.now _)
        simp only [impl_FormValid.l0]
        rw [if_pos (by omega), if_pos (by omega), if_pos (by omega), hp, if_neg c0, hs, Option.bind_some, if_pos (by unfold absI; omega)]
theorem implFormValid_ev {xs : List Int} (hx : ∀ x ∈ xs, x.natAbs ≤ 1000000) (hl : xs.length ≤ 100) : Ev (fun k => impl_FormValid.f k xs) (formOk xs) :=
  implFormValid_l xs hx hl xs.length 0 (by omega)
theorem specIn_eq (x a b : Int) : spec_l6In.f x a b = some (decide (a ≤ x) && decide (x ≤ b)) := by
  unfold spec_l6In.f
  by_cases c : x ≥ a
  · simp [c, show a ≤ x from c]
  · simp [c, show ¬ a ≤ x from c]
theorem specFormValid_l (xs : List Int) (hl : xs.length ≤ 100) : ∀ (d j : Nat), j + d = xs.length →
    Ev (fun k => spec_FormValid.l0 k xs j) ((xs.drop j).all (fun x => decide (x ≠ 0) && decide (x.natAbs ≤ 30)) && (decide (1 ≤ xs.length) && decide (xs.length ≤ 4))) := by
  intro d
  induction d with
  | zero =>
    intro j hj
    rw [List.drop_of_length_le (by omega)]
    refine Ev.step (f := fun _ => some (decide (1 ≤ xs.length) && decide (xs.length ≤ 4))) (fun k => ?_) (by simpa using Ev.now _)
    simp only [spec_FormValid.l0, specIn_eq, Option.bind_some]
    rw [if_neg (by omega), show decide ((1 : Int) ≤ (xs.length : Int)) = decide (1 ≤ xs.length) from decide_eq_decide.2 (by omega), show decide ((xs.length : Int) ≤ 4) = decide (xs.length ≤ 4) from decide_eq_decide.2 (by omega)]
  | succ d ih =>
    intro j hj
    rw [rd_drop (show j < xs.length by omega)]
    have := ih (j + 1) (by omega)
    generalize hp : rd xs (j : Int) = p
    rw [List.all_cons]
    by_cases c0 : p = 0
    · rw [decide_eq_false (by omega : ¬ p ≠ 0), Bool.false_and, Bool.false_and, Bool.false_and]
      refine Ev.step (f := fun _ => some false) (fun k => ?_) (Ev.now _)
      simp only [spec_FormValid.l0]
      rw [if_pos (by omega), if_pos (by omega), hp, if_pos c0]
    · have hb : (decide (-30 ≤ p) && decide (p ≤ 30)) = decide (p.natAbs ≤ 30) := by
        rw [← Bool.decide_and]; exact decide_eq_decide.2 (by omega)
      by_cases c : p.natAbs ≤ 30
      · rw [decide_eq_true c0, decide_eq_true c, Bool.true_and, Bool.true_and]
        refine Ev.step (fun k => ?_) this
        simp only [spec_FormValid.l0, specIn_eq, Option.bind_some]
        rw [if_pos (by omega), if_pos (by omega), hp, if_neg c0, hb, if_pos (decide_eq_true c), w64 (x := (j : Int) + 1) (by omega) (by omega)]
        rfl
      · rw [decide_eq_false c, Bool.and_false, Bool.false_and, Bool.false_and]
        refine Ev.step (f := fun _ => some false) (fun k => ?_) (Ev.now _)
        simp only [spec_FormValid.l0, specIn_eq, Option.bind_some]
        rw [if_pos (by omega), if_pos (by omega), hp, if_neg c0, hb, decide_eq_false c]
        simp
theorem specFormValid_ev {xs : List Int} (hl : xs.length ≤ 100) : Ev (fun k => spec_FormValid.f k xs) (formOk xs) :=
  specFormValid_l xs hl xs.length 0 (by omega)
theorem pow30 {j : Nat} (h : j ≤ 5) : 30 ^ j ≤ 24300000 := by
  have : 30 ^ j ≤ 30 ^ 5 := Nat.pow_le_pow_right (by omega) h
  omega
theorem implProduct_l (xs : List Int) (hx : ∀ x ∈ xs, Sm x) (hl : xs.length ≤ 5) : ∀ (d j : Nat) (acc : Int), j + d = xs.length → acc.natAbs ≤ 30 ^ j →
    Ev (fun k => impl_product.l0 k acc xs (xs.length : Int) j) (prodF (xs.drop j) acc) := by
  intro d
  induction d with
  | zero =>
    intro j acc hj hA
    rw [List.drop_of_length_le (by omega)]
    refine Ev.step (f := fun _ => some acc) (fun k => ?_) (Ev.now _)
    simp only [impl_product.l0]
    rw [if_neg (by omega)]
  | succ d ih =>
    intro j acc hj hA
    have hm := hx _ (rd_mem (xs := xs) (j := j) (by omega))
    rw [rd_drop (show j < xs.length by omega)]
    have h2 : (acc * rd xs j).natAbs ≤ 30 ^ (j + 1) := by rw [Int.natAbs_mul, Nat.pow_succ]; exact Nat.mul_le_mul hA hm.2
    have h3 := pow30 (show j + 1 ≤ 5 by omega)
    refine Ev.step (fun k => ?_) (ih (j + 1) (acc * rd xs j) (by omega) h2)
    simp only [impl_product.l0]
    rw [if_pos (by omega), if_pos (by omega), if_pos (by omega), w64 (x := acc * rd xs j) (by omega) (by omega), w64 (x := (j : Int) + 1) (by omega) (by omega)]
    rfl
theorem implProduct_ev {xs : List Int} (hx : ∀ x ∈ xs, Sm x) (hl : xs.length ≤ 5) : Ev (fun k => impl_product.f k xs) (prod xs) :=
  implProduct_l xs hx hl xs.length 0 1 (by omega) (by simp)
theorem implLess_l (xs : List Int) (hl : xs.length ≤ 100) : ∀ (d j : Nat) (acc : Int), j + d = xs.length → 0 ≤ acc → acc ≤ j →
    Ev (fun k => impl_lessTerms.l0 k acc xs (xs.length : Int) j) (lessF (xs.drop j) acc) := by
  intro d
  induction d with
  | zero =>
    intro j acc hj h0 hA
    rw [List.drop_of_length_le (by omega)]
    refine Ev.step (f := fun _ => some acc) (fun k => ?_) (Ev.now _)
    simp only [impl_lessTerms.l0]
    rw [if_neg (by omega)]
  | succ d ih =>
    intro j acc hj h0 hA
    rw [rd_drop (show j < xs.length by omega)]
    simp only [lessF]
    by_cases c : rd xs j < 0
    · simp only [if_pos c]
      refine Ev.step (fun k => ?_) (ih (j + 1) (acc + 1) (by omega) (by omega) (by omega))
      simp only [impl_lessTerms.l0]
      rw [if_pos (by omega), if_pos (by omega), if_pos (by omega), if_pos c, w64 (x := acc + 1) (by omega) (by omega), w64 (x := (j : Int) + 1) (by omega) (by omega)]
      rfl
    · simp only [if_neg c]
      refine Ev.step (fun k => ?_) (ih (j + 1) acc (by omega) (by omega) (by omega))
      simp only [impl_lessTerms.l0]
      rw [if_pos (by omega), if_pos (by omega), if_pos (by omega), if_neg c, w64 (x := (j : Int) + 1) (by omega) (by omega)]
      rfl
theorem implLess_ev {xs : List Int} (hl : xs.length ≤ 100) : Ev (fun k => impl_lessTerms.f k xs) (less xs) := implLess_l xs hl xs.length 0 0 (by omega) (by omega) (by omega)
theorem rd_take {xs : List Int} {i j : Nat} (h : j < i) : rd (xs.take i) (j : Int) = rd xs (j : Int) := by
  simp [rd, List.getElem?_take, h]
theorem implInn_l {p : Int} (hp : Plc p) (xs : List Int) (hx : ∀ x ∈ xs, Sm x) (hl : xs.length ≤ 5) (i : Nat) (hi : i < xs.length) (v : Int) : ∀ (d j : Nat) (acc : Int), j + d = i → (acc = 1 ∨ acc = -1) →
    Ev (fun k => impl_invariant.l0 k xs p (inn p (rd xs i) ((xs.take i).drop j) acc) xs (xs.length : Int) ((i + 1 : Nat) : Int)) v →
    Ev (fun k => impl_invariant.l1 k xs p acc (rd xs i) xs (xs.length : Int) i (xs.take ((i : Nat) : Int).toNat) ((xs.take ((i : Nat) : Int).toNat).length : Int) j) v := by
  have hlen : (xs.take ((i : Nat) : Int).toNat).length = i := by simp; omega
  intro d
  induction d with
  | zero =>
    intro j acc hj hA hv
    rw [List.drop_of_length_le (by simp; omega)] at hv
    refine Ev.step (fun k => ?_) hv
    simp only [impl_invariant.l1]
    rw [if_neg (by omega), w64 (x := (i : Int) + 1) (by omega) (by omega)]
    rfl
  | succ d ih =>
    intro j acc hj hA hv
    rw [rd_drop (show j < (xs.take i).length by simp; omega), rd_take (by omega)] at hv
    have hm := hx _ (rd_mem (xs := xs) (j := j) (by omega))
    have hm2 := hx _ (rd_mem (xs := xs) (j := i) (by omega))
    have hs := implSymbol_ev hp hm2.1 hm.1 (by have := hm2.2; omega) (by have := hm.2; omega)
    have hpm := pm_mul hA (sym_pm (rd xs i) (rd xs j) p)
    have := ih (j + 1) (acc * sym (rd xs i) (rd xs j) p) (by omega) hpm.1 hv
    refine Ev.step (f := fun k => (impl_symbol.f k (rd xs i) (rd xs j) p).bind fun t127 => (impl_invariant.l1 k xs p (wrap64 (acc * t127)) (rd xs i) xs (xs.length : Int) i (xs.take ((i : Nat) : Int).toNat) ((xs.take ((i : Nat) : Int).toNat).length : Int) ((j + 1 : Nat) : Int))) (fun k => ?_) ?_
    · simp only [impl_invariant.l1]
      rw [if_pos (by omega), if_pos (by omega), if_pos (by omega), show rd (xs.take ((i : Nat) : Int).toNat) (j : Int) = rd xs (j : Int) from rd_take (by omega), w64 (x := (j : Int) + 1) (by omega) (by omega)]
      rfl
    · refine hs.bind ?_
      rw [hpm.2]
      exact this
theorem take_rd {xs : List Int} {i : Nat} (h : i < xs.length) : xs.take (i + 1) = xs.take i ++ [rd xs (i : Int)] := by
  rw [List.take_add_one]; simp [rd, List.getElem?_eq_getElem h]
theorem implInv_l {p : Int} (hp : Plc p) (xs : List Int) (hx : ∀ x ∈ xs, Sm x) (hl : xs.length ≤ 5) : ∀ (d i : Nat) (acc : Int), i + d = xs.length → (acc = 1 ∨ acc = -1) →
    Ev (fun k => impl_invariant.l0 k xs p acc xs (xs.length : Int) i) (outr p (xs.take i) (xs.drop i) acc) := by
  intro d
  induction d with
  | zero =>
    intro i acc hi hA
    rw [List.drop_of_length_le (by omega)]
    refine Ev.step (f := fun _ => some acc) (fun k => ?_) (Ev.now _)
    simp only [impl_invariant.l0]
    rw [if_neg (by omega)]
  | succ d ih =>
    intro i acc hi hA
    rw [rd_drop (show i < xs.length by omega)]
    simp only [outr]
    rw [← take_rd (by omega)]
    have h1 := ih (i + 1) (inn p (rd xs i) (xs.take i) acc) (by omega) (inn_pm _ _ _ _ hA)
    have h2 := implInn_l hp xs hx hl i (by omega) _ i 0 acc (by omega) hA h1
    refine Ev.step (fun k => ?_) h2
    simp only [impl_invariant.l0]
    rw [if_pos (by omega), if_pos (by omega), if_pos (by omega), if_pos (by omega)]
    rfl
theorem implInv_ev {p : Int} (hp : Plc p) {xs : List Int} (hx : ∀ x ∈ xs, Sm x) (hl : xs.length ≤ 5) : Ev (fun k => impl_invariant.f k xs p) (inv xs p) :=
  implInv_l hp xs hx hl xs.length 0 1 (by omega) (by omega)

/-! ### forms vanish -/
theorem sm_neg {n : Int} (h : n ≠ 0 ∧ n.natAbs ≤ 24300000) : wrap64 (-n) = -n ∧ -n ≠ 0 ∧ (-n).natAbs < 2 ^ 63 := ⟨w64 (by omega) (by omega), by omega, by omega⟩
theorem implVan_ev {p : Int} (hp : Plc p) {xs : List Int} (hx : ∀ x ∈ xs, Sm x) (hl : xs.length ≤ 5) : Ev (fun k => impl_vanishes.f k xs p) (van xs p) := by
  unfold impl_vanishes.f van
  have hb := prod_bd4 hx hl
  have hn := sm_neg hb
  refine (implProduct_ev hx hl).bind ?_
  by_cases c0 : p = 0
  · simp only [if_pos c0]
    refine (implLess_ev (by omega)).bind ?_
    by_cases c : less xs > 0
    · simp only [if_pos c, decide_eq_true c, Bool.true_and]; exact Ev.now _
    · simp only [if_neg c, decide_eq_false c, Bool.false_and]; exact Ev.now _
  · simp only [if_neg c0, hn.1]
    by_cases c2 : (xs.length : Int) = 2
    · simp only [if_pos c2]
      refine (implSq_ev hp hn.2.1 hn.2.2).bind ?_
      exact Ev.now _
    · simp only [if_neg c2]
      by_cases c3 : (xs.length : Int) = 3
      · simp only [if_pos c3]
        refine (implInv_ev hp hx hl).bind ((implSymbol_ev hp (by omega) hn.2.1 (by omega) hn.2.2).bind ?_)
        exact Ev.now _
      · simp only [if_neg c3]
        by_cases c4 : (xs.length : Int) = 4
        · simp only [if_pos c4]
          refine (implSq_ev hp hb.1 (by omega)).bind ?_
          by_cases c5 : sqAt (prod xs) p = true
          · simp only [c5, if_true, Bool.not_true, Bool.false_or]
            refine (implInv_ev hp hx hl).bind ((implSymbol_ev hp (by omega) (by omega) (by omega) (by omega)).bind ?_)
            exact Ev.now _
          · simp only [Bool.eq_false_iff.2 c5, Bool.false_eq_true, if_false, Bool.not_false, Bool.true_or]; exact Ev.now _
        · simp only [if_neg c4]; exact Ev.now _
/-! ### places -/

/-! ### numbers that a form represents -/
theorem implRep_ev {xs : List Int} {t p : Int} (hp : Plc p) (hx : ∀ x ∈ xs, Sm x) (hl : xs.length ≤ 4) (ht : Sm t) : Ev (fun k => impl_represents.f k xs t p) (rep xs t p) := by
  have h2 := ht.2
  have key : van (xs ++ [-t]) p = rep xs t p ∨ ((xs.length : Int) = 4 ∧ p ≠ 0) := by
    by_cases c : (xs.length : Int) = 4 ∧ p ≠ 0
    · exact Or.inr c
    · exact Or.inl (by unfold rep; rw [if_neg c])
  have go : Ev (fun k => impl_represents.j0 k xs t p false) (van (xs ++ [-t]) p) := by
    apply Ev.step
    · intro k
      simp only [impl_represents.j0, Bool.false_eq_true, if_false, slices_Clone_int_int.f, if_pos (show xs.length ≤ 17592186044416 by omega), Option.bind_some, if_pos (show xs.length < 17592186044416 by omega), w64 (x := -t) (by omega) (by omega)]
      exact rfl
    · exact (implVan_ev hp (sm_app hx (sm_opp ht)) (by simp; omega)).bind (f := fun _ t => some t) (Ev.now _)
  unfold impl_represents.f
  by_cases c4 : (xs.length : Int) = 4
  · simp only [if_pos c4]
    by_cases c0 : p = 0
    · rcases key with h | h
      · rw [← h]; subst c0; exact go
      · exact absurd c0 h.2
    · have e : rep xs t p = true := by unfold rep; rw [if_pos ⟨c4, c0⟩]
      rw [e]
      refine Ev.step (f := fun _ => some true) (fun k => ?_) (Ev.now _)
      simp [impl_represents.j0, c0]
  · simp only [if_neg c4]
    rcases key with h | h
    · rw [← h]; exact go
    · exact absurd h.1 c4
theorem implValueOk_eq (t : Int) : impl_valueOk.f t = some (tOk t) := by
  unfold impl_valueOk.f tOk
  by_cases c : t = 0
  · simp [c]
  · rw [if_neg c]
    by_cases c2 : t ≥ -30
    · rw [if_pos c2, decide_eq_true c, Bool.true_and]; congr 1; exact decide_eq_decide.2 (by omega)
    · rw [if_neg c2, decide_eq_false (show ¬ t.natAbs ≤ 30 by omega), Bool.and_false]

/-! ### forms and places are drawn -/
theorem rd_mem' {xs : List Int} {v : Int} (h0 : 0 ≤ v) (h : v < (xs.length : Int)) : rd xs v ∈ xs := by
  have := rd_mem (xs := xs) (j := v.toNat) (by omega)
  rwa [Int.toNat_of_nonneg h0] at this
def GoodF (n : Nat) (xs : List Int) : Prop := xs.length ≤ n ∧ (∀ x ∈ xs, x.natAbs ≤ 31) ∧ (formOk xs = true → ∀ x ∈ xs, x ∈ TT)
theorem form_draw_l {b : List Int} (hb : BytesB b) (n : Nat) (hn : n ≤ 5) (hn1 : 1 ≤ n) : ∀ (d j : Nat) (out : List Int) (q : Int), j + d = n → out.length = j → (∀ x ∈ out, x ∈ TT) → 0 ≤ q → q + 2 * d ≤ 999999999999900 →
    ∃ xs q', GoodF n xs ∧ q ≤ q' ∧ q' ≤ q + 2 * d + 2 ∧ Ev (fun k => spec_l91Form.l0 k out n j b q) (xs, q') := by
  intro d
  induction d with
  | zero =>
    intro j out q hj ho hT hq hQ
    obtain ⟨v1, h1, g1, e1⟩ := pick_ev hb (p := q) (by omega) (by omega) (n := 40) (by omega)
    have hsm : ∀ x ∈ out, x.natAbs ≤ 31 := fun x hx => by have := (TT_sm (hT x hx)).2; omega
    by_cases c : v1 = 0
    · obtain ⟨v2, h2, g2, e2⟩ := pick_ev hb (p := q + 1) (by omega) (by omega) (n := 2) (by omega)
      have hm := rd_mem' (xs := [0, 31]) h2 (by simp; omega)
      refine ⟨out.set 0 (rd [0, 31] v2), q + 1 + 1, ⟨by simp; omega, ?_, ?_⟩, by omega, by omega, ?_⟩
      · intro x hx
        rcases List.mem_or_eq_of_mem_set hx with h | h
        · exact hsm x h
        · subst h; simp only [List.mem_cons, List.not_mem_nil, or_false] at hm; omega
      · intro hk
        exfalso
        obtain ⟨hk, _⟩ := formOk_iff.1 hk
        have := hk (rd [0, 31] v2) (List.mem_set (by omega) _)
        unfold Sm at this
        simp only [List.mem_cons, List.not_mem_nil, or_false] at hm; omega
      · apply Ev.step
        · intro k
          simp only [spec_l91Form.l0, if_neg (show ¬ (j : Int) < (n : Int) by omega)]
          exact rfl
        · refine e1.bind ?_
          simp only [if_pos c, Option.bind_some]
          refine e2.bind ?_
          simp only [if_pos h2, if_pos (show v2 < ((List.length [(0 : Int), 31] : Nat) : Int) from by simp; omega), if_pos (show 0 < (out.length : Int) by omega)]
          exact Ev.now _
    · by_cases c1 : v1 = 1
      · refine ⟨[], q + 1, ⟨by simp, by simp, by simp⟩, by omega, by omega, ?_⟩
        apply Ev.step
        · intro k
          simp only [spec_l91Form.l0, if_neg (show ¬ (j : Int) < (n : Int) by omega)]
          exact rfl
        · refine e1.bind ?_
          simp only [if_neg c, if_pos c1]; exact Ev.now _
      · refine ⟨out, q + 1, ⟨by omega, hsm, fun _ => hT⟩, by omega, by omega, ?_⟩
        apply Ev.step
        · intro k
          simp only [spec_l91Form.l0, if_neg (show ¬ (j : Int) < (n : Int) by omega)]
          exact rfl
        · refine e1.bind ?_
          simp only [if_neg c, if_neg c1]; exact Ev.now _
  | succ d ih =>
    intro j out q hj ho hT hq hQ
    obtain ⟨v1, h1, g1, e1⟩ := pick_ev hb (p := q) (by omega) (by omega) (n := 16) (by omega)
    obtain ⟨v2, h2, g2, e2⟩ := pick_ev hb (p := q + 1) (by omega) (by omega) (n := 5) (by omega)
    have hm := rd_mem' (xs := [1, 2, 3, 5, 6, 7, 1, 10, 12, 3, 15, 4, 21, 1, 30, 8]) h1 (by simp; omega)
    have hlen : v1 < ((List.length [(1 : Int), 2, 3, 5, 6, 7, 1, 10, 12, 3, 15, 4, 21, 1, 30, 8] : Nat) : Int) := by simp; omega
    have ht : rd [1, 2, 3, 5, 6, 7, 1, 10, 12, 3, 15, 4, 21, 1, 30, 8] v1 ∈ TT ∧ -(rd [1, 2, 3, 5, 6, 7, 1, 10, 12, 3, 15, 4, 21, 1, 30, 8] v1) ∈ TT := by
      have : ∀ x ∈ ([1, 2, 3, 5, 6, 7, 1, 10, 12, 3, 15, 4, 21, 1, 30, 8] : List Int), x ∈ TT ∧ -x ∈ TT := by decide +kernel
      exact this _ hm
    generalize hx : rd [1, 2, 3, 5, 6, 7, 1, 10, 12, 3, 15, 4, 21, 1, 30, 8] v1 = x at ht
    have hs := TT_sm ht.1
    unfold Sm at hs
    by_cases c : v2 < 2
    · obtain ⟨xs, q', hg, hq1, hq2, e3⟩ := ih (j + 1) (out ++ [-x]) (q + 1 + 1) (by omega) (by simp; omega) (by intro y hy; rcases List.mem_append.1 hy with h | h; exact hT y h; rw [List.mem_singleton.1 h]; exact ht.2) (by omega) (by omega)
      refine ⟨xs, q', hg, by omega, by omega, ?_⟩
      apply Ev.step
      · intro k
        simp only [spec_l91Form.l0, if_pos (show (j : Int) < (n : Int) by omega), Option.bind_some]
        exact rfl
      · refine e1.bind ?_
        simp only [if_pos h1, if_pos hlen]
        refine e2.bind ?_
        simp only [if_pos c, if_pos (show out.length < 17592186044416 by omega), hx, w64 (x := -x) (by omega) (by omega), w64 (x := (j : Int) + 1) (by omega) (by omega)]
        exact e3
    · obtain ⟨xs, q', hg, hq1, hq2, e3⟩ := ih (j + 1) (out ++ [x]) (q + 1 + 1) (by omega) (by simp; omega) (by intro y hy; rcases List.mem_append.1 hy with h | h; exact hT y h; rw [List.mem_singleton.1 h]; exact ht.1) (by omega) (by omega)
      refine ⟨xs, q', hg, by omega, by omega, ?_⟩
      apply Ev.step
      · intro k
        simp only [spec_l91Form.l0, if_pos (show (j : Int) < (n : Int) by omega), Option.bind_some]
        exact rfl
      · refine e1.bind ?_
        simp only [if_pos h1, if_pos hlen]
        refine e2.bind ?_
        simp only [if_neg c, if_pos (show out.length < 17592186044416 by omega), hx, w64 (x := (j : Int) + 1) (by omega) (by omega)]
        exact e3
theorem form_draw {b : List Int} (hb : BytesB b) {q : Int} (hq : 0 ≤ q) (hQ : q ≤ 999999999999000) (m : Nat) (hm : m ≤ 5) (hm1 : 1 ≤ m) : ∃ xs q', GoodF m xs ∧ q ≤ q' ∧ q' ≤ q + 2 * m + 3 ∧ Ev (fun k => spec_l91Form.f k b q m) (xs, q') := by
  obtain ⟨v1, h1, g1, e1⟩ := pick_ev hb (p := q) (by omega) (by omega) (n := (m : Int)) (by omega)
  obtain ⟨n, hn⟩ : ∃ n : Nat, 1 + v1 = (n : Int) := ⟨(1 + v1).toNat, by omega⟩
  obtain ⟨xs, q', hg, h2, h3, e2⟩ := form_draw_l hb n (by omega) (by omega) n 0 [] (q + 1) (by omega) rfl (by simp) (by omega) (by omega)
  refine ⟨xs, q', ⟨by have := hg.1; omega, hg.2⟩, by omega, by omega, ?_⟩
  unfold spec_l91Form.f
  refine e1.bind ?_
  simp only [hn, w64 (x := (n : Int)) (by omega) (by omega)]
  exact e2

/-! ### places of forms -/
theorem index_l (xs : List Int) (v : Int) (hl : xs.length ≤ 1000000) : ∀ (d j : Nat), j + d = xs.length →
    Ev (fun k => slices_Index_int_int.l0 k xs v (xs.length : Int) j) (if (xs.drop j).contains v then (j + (xs.drop j).findIdx (· == v) : Int) else -1) := by
  intro d
  induction d with
  | zero =>
    intro j hj
    rw [List.drop_of_length_le (by omega)]
    refine Ev.step (f := fun _ => some (-1)) (fun k => ?_) (by simpa using Ev.now _)
    simp only [slices_Index_int_int.l0]
    rw [if_neg (by omega)]
  | succ d ih =>
    intro j hj
    rw [rd_drop (show j < xs.length by omega)]
    by_cases c : v = rd xs (j : Int)
    · have e : (if (rd xs (j : Int) :: xs.drop (j + 1)).contains v then ((j : Int) + ((rd xs (j : Int) :: xs.drop (j + 1)).findIdx (· == v) : Int)) else -1) = (j : Int) := by
        rw [← c, List.findIdx_cons, beq_self_eq_true]; simp
      rw [e]
      refine Ev.step (f := fun _ => some (j : Int)) (fun k => ?_) (Ev.now _)
      simp only [slices_Index_int_int.l0]
      rw [if_pos (by omega), if_pos (by omega), if_pos (by omega), if_pos c]
    · have h2 := ih (j + 1) (by omega)
      have e : (if (rd xs (j : Int) :: xs.drop (j + 1)).contains v then ((j : Int) + ((rd xs (j : Int) :: xs.drop (j + 1)).findIdx (· == v) : Int)) else -1) = (if (xs.drop (j + 1)).contains v then (((j + 1 : Nat) : Int) + ((xs.drop (j + 1)).findIdx (· == v) : Int)) else -1) := by
        rw [List.contains_cons, List.findIdx_cons, show (v == rd xs (j : Int)) = false from by simpa using c, show (rd xs (j : Int) == v) = false from by simpa using fun h => c h.symm]
        simp only [Bool.false_or, cond_false]
        split
        · omega
        · rfl
      rw [e]
      refine Ev.step (fun k => ?_) h2
      simp only [slices_Index_int_int.l0]
      rw [if_pos (by omega), if_pos (by omega), if_pos (by omega), if_neg c, w64 (x := (j : Int) + 1) (by omega) (by omega)]
      rfl
theorem contains_ev (xs : List Int) (v : Int) (hl : xs.length ≤ 1000000) : Ev (fun k => slices_Contains_int_int.f k xs v) (xs.contains v) := by
  unfold slices_Contains_int_int.f slices_Index_int_int.f
  refine (index_l xs v hl xs.length 0 (by omega)).bind ?_
  rw [List.drop_zero]
  by_cases c : xs.contains v = true
  · rw [if_pos c, c]
    have : decide ((((0 : Nat) : Int) + ((xs.findIdx (· == v) : Nat) : Int)) ≥ 0) = true := decide_eq_true (by omega)
    rw [this]; exact Ev.now _
  · rw [if_neg c, Bool.eq_false_iff.2 c]; exact Ev.now _
theorem placesIn_l (xs : List Int) (i : Nat) (hi : i < xs.length) (hx5 : xs.length ≤ 100) (ps : List Int) (hp : ps.length ≤ 1000) (v : List Int) : ∀ (d j : Nat) (out : List Int), j + d = ps.length → out.length ≤ 5000 + j →
    Ev (fun k => impl_placesOf.l0 k (addP out (ps.drop j)) xs (xs.length : Int) ((i + 1 : Nat) : Int)) v →
    Ev (fun k => impl_placesOf.l1 k out xs (xs.length : Int) i ps (ps.length : Int) j) v := by
  intro d
  induction d with
  | zero =>
    intro j out hj ho hv
    rw [List.drop_of_length_le (by omega)] at hv
    refine Ev.step (fun k => ?_) hv
    simp only [impl_placesOf.l1]
    rw [if_neg (by omega), w64 (x := (i : Int) + 1) (by omega) (by omega)]
    rfl
  | succ d ih =>
    intro j out hj ho hv
    rw [rd_drop (show j < ps.length by omega)] at hv
    simp only [addP] at hv
    apply Ev.step
    · intro k
      simp only [impl_placesOf.l1]
      rw [if_pos (by omega), if_pos (by omega), if_pos (by omega), w64 (x := (j : Int) + 1) (by omega) (by omega)]
    · refine (contains_ev out (rd ps (j : Int)) (by omega)).bind ?_
      by_cases c : out.contains (rd ps (j : Int)) = true
      · rw [if_pos c] at hv
        simp only [if_pos c]
        exact ih (j + 1) out (by omega) (by omega) hv
      · rw [if_neg c] at hv
        simp only [if_neg c, if_pos (show out.length < 17592186044416 by omega)]
        exact ih (j + 1) (out ++ [rd ps (j : Int)]) (by omega) (by simp; omega) hv
theorem sort_eq (l : List Int) (h1 : 1 ≤ l.length) (h2 : l.length ≤ 1000000) : slices_Sort_int_int.f l = some (sortI l) := by
  unfold slices_Sort_int_int.f sortI; rw [if_pos ⟨h1, by omega⟩]
theorem addAll_len : ∀ (xs out : List Int), (∀ x ∈ xs, Sm x) → out.Nodup → out.length ≤ (addAll out xs).length ∧ (addAll out xs).length ≤ out.length + 40 * xs.length
  | [], out, _, _ => by simp [addAll]
  | x :: xs, out, hx, h => by
    simp only [addAll, List.length_cons]
    obtain ⟨h1, h2, h3⟩ := addP_spec (primes x) out h
    have ih := addAll_len xs (addP out (primes x)) (fun y hy => hx y (by simp [hy])) h1
    have hp := primes_len x
    have hs := (hx x (by simp)).2
    have hle : out.length ≤ (addP out (primes x)).length := by
      have : ∀ (qs o : List Int), o.length ≤ (addP o qs).length := by
        intro qs
        induction qs with
        | nil => intro o; simp [addP]
        | cons q qs ih => intro o; simp only [addP]; split; exact ih o; have := ih (o ++ [q]); simp at this; omega
      exact this _ _
    omega
theorem placesOut_l (xs : List Int) (hx : ∀ x ∈ xs, Sm x) (hl : xs.length ≤ 100) : ∀ (d i : Nat) (out : List Int), i + d = xs.length → out.Nodup → 1 ≤ out.length → out.length ≤ 10 + 40 * i →
    Ev (fun k => impl_placesOf.l0 k out xs (xs.length : Int) i) (sortI (addAll out (xs.drop i))) := by
  intro d
  induction d with
  | zero =>
    intro i out hi hn h1 h2
    rw [List.drop_of_length_le (by omega)]
    refine Ev.step (f := fun _ => some (sortI out)) (fun k => ?_) (Ev.now _)
    simp only [impl_placesOf.l0]
    rw [if_neg (by omega), sort_eq out h1 (by omega)]; rfl
  | succ d ih =>
    intro i out hi hn h1 h2
    have hm := hx _ (rd_mem (xs := xs) (j := i) (by omega))
    rw [rd_drop (show i < xs.length by omega)]
    simp only [addAll]
    have hs := hm.2
    have hpl := primes_len (rd xs (i : Int))
    obtain ⟨a1, a2, a3⟩ := addP_spec (primes (rd xs (i : Int))) out hn
    have a4 := (addAll_len [rd xs (i : Int)] out (by intro x hx; rw [List.mem_singleton.1 hx]; exact hm) hn)
    simp only [addAll, List.length_cons, List.length_nil] at a4
    apply Ev.step
    · intro k
      simp only [impl_placesOf.l0]
      rw [if_pos (by omega), if_pos (by omega), if_pos (by omega)]
    · refine (primesOf_ev hm.1 (by omega)).bind ?_
      refine placesIn_l xs i (by omega) (by omega) (primes (rd xs (i : Int))) (by omega) _ (primes (rd xs (i : Int))).length 0 out (by omega) (by omega) ?_
      rw [List.drop_zero]
      exact ih (i + 1) _ (by omega) a1 (by omega) (by omega)
theorem placesOf_ev {xs : List Int} (hx : ∀ x ∈ xs, Sm x) (hl : xs.length ≤ 100) : Ev (fun k => impl_placesOf.f k xs) (plc xs) := by
  rw [← sortI_plc hx]
  exact placesOut_l xs hx hl xs.length 0 [0, 2] (by omega) (by decide) (by simp) (by simp)
theorem plc_len (xs : List Int) : (plc xs).length ≤ 11 := by unfold plc; exact List.length_filter_le _ _
/-! ### bad places of a form -/
/-! ### planes everywhere -/
/-! ### bad places of a number -/
theorem implVBad_l {xs : List Int} {t : Int} (hx : ∀ x ∈ xs, Sm x) (hl : xs.length ≤ 4) (ht : Sm t) (ps : List Int) (hp : ∀ p ∈ ps, Plc p) (h11 : ps.length ≤ 100) : ∀ (d j : Nat) (out : List Int), j + d = ps.length → out.length ≤ j →
    Ev (fun k => impl_ValueBad.l0 k xs t out ps (ps.length : Int) j) (out ++ (ps.drop j).filter (fun p => !rep xs t p)) := by
  intro d
  induction d with
  | zero =>
    intro j out hj ho
    rw [List.drop_of_length_le (by omega)]
    refine Ev.step (f := fun _ => some out) (fun k => ?_) (by simpa using Ev.now _)
    simp only [impl_ValueBad.l0]
    rw [if_neg (by omega)]
  | succ d ih =>
    intro j out hj ho
    have hP := hp _ (rd_mem (xs := ps) (j := j) (by omega))
    rw [rd_drop (show j < ps.length by omega)]
    apply Ev.step
    · intro k
      simp only [impl_ValueBad.l0]
      rw [if_pos (by omega), if_pos (by omega), if_pos (by omega), w64 (x := (j : Int) + 1) (by omega) (by omega)]
    · refine (implRep_ev hP hx hl ht).bind ?_
      by_cases c : rep xs t (rd ps (j : Int)) = true
      · rw [List.filter_cons_of_neg (by simp [c])]
        simp only [if_pos c]
        exact ih (j + 1) out (by omega) (by omega)
      · have := ih (j + 1) (out ++ [rd ps (j : Int)]) (by omega) (by simp; omega)
        rw [List.append_assoc, List.singleton_append] at this
        rw [List.filter_cons_of_pos (by simp [c])]
        simp only [if_neg c, if_pos (show out.length < 17592186044416 by omega)]
        exact this
theorem implValueBad_ev {xs : List Int} {t : Int} (h31 : ∀ x ∈ xs, x.natAbs ≤ 1000000) (hl : xs.length ≤ 100) : Ev (fun k => impl_ValueBad.f k xs t) (if formOk xs = true ∧ tOk t = true then vbad xs t else []) := by
  have stop : Ev (fun k => impl_ValueBad.j0 k xs t true) ([] : List Int) := Ev.step (f := fun _ => some []) (fun k => by simp [impl_ValueBad.j0]) (Ev.now _)
  unfold impl_ValueBad.f
  refine (implFormValid_ev (xs := xs) h31 (by omega)).bind ?_
  by_cases c : formOk xs = true
  · have hk := formOk_iff.1 c
    simp only [if_pos c, implValueOk_eq, Option.bind_some]
    by_cases c2 : tOk t = true
    · have ht := tOk_iff.1 c2
      have h2 := plc_len (xs ++ [t])
      rw [if_pos (show formOk xs = true ∧ tOk t = true from ⟨c, c2⟩)]
      simp only [c2, Bool.not_true]
      apply Ev.step
      · intro k
        simp only [impl_ValueBad.j0, Bool.false_eq_true, if_false, slices_Clone_int_int.f, if_pos (show xs.length ≤ 17592186044416 by omega), Option.bind_some, if_pos (show xs.length < 17592186044416 by omega)]
        exact rfl
      · refine (placesOf_ev (sm_app hk.1 ht) (by simp; omega)).bind ?_
        exact implVBad_l hk.1 hk.2.2 ht (plc (xs ++ [t])) (fun p hp => plc_plc hp) (by omega) (plc (xs ++ [t])).length 0 [] (by omega) (by simp)
    · rw [if_neg (show ¬ (formOk xs = true ∧ tOk t = true) from fun h => c2 h.2)]
      simp only [Bool.eq_false_iff.2 c2, Bool.not_false]
      exact stop
  · simp only [if_neg c, if_neg (show ¬ (formOk xs = true ∧ tOk t = true) from fun h => c h.1)]
    exact stop
def vall (xs : List Int) (t : Int) : Bool := formOk xs && (tOk t && (vbad xs t).isEmpty)
theorem isE (l : List Int) : ((l.length : Int) == 0) = l.isEmpty := by cases l <;> simp <;> omega
theorem implEvery_ev {xs : List Int} {t : Int} (h31 : ∀ x ∈ xs, x.natAbs ≤ 1000000) (hl : xs.length ≤ 100) : Ev (fun k => impl_ValueEverywhere.f k xs t) (vall xs t) := by
  unfold impl_ValueEverywhere.f vall
  refine (implFormValid_ev (xs := xs) h31 (by omega)).bind ?_
  by_cases c : formOk xs = true
  · simp only [c, if_true, Bool.true_and, implValueOk_eq, Option.bind_some]
    by_cases c2 : tOk t = true
    · simp only [c2, if_true, Bool.true_and]
      have := implValueBad_ev (t := t) h31 hl
      rw [if_pos ⟨c, c2⟩] at this
      refine this.bind ?_
      rw [isE]; exact Ev.now _
    · simp only [c2, Bool.false_eq_true, if_false, Bool.false_and]; exact Ev.now _
  · simp only [c, Bool.false_eq_true, if_false, Bool.false_and]; exact Ev.now _

/-! ### what divides all; plain vectors -/
theorem gI_step {a n : Int} : gI a n = gI n (a.tmod n) := by
  have e := Int.mul_tdiv_add_tmod a n
  refine dvd_anti (gI_nonneg _ _) (gI_nonneg _ _) (dvd_gI (gI_dvd a n).2 ?_) (dvd_gI ?_ (gI_dvd n _).1)
  · have h1 := (gI_dvd a n).1
    have h2 : gI a n ∣ n * a.tdiv n := Int.dvd_trans (gI_dvd a n).2 (Int.dvd_mul_right _ _)
    have h3 := Int.dvd_sub h1 h2
    rw [show a - n * a.tdiv n = a.tmod n by omega] at h3
    exact h3
  · have h1 := (gI_dvd n (a.tmod n)).2
    have h2 : gI n (a.tmod n) ∣ n * a.tdiv n := Int.dvd_trans (gI_dvd n (a.tmod n)).1 (Int.dvd_mul_right _ _)
    have h3 := Int.dvd_add h2 h1
    rw [e] at h3
    exact h3
theorem gI_abs (a b : Int) : gI a (absI b) = gI a b := by unfold gI absI; simp [Int.gcd]
theorem gI_zero {a : Int} (h : 0 ≤ a) : gI a 0 = a := by unfold gI; rw [Int.gcd_zero_right]; omega
theorem tmod_bd {a n : Int} (ha : 0 ≤ a) (hn : 0 < n) : 0 ≤ a.tmod n ∧ a.tmod n < n := ⟨Int.tmod_nonneg n ha, by rw [Int.tmod_eq_emod_of_nonneg ha]; exact Int.emod_lt_of_pos a hn⟩
theorem gcdIn_l (xs : List Int) (j : Nat) (hj : j < 1000000) (v : Int) : ∀ (d : Nat) (a n : Int), 0 ≤ a → 0 ≤ n → n.toNat ≤ d →
    Ev (fun k => impl_gcd.l0 k (gI a n) xs (xs.length : Int) ((j + 1 : Nat) : Int)) v → Ev (fun k => impl_gcd.l1 k a n xs (xs.length : Int) j) v := by
  intro d
  induction d with
  | zero =>
    intro a n ha hn hd hv
    obtain rfl : n = 0 := by omega
    rw [gI_zero ha] at hv
    refine Ev.step (fun k => ?_) hv
    simp only [impl_gcd.l1]
    rw [if_pos trivial, w64 (x := (j : Int) + 1) (by omega) (by omega)]
    rfl
  | succ d ih =>
    intro a n ha hn hd hv
    by_cases c : n = 0
    · subst c
      rw [gI_zero ha] at hv
      refine Ev.step (fun k => ?_) hv
      simp only [impl_gcd.l1]
      rw [if_pos trivial, w64 (x := (j : Int) + 1) (by omega) (by omega)]
      rfl
    · have hb := tmod_bd ha (show 0 < n by omega)
      rw [gI_step] at hv
      refine Ev.step (fun k => ?_) (ih n (a.tmod n) hn hb.1 (by omega) hv)
      simp only [impl_gcd.l1]
      rw [if_neg c]
theorem gcd_l (xs : List Int) (hx : ∀ x ∈ xs, x.natAbs ≤ 4000000000000000000) (hl : xs.length ≤ 100000) : ∀ (d j : Nat) (g : Int), j + d = xs.length → 0 ≤ g →
    Ev (fun k => impl_gcd.l0 k g xs (xs.length : Int) j) (gcdL (xs.drop j) g) := by
  intro d
  induction d with
  | zero =>
    intro j g hj hg
    rw [List.drop_of_length_le (by omega)]
    refine Ev.step (f := fun _ => some g) (fun k => ?_) (Ev.now _)
    simp only [impl_gcd.l0]
    rw [if_neg (by omega)]
  | succ d ih =>
    intro j g hj hg
    rw [rd_drop (show j < xs.length by omega)]
    have hm := hx _ (rd_mem (xs := xs) (j := j) (by omega))
    refine Ev.step (f := fun k => impl_gcd.l1 k g (absI (rd xs (j : Int))) xs (xs.length : Int) j) (fun k => ?_) ?_
    · simp only [impl_gcd.l0]
      rw [if_pos (by omega), if_pos (by omega), if_pos (by omega)]
      simp only [impl_size.f, Option.bind_some]
      rw [size_ev (n := rd xs (j : Int)) (by omega) (by omega)]
    · refine gcdIn_l xs j (by omega) _ (absI (rd xs (j : Int))).toNat g (absI (rd xs (j : Int))) hg (absI_bd _) (by omega) ?_
      rw [gI_abs]
      exact ih (j + 1) (gI g (rd xs (j : Int))) (by omega) (gI_nonneg _ _)
theorem gcd_ev (xs : List Int) (hx : ∀ x ∈ xs, x.natAbs ≤ 4000000000000000000) (hl : xs.length ≤ 100000) : Ev (fun k => impl_gcd.f k xs) (gcdF xs) := by
  unfold impl_gcd.f
  have := gcd_l xs hx hl xs.length 0 0 (by omega) (by omega)
  rw [List.drop_zero] at this
  exact this

theorem wr_tdiv {x d : Int} (h : x.natAbs ≤ 4000000000000000000) : wrap64 (x.tdiv d) = x.tdiv d := by
  have := tdiv_small (x := x) (d := d)
  exact w64 (by omega) (by omega)
theorem plain1_l {d : Int} (hd : d ≠ 0) (xs : List Int) (hx : ∀ x ∈ xs, x.natAbs ≤ 4000000000000000000) (hl : xs.length ≤ 100000) : ∀ (m j : Nat) (out : List Int), j + m = xs.length → out.length ≤ 5000 + j →
    Ev (fun k => impl_plain.l1 k d out xs (xs.length : Int) j) (out ++ (xs.drop j).map fun x => x.tdiv d) := by
  intro m
  induction m with
  | zero =>
    intro j out hj ho
    rw [List.drop_of_length_le (by omega)]
    refine Ev.step (f := fun _ => some out) (fun k => ?_) (by simpa using Ev.now _)
    simp only [impl_plain.l1]
    rw [if_neg (by omega)]
  | succ m ih =>
    intro j out hj ho
    rw [rd_drop (show j < xs.length by omega), List.map_cons]
    have hm := hx _ (rd_mem (xs := xs) (j := j) (by omega))
    have h2 := ih (j + 1) (out ++ [(rd xs (j : Int)).tdiv d]) (by omega) (by simp; omega)
    rw [List.append_assoc] at h2
    refine Ev.step (fun k => ?_) h2
    simp only [impl_plain.l1]
    rw [if_pos (by omega), if_pos (by omega), if_pos (by omega), if_neg hd, if_pos (by omega), wr_tdiv hm, w64 (x := (j : Int) + 1) (by omega) (by omega)]
    rfl
theorem plain0_l (xs : List Int) (hx : ∀ x ∈ xs, x.natAbs ≤ 4000000000000000000) (hl : xs.length ≤ 100000) (g : Int) (hg : 0 ≤ g) (hG : g ≤ 4000000000000000000) (v : List Int) : ∀ (m j : Nat), j + m = xs.length →
    Ev (fun k => impl_plain.j1 k xs (signF (xs.drop j) g)) v → Ev (fun k => impl_plain.l0 k xs g xs (xs.length : Int) j) v := by
  intro m
  induction m with
  | zero =>
    intro j hj hv
    rw [List.drop_of_length_le (by omega)] at hv
    refine Ev.step (fun k => ?_) hv
    simp only [impl_plain.l0, signF]
    rw [if_neg (by omega)]
  | succ m ih =>
    intro j hj hv
    rw [rd_drop (show j < xs.length by omega)] at hv
    simp only [signF] at hv
    by_cases c : rd xs (j : Int) = 0
    · rw [if_pos c] at hv
      refine Ev.step (fun k => ?_) (ih (j + 1) (by omega) hv)
      simp only [impl_plain.l0]
      rw [if_pos (by omega), if_pos (by omega), if_pos (by omega), if_pos c, w64 (x := (j : Int) + 1) (by omega) (by omega)]
      rfl
    · rw [if_neg c] at hv
      refine Ev.step (fun k => ?_) hv
      simp only [impl_plain.l0]
      rw [if_pos (by omega), if_pos (by omega), if_pos (by omega), if_neg c]
      by_cases c2 : rd xs (j : Int) < 0
      · rw [if_pos c2, if_pos c2, w64 (x := -g) (by omega) (by omega)]
      · rw [if_neg c2, if_neg c2]
theorem gcdF_bd {xs : List Int} {M : Nat} (h : ∃ x ∈ xs, x ≠ 0) (hx : ∀ x ∈ xs, x.natAbs ≤ M) : gcdF xs ≤ M := by
  obtain ⟨x, hm, h0⟩ := h
  have h1 := (gcdF_spec xs).2.1 x hm
  have h2 := Nat.le_of_dvd (by omega) (Int.natAbs_dvd_natAbs.2 h1)
  have h3 := hx x hm
  have := (gcdF_spec xs).1
  omega
theorem plain_ev {xs : List Int} (h : ∃ x ∈ xs, x ≠ 0) (hx : ∀ x ∈ xs, x.natAbs ≤ 4000000000000000000) (hl : xs.length ≤ 100000) : Ev (fun k => impl_plain.f k xs) (plainF xs) := by
  unfold impl_plain.f
  refine (gcd_ev xs hx hl).bind ?_
  refine plain0_l xs hx hl _ (gcdF_spec xs).1 (by have := gcdF_bd h hx; omega) _ xs.length 0 (by omega) ?_
  rw [List.drop_zero]
  refine Ev.step (f := fun k => impl_plain.l1 k (signF xs (gcdF xs)) [] xs (xs.length : Int) (0 : Nat)) (fun k => by simp only [impl_plain.j1]; rfl) ?_
  have := plain1_l (signF_ne h) xs hx hl xs.length 0 [] (by omega) (by simp)
  rw [List.drop_zero, List.nil_append] at this
  exact this
/-! ### vectors at which a form has a value, counted -/
theorem sumO_ev {G : Nat → Int → Option Int} {H : Int → Int} : ∀ (m : Nat) (x : Int), (∀ y, x ≤ y → y < x + m → Ev (fun k => G k y) (H y)) → Ev (fun k => sumO (G k) m x) (sumF H m x)
  | 0, x, h => by simp only [sumO, sumF]; exact Ev.now _
  | m + 1, x, h => by
    simp only [sumO, sumF]
    exact (h x (by omega) (by omega)).bind ((sumO_ev m (x + 1) (fun y a b => h y (by omega) (by omega))).bind (Ev.now _))
theorem cntO_ev {g : Nat → List Int → Option Bool} {P : List Int → Bool} {n : Nat} : ∀ (d : Nat) (v : List Int), (∀ x ∈ v, x.natAbs ≤ n) → (∀ u : List Int, u.length = v.length + d → (∀ x ∈ u, x.natAbs ≤ n) → Ev (fun k => g k u) (P u)) → Ev (fun k => cntO (g k) n d v) (cntV P n d v)
  | 0, v, hv, h => by
    simp only [cntO, cntV]
    exact (h v rfl hv).bind (Ev.now _)
  | d + 1, v, hv, h => by
    simp only [cntO, cntV]
    refine sumO_ev _ _ (fun y h1 h2 => ?_)
    exact cntO_ev d (v ++ [y]) (by intro x hx; rcases List.mem_append.1 hx with e | e; exact hv x e; rw [List.mem_singleton.1 e]; omega) (fun u hu hb => h u (by simp at hu; omega) hb)
theorem mul_bd2 {a x : Int} {A X : Nat} (h : a.natAbs ≤ A) (h' : x.natAbs ≤ X) : (a * x).natAbs ≤ A * X := by rw [Int.natAbs_mul]; exact Nat.mul_le_mul h h'
theorem implPair_l {f v : List Int} (hl : f.length = v.length) (h4 : f.length ≤ 100) (hf : ∀ x ∈ f, x.natAbs ≤ 30) (hv : ∀ x ∈ v, x.natAbs ≤ 1000) : ∀ (d j : Nat) (acc : Int), j + d = f.length → acc.natAbs ≤ 30000000 * j →
    Ev (fun k => impl_pair.l0 k v v acc f (f.length : Int) j) (acc + qv (f.drop j) (v.drop j)) := by
  intro d
  induction d with
  | zero =>
    intro j acc hj hb
    rw [List.drop_of_length_le (show f.length ≤ j by omega)]
    simp only [qv, Int.add_zero]
    refine Ev.step (f := fun _ => some acc) (fun k => ?_) (Ev.now _)
    simp only [impl_pair.l0]
    rw [if_neg (by omega)]
  | succ d ih =>
    intro j acc hj hb
    have h1 := hf _ (rd_mem (xs := f) (j := j) (by omega))
    have h2 := hv _ (rd_mem (xs := v) (j := j) (by omega))
    have m1 := mul_bd2 h1 h2
    have m2 := mul_bd2 (a := rd f (j : Int) * rd v (j : Int)) (x := rd v (j : Int)) m1 h2
    rw [rd_drop (show j < f.length by omega), rd_drop (show j < v.length by omega)]
    simp only [qv]
    rw [← Int.add_assoc]
    refine Ev.step (fun k => ?_) (ih (j + 1) (acc + rd f (j : Int) * rd v (j : Int) * rd v (j : Int)) (by omega) (by omega))
    simp only [impl_pair.l0]
    rw [if_pos (by omega), if_pos (by omega), if_pos (by omega), if_pos (by omega), if_pos (by omega), w64 (x := rd f (j : Int) * rd v (j : Int)) (by omega) (by omega), w64 (x := rd f (j : Int) * rd v (j : Int) * rd v (j : Int)) (by omega) (by omega), w64 (x := acc + rd f (j : Int) * rd v (j : Int) * rd v (j : Int)) (by omega) (by omega), w64 (x := (j : Int) + 1) (by omega) (by omega)]
    rfl
theorem implPair_ev {f v : List Int} (hl : f.length = v.length) (h4 : f.length ≤ 100) (hf : ∀ x ∈ f, x.natAbs ≤ 30) (hv : ∀ x ∈ v, x.natAbs ≤ 1000) : Ev (fun k => impl_pair.f k f v v) (qv f v) := by
  have := implPair_l hl h4 hf hv f.length 0 0 (by omega) (by omega)
  rw [List.drop_zero, List.drop_zero, Int.zero_add] at this
  exact this
theorem specValue_l {f v : List Int} (hl : f.length = v.length) (h4 : f.length ≤ 100) (hf : ∀ x ∈ f, x.natAbs ≤ 30) (hv : ∀ x ∈ v, x.natAbs ≤ 1000) : ∀ (d j : Nat) (acc : Int), j + d = f.length → acc.natAbs ≤ 30000000 * j →
    Ev (fun k => spec_l4Value.l0 k f v acc j) (acc + qv (f.drop j) (v.drop j)) := by
  intro d
  induction d with
  | zero =>
    intro j acc hj hb
    rw [List.drop_of_length_le (show f.length ≤ j by omega)]
    simp only [qv, Int.add_zero]
    refine Ev.step (f := fun _ => some acc) (fun k => ?_) (Ev.now _)
    simp only [spec_l4Value.l0]
    rw [if_neg (by omega)]
  | succ d ih =>
    intro j acc hj hb
    have h1 := hf _ (rd_mem (xs := f) (j := j) (by omega))
    have h2 := hv _ (rd_mem (xs := v) (j := j) (by omega))
    have m1 := mul_bd2 h1 h2
    have m2 := mul_bd2 (a := rd f (j : Int) * rd v (j : Int)) (x := rd v (j : Int)) m1 h2
    rw [rd_drop (show j < f.length by omega), rd_drop (show j < v.length by omega)]
    simp only [qv]
    rw [← Int.add_assoc]
    refine Ev.step (fun k => ?_) (ih (j + 1) (acc + rd f (j : Int) * rd v (j : Int) * rd v (j : Int)) (by omega) (by omega))
    simp only [spec_l4Value.l0]
    rw [if_pos (by omega), if_pos (by omega), if_pos (by omega), w64 (x := rd f (j : Int) * rd v (j : Int)) (by omega) (by omega), w64 (x := rd f (j : Int) * rd v (j : Int) * rd v (j : Int)) (by omega) (by omega), w64 (x := acc + rd f (j : Int) * rd v (j : Int) * rd v (j : Int)) (by omega) (by omega), w64 (x := (j : Int) + 1) (by omega) (by omega)]
    rfl
theorem specValue_ev {f v : List Int} (hl : f.length = v.length) (h4 : f.length ≤ 100) (hf : ∀ x ∈ f, x.natAbs ≤ 30) (hv : ∀ x ∈ v, x.natAbs ≤ 1000) : Ev (fun k => spec_l4Value.f k f v) (qv f v) := by
  have := specValue_l hl h4 hf hv f.length 0 0 (by omega) (by omega)
  rw [List.drop_zero, List.drop_zero, Int.zero_add] at this
  exact this
def manyF (xs : List Int) (t n : Int) : Int := if formOk xs = true ∧ (-1000 ≤ t ∧ t ≤ 1000) ∧ (1 ≤ n ∧ n ≤ 6) then cq n.toNat xs t else -1
theorem pow13 {n d : Nat} (hn : n ≤ 6) (hd : d ≤ 4) : (2 * n + 1) ^ d ≤ 28561 :=
  Nat.le_trans (Nat.pow_le_pow_left (show 2 * n + 1 ≤ 13 by omega) d) (Nat.le_trans (Nat.pow_le_pow_right (show 13 > 0 by omega) hd) (by decide))
theorem cntV_bd4 (P : List Int → Bool) {n d : Nat} (hn : n ≤ 6) (hd : d ≤ 4) (v : List Int) : 0 ≤ cntV P n d v ∧ cntV P n d v ≤ 28561 := by
  have h1 := cntV_bd P n d v
  have h2 := pow13 hn hd
  exact ⟨cntV_nonneg P n d v, by omega⟩
theorem implMany_ev {xs : List Int} {t n : Int} (h31 : ∀ x ∈ xs, x.natAbs ≤ 1000000) (hl : xs.length ≤ 100) : Ev (fun k => impl_ValueMany.f k xs t n) (manyF xs t n) := by
  unfold impl_ValueMany.f manyF
  refine (implFormValid_ev (xs := xs) h31 hl).bind ?_
  by_cases c : formOk xs = true
  · simp only [if_pos c]
    have hk := formOk_iff.1 c
    by_cases c1 : t < -1000
    · simp only [if_pos c1]; rw [if_neg (fun h => absurd h.2.1.1 (by omega))]; exact Ev.now _
    · simp only [if_neg c1]
      by_cases c2 : t > 1000
      · simp only [if_pos c2]; rw [if_neg (fun h => absurd h.2.1.2 (by omega))]; exact Ev.now _
      · simp only [if_neg c2]
        by_cases c3 : n < 1
        · simp only [if_pos c3]; rw [if_neg (fun h => absurd h.2.2.1 (by omega))]; exact Ev.now _
        · simp only [if_neg c3]
          by_cases c4 : n > 6
          · simp only [if_pos c4]; rw [if_neg (fun h => absurd h.2.2.2 (by omega))]; exact Ev.now _
          · simp only [if_neg c4, if_pos (show xs.length ≤ 1000 by omega)]
            rw [if_pos ⟨c, ⟨by omega, by omega⟩, by omega, by omega⟩, ← cntV_form]
            have hb := cntV_bd4 (fun u => qv xs u == t) (n := n.toNat) (d := xs.length) (by omega) hk.2.2 []
            refine (cntO_ev (g := fun k => tellM k xs t) (P := fun u => qv xs u == t) xs.length [] (by simp) (fun u hu hb => ?_)).bind ?_
            · simp only [tellM]
              exact (implPair_ev (f := xs) (v := u) (by simp at hu; omega) (by omega) (fun x h => (hk.1 x h).2) (fun x h => by have := hb x h; omega)).bind (Ev.now _)
            · rw [w64 (by omega) (by omega)]; exact Ev.now _
  · simp only [if_neg c]; rw [if_neg (fun h => c h.1)]; exact Ev.now _
theorem specL9_ev {xs : List Int} {t n : Int} (hx : ∀ x ∈ xs, x.natAbs ≤ 30) (hl : xs.length ≤ 4) (hn0 : 0 ≤ n) (hn : n ≤ 6) : ∀ (d : Nat) (v : List Int), v.length + d = xs.length → (∀ x ∈ v, x.natAbs ≤ n.toNat) → Ev (fun k => spec_l9Many.f k xs v t n) (cntV (fun u => qv xs u == t) n.toNat d v)
  | 0, v, hv, hb => by
    apply Ev.step
    · intro k
      simp only [spec_l9Many.f]
      rw [if_pos (by omega)]
    · refine (specValue_ev (f := xs) (v := v) (by omega) (by omega) hx (fun x h => by have := hb x h; omega)).bind ?_
      simp only [cntV]
      by_cases c : qv xs v = t
      · simp only [if_pos c, if_pos (show (qv xs v == t) = true from beq_iff_eq.2 c)]; exact Ev.now _
      · simp only [if_neg c, if_neg (show ¬ (qv xs v == t) = true from fun h => c (beq_iff_eq.1 h))]; exact Ev.now _
  | d + 1, v, hv, hb => by
    have hp := pow13 (n := n.toNat) (d := d) (by omega) (by omega)
    have key : ∀ (m : Nat) (x acc : Int), x + m = n + 1 → -n ≤ x → 0 ≤ acc → acc + ((m * 28561 : Nat) : Int) ≤ 1000000 → Ev (fun k => spec_l9Many.l0 k xs v t n acc x) (acc + sumF (fun y => cntV (fun u => qv xs u == t) n.toNat d (v ++ [y])) m x) := by
      intro m
      induction m with
      | zero =>
        intro x acc h1 h2 h3 h4
        simp only [sumF, Int.add_zero]
        refine Ev.step (f := fun _ => some acc) (fun k => ?_) (Ev.now _)
        simp only [spec_l9Many.l0]
        rw [if_neg (by omega)]
      | succ m ih =>
        intro x acc h1 h2 h3 h4
        have hc := cntV_bd4 (fun u => qv xs u == t) (n := n.toNat) (d := d) (by omega) (by omega) (v ++ [x])
        simp only [sumF]
        rw [← Int.add_assoc]
        apply Ev.step
        · intro k
          simp only [spec_l9Many.l0]
          rw [if_pos (by omega)]
        · simp only [Option.bind_some, List.length_nil, Nat.zero_add, List.nil_append, if_pos (show v.length < 17592186044416 by omega), w64 (x := x + 1) (by omega) (by omega)]
          refine (specL9_ev hx hl hn0 hn d (v ++ [x]) (by simp; omega) (by intro y hy; rcases List.mem_append.1 hy with e | e; exact hb y e; rw [List.mem_singleton.1 e]; omega)).bind ?_
          rw [w64 (by omega) (by omega)]
          exact ih (x + 1) _ (by omega) (by omega) (by omega) (by omega)
    have := key (2 * n.toNat + 1) (-n) 0 (by omega) (by omega) (by omega) (by omega)
    rw [Int.zero_add] at this
    simp only [cntV]
    rw [show (-(n.toNat : Int)) = -n from by omega]
    refine Ev.step (fun k => ?_) this
    simp only [spec_l9Many.f]
    rw [if_neg (by omega), w64 (x := -n) (by omega) (by omega)]
theorem specMany_ev {xs : List Int} {t n : Int} (hl : xs.length ≤ 100) : Ev (fun k => spec_ValueMany.f k xs t n) (manyF xs t n) := by
  unfold spec_ValueMany.f manyF
  refine (specFormValid_ev (xs := xs) hl).bind ?_
  by_cases c : formOk xs = true
  · simp only [if_pos c]
    have hk := formOk_iff.1 c
    simp only [specIn_eq, Option.bind_some, Bool.and_eq_true, decide_eq_true_eq]
    by_cases c1 : -1000 ≤ t ∧ t ≤ 1000
    · simp only [if_pos c1]
      by_cases c2 : 1 ≤ n ∧ n ≤ 6
      · simp only [if_pos c2]
        rw [if_pos ⟨c, c1, c2⟩, ← cntV_form]
        exact (specL9_ev (fun x h => (hk.1 x h).2) hk.2.2 (by omega) (by omega) xs.length [] (by simp) (by simp)).bind (Ev.now _)
      · simp only [if_neg c2]; rw [if_neg (fun h => c2 h.2.2)]; exact Ev.now _
    · simp only [if_neg c1]; rw [if_neg (fun h => c1 h.2.1)]; exact Ev.now _
  · simp only [if_neg c]; rw [if_neg (fun h => c h.1)]; exact Ev.now _


/-! ### plain zeros, counted -/
def zP (xs v : List Int) : Bool := if qv xs v = 0 then (if gcdF v = 0 then false else plainF v == v) else false
theorem equal_l (a b : List Int) (hl : a.length = b.length) (h : a.length ≤ 1000000) : ∀ (d j : Nat), j + d = a.length → Ev (fun k => slices_Equal_int_int.l0 k a b (a.length : Int) j) (a.drop j == b.drop j) := by
  intro d
  induction d with
  | zero =>
    intro j hj
    rw [List.drop_of_length_le (show a.length ≤ j by omega), List.drop_of_length_le (show b.length ≤ j by omega)]
    refine Ev.step (f := fun _ => some true) (fun k => ?_) (Ev.now _)
    simp only [slices_Equal_int_int.l0]
    rw [if_neg (by omega)]
  | succ d ih =>
    intro j hj
    rw [rd_drop (show j < a.length by omega), rd_drop (show j < b.length by omega)]
    by_cases c : rd a (j : Int) = rd b (j : Int)
    · have e : (rd a (j : Int) :: a.drop (j + 1) == rd b (j : Int) :: b.drop (j + 1)) = (a.drop (j + 1) == b.drop (j + 1)) := by
        rw [c]; simp
      rw [e]
      refine Ev.step (fun k => ?_) (ih (j + 1) (by omega))
      simp only [slices_Equal_int_int.l0]
      rw [if_pos (by omega), if_pos (by omega), if_pos (by omega), if_pos (by omega), if_pos c, w64 (x := (j : Int) + 1) (by omega) (by omega)]
      rfl
    · have e : (rd a (j : Int) :: a.drop (j + 1) == rd b (j : Int) :: b.drop (j + 1)) = false := by
        rw [beq_eq_false_iff_ne]; intro h; injection h with h _; exact c h
      rw [e]
      refine Ev.step (f := fun _ => some false) (fun k => ?_) (Ev.now _)
      simp only [slices_Equal_int_int.l0]
      rw [if_pos (by omega), if_pos (by omega), if_pos (by omega), if_pos (by omega), if_neg c]
theorem equal_ev {a b : List Int} (hl : a.length = b.length) (h : a.length ≤ 1000000) : Ev (fun k => slices_Equal_int_int.f k a b) (a == b) := by
  have := equal_l a b hl h a.length 0 (by omega)
  rw [List.drop_zero, List.drop_zero] at this
  unfold slices_Equal_int_int.f
  simp only [if_pos (show (a.length : Int) = (b.length : Int) by omega)]
  exact this
theorem gcdF_zero {v : List Int} (h : ∀ x ∈ v, x = 0) : gcdF v = 0 := by
  have := (gcdF_spec v).2.2 0 (fun x hx => by rw [h x hx]; exact Int.dvd_refl 0)
  exact Int.zero_dvd.1 this
theorem tellZ_ev {xs v : List Int} (hl : xs.length = v.length) (h4 : xs.length ≤ 100) (hx : ∀ x ∈ xs, x.natAbs ≤ 30) (hv : ∀ x ∈ v, x.natAbs ≤ 1000) : Ev (fun k => tellZ k xs v) (zP xs v) := by
  simp only [tellZ]
  refine (implPair_ev hl h4 hx hv).bind ?_
  unfold zP
  by_cases c : qv xs v = 0
  · rw [if_pos c]
    simp only [if_pos c]
    refine (gcd_ev v (fun x h => by have := hv x h; omega) (by omega)).bind ?_
    by_cases c2 : gcdF v = 0
    · rw [if_pos c2]; simp only [if_pos c2]; exact Ev.now _
    · rw [if_neg c2]; simp only [if_neg c2]
      have hn : ∃ x ∈ v, x ≠ 0 := by
        apply Classical.byContradiction
        intro hno
        exact c2 (gcdF_zero (fun x hx => Classical.byContradiction fun h0 => hno ⟨x, hx, h0⟩))
      refine (plain_ev hn (fun x h => by have := hv x h; omega) (by omega)).bind ?_
      exact equal_ev (plain_len v) (by rw [plain_len]; omega)
  · rw [if_neg c]; simp only [if_neg c]; exact Ev.now _
theorem sign_less : ∀ (v : List Int) (d : Int), fp v = false → (∃ x ∈ v, x ≠ 0) → signF v d = -d ∧ ∃ x ∈ v, x < 0
  | [], d, _, h => by simp at h
  | x :: v, d, hf, h => by
    simp only [fp] at hf
    by_cases c : x = 0
    · rw [if_pos c] at hf
      have h2 : ∃ y ∈ v, y ≠ 0 := by
        obtain ⟨y, hy, h0⟩ := h
        rcases List.mem_cons.1 hy with e | e
        · exact absurd (e.trans c) h0
        · exact ⟨y, e, h0⟩
      obtain ⟨h3, y, hy, h4⟩ := sign_less v d hf h2
      exact ⟨by simp only [signF]; rw [if_pos c]; exact h3, y, by simp [hy], h4⟩
    · rw [if_neg c] at hf
      have hx : x < 0 := by have : ¬ 0 < x := by simpa using hf
                            omega
      exact ⟨by simp only [signF]; rw [if_neg c, if_pos hx], x, by simp, hx⟩
theorem map_self {f : Int → Int} : ∀ (v : List Int), v.map f = v → ∀ x ∈ v, f x = x
  | [], _, x, hx => by simp at hx
  | y :: v, h, x, hx => by
    simp only [List.map_cons, List.cons.injEq] at h
    rcases List.mem_cons.1 hx with e | e
    · rw [e]; exact h.1
    · exact map_self v h.2 x e
theorem zP_fp {xs v : List Int} (h : zP xs v = true) : ((qv xs v == 0) && fp v) = true := by
  unfold zP at h
  by_cases c : qv xs v = 0
  · rw [if_pos c] at h
    by_cases c2 : gcdF v = 0
    · rw [if_pos c2] at h; cases h
    · rw [if_neg c2, beq_iff_eq] at h
      rw [c, Bool.and_eq_true]
      refine ⟨by simp, ?_⟩
      cases hf : fp v with
      | true => rfl
      | false =>
        exfalso
        have hn : ∃ x ∈ v, x ≠ 0 := by
          apply Classical.byContradiction
          intro hno
          exact c2 (gcdF_zero (fun x hx => Classical.byContradiction fun h0 => hno ⟨x, hx, h0⟩))
        obtain ⟨h1, x, hx, h2⟩ := sign_less v (gcdF v) hf hn
        have hg := (gcdF_spec v).1
        unfold plainF at h
        rw [h1] at h
        have h3 := map_self v h x hx
        rw [Int.tdiv_neg] at h3
        obtain ⟨q, hq⟩ := (gcdF_spec v).2.1 x hx
        rw [hq, Int.mul_tdiv_cancel_left q c2] at h3
        have h4 : q < 0 := by
          rcases Int.lt_or_le q 0 with k | k
          · exact k
          · have := Int.mul_nonneg hg k; omega
        have h5 : gcdF v * q ≤ 1 * q := Int.mul_le_mul_of_nonpos_right (by omega) (by omega)
        omega
  · rw [if_neg c] at h; cases h
def zmF (xs : List Int) (n : Int) : Int := if formOk xs = true ∧ (1 ≤ n ∧ n ≤ 6) then cntV (zP xs) n.toNat xs.length [] else -1
theorem implZMany_ev {xs : List Int} {n : Int} (h31 : ∀ x ∈ xs, x.natAbs ≤ 1000000) (hl : xs.length ≤ 100) : Ev (fun k => impl_ZeroMany.f k xs n) (zmF xs n) := by
  unfold impl_ZeroMany.f zmF
  refine (implFormValid_ev (xs := xs) h31 hl).bind ?_
  by_cases c : formOk xs = true
  · simp only [if_pos c]
    have hk := formOk_iff.1 c
    by_cases c3 : n < 1
    · simp only [if_pos c3]; rw [if_neg (fun h => absurd h.2.1 (by omega))]; exact Ev.now _
    · simp only [if_neg c3]
      by_cases c4 : n > 6
      · simp only [if_pos c4]; rw [if_neg (fun h => absurd h.2.2 (by omega))]; exact Ev.now _
      · simp only [if_neg c4, if_pos (show xs.length ≤ 1000 by omega)]
        rw [if_pos ⟨c, by omega, by omega⟩]
        have hb := cntV_bd4 (zP xs) (n := n.toNat) (d := xs.length) (by omega) hk.2.2 []
        refine (cntO_ev (g := fun k => tellZ k xs) (P := zP xs) xs.length [] (by simp) (fun u hu hb => tellZ_ev (by simp at hu; omega) (by omega) (fun x h => (hk.1 x h).2) (fun x h => by have := hb x h; omega))).bind ?_
        rw [w64 (by omega) (by omega)]; exact Ev.now _
  · simp only [if_neg c]; rw [if_neg (fun h => c h.1)]; exact Ev.now _
theorem vmDraw_ev {l : List Int} (h : ∀ x ∈ l, (Lit.int .u8 x).wf = true) : ∃ xs t n, xs.length ≤ 10 ∧ (∀ x ∈ xs, x.natAbs ≤ 31) ∧ t.natAbs ≤ 2000 ∧ -3 ≤ n ∧ n ≤ 4 ∧ Ev (fun k => spec_DrawValueMany.f k l) (xs, t, n) := by
  obtain ⟨b, hb, ho⟩ := open_ev h
  obtain ⟨xs, q1, hg, h2, h3, e2⟩ := form_draw hb (q := 0) (by omega) (by omega) 3 (by omega) (by omega)
  have hl := hg.1
  obtain ⟨v1, a1, b1, e3⟩ := pick_ev hb (p := q1) (by omega) (by omega) (n := 30) (by omega)
  obtain ⟨v2, a2, b2, e4⟩ := pick_ev hb (p := q1 + 1) (by omega) (by omega) (n := 3) (by omega)
  obtain ⟨v3, a3, b3, e5⟩ := pick_ev hb (p := q1 + 1 + 1) (by omega) (by omega) (n := 20) (by omega)
  obtain ⟨v4, a4, b4, e6⟩ := pick_ev hb (p := q1 + 1 + 1 + 1) (by omega) (by omega) (n := 4) (by omega)
  obtain ⟨v5, a5, b5, e7⟩ := pick_ev hb (p := q1 + 1 + 1 + 1 + 1) (by omega) (by omega) (n := 20) (by omega)
  have t3 : 0 ≤ v3.tdiv 19 ∧ v3.tdiv 19 ≤ 1 := by rw [Int.tdiv_eq_ediv_of_nonneg (by omega)]; omega
  have t5 : 0 ≤ v5.tdiv 19 ∧ v5.tdiv 19 ≤ 1 := by rw [Int.tdiv_eq_ediv_of_nonneg (by omega)]; omega
  refine ⟨xs, v1 - v2 * 5 + v3.tdiv 19 * 990, 1 + v4 - v5.tdiv 19 * 4, by omega, hg.2.1, by omega, by omega, by omega, ?_⟩
  simp only [spec_DrawValueMany.f, ho, Option.bind_some]
  refine e2.bind (e3.bind (e4.bind (e5.bind (e6.bind (e7.bind ?_)))))
  simp only [w64 (x := v2 * 5) (by omega) (by omega), w64 (x := v1 - v2 * 5) (by omega) (by omega), w64 (x := v3.tdiv 19) (by omega) (by omega), w64 (x := v3.tdiv 19 * 990) (by omega) (by omega), w64 (x := v1 - v2 * 5 + v3.tdiv 19 * 990) (by omega) (by omega),
    w64 (x := 1 + v4) (by omega) (by omega), w64 (x := v5.tdiv 19) (by omega) (by omega), w64 (x := v5.tdiv 19 * 4) (by omega) (by omega), w64 (x := 1 + v4 - v5.tdiv 19 * 4) (by omega) (by omega)]
  exact Ev.now _
theorem cq_bd {xs : List Int} {n : Nat} (hn : n ≤ 6) (hl : xs.length ≤ 4) (t : Int) : 0 ≤ cq n xs t ∧ cq n xs t ≤ 28561 := by
  rw [← cntV_form]; exact cntV_bd4 _ hn hl _
theorem cq_all {xs : List Int} {n : Nat} {t : Int} (hx : ∀ x ∈ xs, Sm x) (hl : xs.length ≤ 4) (hn : n ≤ 6) (c : formOk xs = true) (ht : Sm t) (h : 0 < cq n xs t) : vall xs t = true := by
  rw [← cntV_form] at h
  obtain ⟨u, h1, h2, h3⟩ := cntV_some xs.length [] (by simp) h
  have h3 := beq_iff_eq.1 h3
  unfold vall
  rw [c, tOk_iff.2 ht, vbad_nil (fun p hp => rep_zero (vs := u) (d := 1) hp (by simp at h1; omega) hl hx ht (fun v hv => by have := h2 v hv; omega) (by decide) (by decide) (by rw [h3]; omega))]
  rfl
theorem holds : laws_FnValueMany.Pure := by
  intro l0 _ _ hw
  refine Ev.rounds ?_
  unfold laws_FnValueMany.f
  by_cases big : (l0.length : Int) > 1048576
  · simp only [if_pos big]; exact Ev.now _
  obtain ⟨xs, t, n, hl, h31, ht, hn0, hn4, hd⟩ := vmDraw_ev hw
  have hb31 : ∀ x ∈ xs, x.natAbs ≤ 1000000 := fun x h => by have := h31 x h; omega
  simp only [if_neg big]
  refine hd.bind ((implMany_ev hb31 (by omega)).bind ((specMany_ev (xs := xs) (t := t) (n := n) (by omega)).bind ?_))
  simp only [if_true]
  by_cases c : formOk xs = true ∧ (-1000 ≤ t ∧ t ≤ 1000) ∧ (1 ≤ n ∧ n ≤ 6)
  · have hm : manyF xs t n = cq n.toNat xs t := by unfold manyF; rw [if_pos c]
    have hm1 : manyF xs t (n + 1) = cq (n.toNat + 1) xs t := by
      unfold manyF; rw [if_pos ⟨c.1, c.2.1, by omega, by omega⟩, show (n + 1).toNat = n.toNat + 1 by omega]
    obtain ⟨c1, c2, c3⟩ := c
    have hk := formOk_iff.1 c1
    have b0 := cq_bd (xs := xs) (n := n.toNat) (by omega) hk.2.2 t
    have b1 := cq_bd (xs := xs) (n := n.toNat + 1) (by omega) hk.2.2 t
    have hwd : cq n.toNat xs t ≤ cq (n.toNat + 1) xs t := by rw [← cntV_form, ← cntV_form]; exact cntV_wider _ _ _ _
    have hpo := cq_po n.toNat xs t
    rw [hm]
    simp only [decide_eq_false (show ¬ cq n.toNat xs t < 0 by omega)]
    apply Ev.step
    · intro k
      simp only [laws_FnValueMany.j0, Bool.false_eq_true, if_false, w64 (x := n + 1) (by omega) (by omega), if_neg (show ¬ n = 6 by omega)]
      exact rfl
    refine (implMany_ev hb31 (by omega)).bind ?_
    rw [hm1]
    simp only [if_pos (show cq (n.toNat + 1) xs t ≥ cq n.toNat xs t from hwd)]
    by_cases c0 : t = 0
    · simp only [if_pos c0]
      refine (implZMany_ev hb31 (by omega)).bind ?_
      have hz : zmF xs n = cntV (zP xs) n.toNat xs.length [] := by unfold zmF; rw [if_pos ⟨c1, c3⟩]
      have hz0 := cntV_bd4 (zP xs) (n := n.toNat) (d := xs.length) (by omega) hk.2.2 []
      have hle : cntV (zP xs) n.toNat xs.length [] ≤ po n.toNat xs 0 := by
        rw [← cntV_pos]; exact cntV_le _ _ _ (fun u _ h => zP_fp h)
      rw [c0, if_pos rfl] at hpo
      rw [hz, w64 (x := 2 * cntV (zP xs) n.toNat xs.length []) (by omega) (by omega), w64 (by omega) (by omega), c0, decide_eq_true (by omega)]
      exact Ev.now _
    · simp only [if_neg c0]
      rw [if_neg c0] at hpo
      have he : (cq n.toNat xs t).tmod 2 = 0 := by rw [Int.tmod_eq_emod_of_nonneg b0.1]; omega
      simp only [if_pos he]
      by_cases cz : cq n.toNat xs t = 0
      · simp only [if_pos cz]; exact Ev.now _
      · simp only [if_neg cz]
        have hs : laws_sizeOf.f t = some (absI t) := by simp only [laws_sizeOf.f]; rw [size_ev (by omega) (by omega)]
        simp only [hs, Option.bind_some]
        by_cases c30 : absI t > 30
        · simp only [if_pos c30]; exact Ev.now _
        · simp only [if_neg c30]
          refine (implEvery_ev (xs := xs) (t := t) hb31 (by omega)).bind ?_
          rw [cq_all hk.1 hk.2.2 (n := n.toNat) (by omega) c1 ⟨c0, by unfold absI at c30; omega⟩ (by omega)]
          exact Ev.now _
  · have hm : manyF xs t n = -1 := by unfold manyF; rw [if_neg c]
    rw [hm]
    simp only [decide_eq_true (show (-1 : Int) < 0 by omega)]
    apply Ev.step
    · intro k
      simp only [laws_FnValueMany.j0, if_true, beq_self_eq_true]
      exact rfl
    exact Ev.now _

end Go.Proofs.Ytihadpckmcebgaa.QFnValueMany
