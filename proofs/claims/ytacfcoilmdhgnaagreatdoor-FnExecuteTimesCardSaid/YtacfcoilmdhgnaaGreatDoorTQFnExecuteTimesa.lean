/- A script that multiplies a form. -/
import Derived.Lib.ItoaLen
import Derived.Lib.SplitLaws
import Derived.Test.YtacfcoilmdhgnaaGreatDoorTPFnExecuteTimesx6
import Derived.Test.YtacfcoilmdhgnaaGreatDoorTPlain
set_option linter.unusedVariables false
set_option linter.unusedSimpArgs false
namespace Go.Proofs.YtacfcoilmdhgnaaGreatDoor.QFnExecuteTimes
open Go.RowKit Go.Proofs.YtacfcoilmdhgnaaGreatDoor.PFnExecuteTimes Go.Proofs.YtacfcoilmdhgnaaGreatDoorW.PrintWords Go.Proofs.YtacfcoilmdhgnaaGreatDoorW.PrintLast Go.Proofs.YtacfcoilmdhgnaaGreatDoorW.PrintMore Locg

/-! ### draws -/
theorem xor_i64_nat (a b : Nat) (ha : a < 9223372036854775808) (hb : b < 9223372036854775808) : Go.bits .xor .i64 (a : Int) (b : Int) = ((a ^^^ b : Nat) : Int) := by
  have hx : a ^^^ b < 2 ^ 63 := Nat.xor_lt_two_pow (by omega) (by omega)
  have h1 : (BitVec.ofInt 64 (a : Int)).toNat = a := by
    rw [BitVec.ofInt_natCast, BitVec.toNat_ofNat]; exact Nat.mod_eq_of_lt (by omega)
  have h2 : (BitVec.ofInt 64 (b : Int)).toNat = b := by
    rw [BitVec.ofInt_natCast, BitVec.toNat_ofNat]; exact Nat.mod_eq_of_lt (by omega)
  show IntKind.i64.wrap ((BitVec.ofInt 64 (a : Int) ^^^ BitVec.ofInt 64 (b : Int)).toNat : Int) = _
  rw [BitVec.toNat_xor, h1, h2]
  have hw : ∀ n : Int, IntKind.i64.wrap n = wrap64 n := fun n => by simp [IntKind.wrap, wrap64, IntKind.bits, IntKind.signed]; omega
  rw [hw]
  exact w64' (by omega) (by omega)
theorem xor_nonneg (a b : Int) (ha : 0 ≤ a) (hA : a < 9223372036854775808) (hb : 0 ≤ b) (hB : b < 9223372036854775808) : 0 ≤ Go.bits .xor .i64 a b := by
  obtain ⟨a, rfl⟩ := Int.eq_ofNat_of_zero_le ha
  obtain ⟨b, rfl⟩ := Int.eq_ofNat_of_zero_le hb
  rw [xor_i64_nat a b (by omega) (by omega)]
  exact Int.natCast_nonneg _
theorem tmod_range {x n : Int} (hx : 0 ≤ x) (hn : 1 ≤ n) : 0 ≤ x.tmod n ∧ x.tmod n < n := by
  rw [Int.tmod_eq_emod_of_nonneg hx]; exact ⟨Int.emod_nonneg _ (by omega), Int.emod_lt_of_pos _ (by omega)⟩
def BytesB (b : List Int) : Prop := (∀ x ∈ b, 0 ≤ x ∧ x ≤ 255) ∧ b.length ≤ 2000
theorem BytesB.rd_ {b : List Int} (h : BytesB b) (i : Int) : 0 ≤ rd b i ∧ rd b i ≤ 255 := by
  unfold rd
  by_cases c : i.toNat < b.length
  · have := h.1 (b[i.toNat]) (by simp)
    simpa [List.getElem?_eq_getElem c] using this
  · simp [List.getElem?_eq_none (show b.length ≤ i.toNat by omega)]
/-- What the reader mixes at a place. -/
def pv (b : List Int) (p : Int) : Int := if b.length = 0 then 0 else if p < (b.length : Int) then rd b p else
  Go.bits .xor .i64 (rd b (p.tmod b.length) * 131 + rd b ((p * 7 + 3).tmod b.length) * 1117 + p * 29 + p.tdiv b.length * 53) ((rd b (p.tmod b.length) * 131 + rd b ((p * 7 + 3).tmod b.length) * 1117 + p * 29 + p.tdiv b.length * 53).tdiv 64)
theorem pick_at {b : List Int} (hb : BytesB b) {p : Int} (hp : 0 ≤ p) (hP : p ≤ 1000000000000000) {n : Int} (hn : 1 ≤ n) :
    0 ≤ pv b p ∧ Ev (fun k => spec_l6Rd_pick.f k b p n) ((pv b p).tmod n, p + 1) := by
  have hl := hb.2
  unfold pv
  rcases Nat.eq_zero_or_pos b.length with h0 | h0
  · rw [if_pos h0, Int.zero_tmod]
    refine ⟨by omega, Ev.step (f := fun _ => some (0, p + 1)) (fun k => ?_) (Ev.now _)⟩
    simp only [spec_l6Rd_pick.f, spec_l6Rd_pick.j0]
    rw [if_neg (by omega), w64 (x := p + 1) (by omega) (by omega), if_pos (by simp [h0])]
  · have e : ∀ k, spec_l6Rd_pick.f (k + 1) b p n = spec_l6Rd_pick.j0 (k + 1) n false b (p + 1) := by
      intro k
      simp only [spec_l6Rd_pick.f]
      rw [if_neg (by omega), w64 (x := p + 1) (by omega) (by omega)]
      congr 1
      simp; intro h; rw [h] at h0; simp at h0
    have hq : wrap64 (p + 1 - 1) = p := by rw [w64 (by omega) (by omega)]; omega
    rw [if_neg (by omega)]
    by_cases c : p < b.length
    · rw [if_pos c]
      refine ⟨(hb.rd_ p).1, Ev.step (f := fun _ => some ((rd b p).tmod n, p + 1)) (fun k => ?_) (Ev.now _)⟩
      have := hb.rd_ p
      rw [e]
      simp only [spec_l6Rd_pick.j0, hq]
      rw [if_neg (by simp), if_pos c, if_pos hp, if_neg (by omega), w64 (x := rd b p) (by omega) (by omega)]
    · rw [if_neg c]
      have hm := tmod_range hp (n := b.length) (by omega)
      have e7 : wrap64 (p * 7) = p * 7 := w64 (by omega) (by omega)
      have e73 : wrap64 (p * 7 + 3) = p * 7 + 3 := w64 (by omega) (by omega)
      have e29 : wrap64 (p * 29) = p * 29 := w64 (by omega) (by omega)
      have hm2 := tmod_range (x := p * 7 + 3) (by omega) (n := b.length) (by omega)
      have hA := hb.rd_ (p.tmod b.length)
      have hB := hb.rd_ ((p * 7 + 3).tmod b.length)
      have hd : 0 ≤ p.tdiv b.length ∧ p.tdiv b.length ≤ p := by
        rw [Int.tdiv_eq_ediv_of_nonneg hp]; exact ⟨Int.ediv_nonneg hp (by omega), Int.ediv_le_self _ hp⟩
      generalize hAe : rd b (p.tmod b.length) = A at hA
      generalize hBe : rd b ((p * 7 + 3).tmod b.length) = B at hB
      generalize hDe : p.tdiv b.length = D at hd
      have hx64 : 0 ≤ (A * 131 + B * 1117 + p * 29 + D * 53).tdiv 64 ∧ (A * 131 + B * 1117 + p * 29 + D * 53).tdiv 64 ≤ A * 131 + B * 1117 + p * 29 + D * 53 := by
        rw [Int.tdiv_eq_ediv_of_nonneg (by omega)]; omega
      have hx := xor_nonneg (A * 131 + B * 1117 + p * 29 + D * 53) ((A * 131 + B * 1117 + p * 29 + D * 53).tdiv 64) (by omega) (by omega) (by omega) (by omega)
      refine ⟨hx, Ev.step (f := fun _ => some (_, p + 1)) (fun k => ?_) (Ev.now _)⟩
      rw [e]
      simp only [spec_l6Rd_pick.j0, hq, e7, e73, hAe, hBe, hDe, e29]
      rw [if_neg (by simp), if_neg c, if_neg (by omega), if_pos hm.1, if_pos hm.2, if_pos hm2.1, if_pos hm2.2, if_neg (by omega)]
      rw [w64 (x := A) (by omega) (by omega), w64 (x := B) (by omega) (by omega), w64 (x := D) (by omega) (by omega), w64 (x := A * 131) (by omega) (by omega), w64 (x := B * 1117) (by omega) (by omega),
        w64 (x := A * 131 + B * 1117) (by omega) (by omega), w64 (x := A * 131 + B * 1117 + p * 29) (by omega) (by omega), w64 (x := D * 53) (by omega) (by omega),
        w64 (x := A * 131 + B * 1117 + p * 29 + D * 53) (by omega) (by omega), w64 (x := (A * 131 + B * 1117 + p * 29 + D * 53).tdiv 64) (by omega) (by omega)]
theorem pick_ev {b : List Int} (hb : BytesB b) {p : Int} (hp : 0 ≤ p) (hP : p ≤ 1000000000000000) {n : Int} (hn : 1 ≤ n) :
    ∃ v, 0 ≤ v ∧ v < n ∧ Ev (fun k => spec_l6Rd_pick.f k b p n) (v, p + 1) := by
  obtain ⟨h, e⟩ := pick_at hb hp hP hn
  exact ⟨_, (tmod_range h hn).1, (tmod_range h hn).2, e⟩
theorem open_ev {l : List Int} (h : ∀ x ∈ l, (Lit.int .u8 x).wf = true) : ∃ b, BytesB b ∧ spec_l6Open.f l = some (b, 0) := by
  have h' : ∀ x ∈ l, 0 ≤ x ∧ x ≤ 255 := fun x hx => by
    have := h x hx
    simp only [Lit.wf, Bool.and_eq_true, decide_eq_true_eq] at this
    have e1 : IntKind.u8.min = 0 := by decide
    have e2 : IntKind.u8.max = 255 := by decide
    omega
  unfold spec_l6Open.f
  by_cases c : (l.length : Int) > 2000
  · refine ⟨l.take 2000, ⟨fun x hx => h' x (List.mem_of_mem_take hx), by simp; omega⟩, ?_⟩
    rw [if_pos c, if_pos (by omega)]
  · exact ⟨l, ⟨h', by omega⟩, by rw [if_neg c]⟩


/-! ### split -/
theorem split_l {p : Int} (hp : 2 ≤ p) : ∀ (d : Nat) (n j : Int), n ≠ 0 → n.natAbs < 2 ^ d → d ≤ 63 → 0 ≤ j → j + d ≤ 1000 →
    ∀ k, d < k → impl_split.l0 k n p j = some (j + (spl p d n).1, (spl p d n).2) := by
  intro d
  induction d with
  | zero => intro n j hn h; simp at h; omega
  | succ d ih =>
    intro n j hn h hd hj hJ k hk
    obtain ⟨k, rfl⟩ : ∃ m, k = m + 1 := ⟨k - 1, by omega⟩
    simp only [impl_split.l0]
    rw [if_neg (by omega)]
    by_cases c : n.tmod p = 0
    · obtain ⟨h0, h1, h2, h3, _⟩ := tdiv_abs hp hn c
      have hlt : n.natAbs < 2 ^ 63 := Nat.lt_of_lt_of_le h (Nat.pow_le_pow_right (by omega) hd)
      rw [if_pos c, w64 (x := n.tdiv p) (by omega) (by omega), spl_dvd d c, w64 (x := j + 1) (by omega) (by omega),
        ih (n.tdiv p) (j + 1) h0 (by rw [Nat.pow_succ] at h; omega) (by omega) (by omega) (by omega) k (by omega)]
      simp only [Option.some.injEq, Prod.mk.injEq, and_true]; omega
    · rw [if_neg c, spl_not d c]
      simp
theorem split_at {n p : Int} (hp : 2 ≤ p) (hn : n ≠ 0) (h : n.natAbs < 2 ^ 63) (k : Nat) (hk : 63 < k) : impl_split.f k n p = some (val p n, unit p n) := by
  unfold impl_split.f val unit
  rw [split_l hp 63 n 0 hn h (by omega) (by omega) (by omega) k hk, ← spl_more hp 63 n hn h]
  simp
/-! ### valuations -/

/-! ### primes -/
theorem primesOf_l : ∀ (d : Nat) (n p : Int) (out : List Int), 0 < n → n ≤ 1000000000000 → 2 ≤ p → p ≤ 1000002 → n + 2 - p ≤ d → 1 ≤ d → out.length + d ≤ 17000000000000 →
    ∀ k, d + 64 < k → impl_primesOf.l0 k n out p = some (out ++ pl d n p) := by
  intro d
  induction d with
  | zero => intro n p out hn hN hp hP hd h1; omega
  | succ d ih =>
    intro n p out hn hN hp hP hd h1 hl k hk
    obtain ⟨k, rfl⟩ : ∃ m, k = m + 1 := ⟨k - 1, by omega⟩
    simp only [impl_primesOf.l0, pl]
    rw [wmul (a := p) (b := p) (by omega) (by omega) (by omega) (by omega)]
    by_cases c : p * p ≤ n
    · have hpn : 2 * p ≤ n := by have := Int.mul_le_mul_of_nonneg_right hp (show 0 ≤ p by omega); omega
      have hp6 : p ≤ 1000000 := le_of_sq (by omega) (by omega)
      rw [if_pos c, if_neg (by omega), if_pos c, w64 (x := p + 1) (by omega) (by omega)]
      by_cases c2 : n.tmod p = 0
      · have hv := val_spec hp (show n ≠ 0 by omega) (by omega)
        rw [if_pos c2, if_pos (by omega), split_at hp (by omega) (by omega) k (by omega), if_pos c2]
        simp only [Option.bind_some]
        rw [ih (unit p n) (p + 1) (out ++ [p]) (hv.2.2.2.2.2.2 hn) (by omega) (by omega) (by omega) (by omega) (by omega) (by simp; omega) k (by omega)]
        simp
      · rw [if_neg c2, if_neg c2]
        exact ih n (p + 1) out hn hN (by omega) (by omega) (by omega) (by omega) (by omega) k (by omega)
    · rw [if_neg c, if_neg c]
      by_cases c2 : n > 1
      · rw [if_pos c2, if_pos c2, if_pos (by omega)]
      · rw [if_neg c2, if_neg c2]; simp
theorem primesOf_ev {n : Int} (hn : n ≠ 0) (h : n.natAbs ≤ 1000000000000) : Ev (fun k => impl_primesOf.f k n) (primes n) := by
  refine ⟨n.natAbs + 67, fun k hk => ?_⟩
  simp only [impl_primesOf.f, impl_size.f, Option.bind_some]
  rw [size_ev (by omega) (by omega), primesOf_l (n.natAbs + 2) (absI n) 2 [] (by unfold absI; omega) (by unfold absI; omega) (by omega) (by omega) (by unfold absI; omega) (by omega) (by simp; omega) k (by omega)]
  rfl


/-! ### primes, of the reference -/

/-! ### residues, squares and symbols at a place -/
/-! ### symbols -/
/-! ### forms -/
theorem implFormValid_l (xs : List Int) (hx : ∀ x ∈ xs, x.natAbs ≤ 1000000) (hl : xs.length ≤ 100) : ∀ (d j : Nat), j + d = xs.length →
    Ev (fun k => impl_FormValid.l0 k xs xs (xs.length : Int) j) ((xs.drop j).all (fun x => decide (x ≠ 0) && decide (x.natAbs ≤ 30)) && (decide (1 ≤ xs.length) && decide (xs.length ≤ 4))) := by
  intro d
  induction d with
  | zero =>
    intro j hj
    rw [List.drop_of_length_le (by omega)]
    refine Ev.step (f := fun _ => some (decide (1 ≤ xs.length) && decide (xs.length ≤ 4))) (fun k => ?_) (by simpa using Ev.now _)
    simp only [impl_FormValid.l0]
    rw [if_neg (by omega)]
    by_cases c : 1 ≤ xs.length
    · rw [if_pos (by omega), decide_eq_true c, Bool.true_and]; congr 1; exact decide_eq_decide.2 (by omega)
    · rw [if_neg (by omega), decide_eq_false c, Bool.false_and]
  | succ d ih =>
    intro j hj
    have hm := hx _ (rd_mem (xs := xs) (j := j) (by omega))
    rw [rd_drop (show j < xs.length by omega)]
    have := ih (j + 1) (by omega)
    generalize hp : rd xs (j : Int) = p at hm
    rw [List.all_cons]
    by_cases c0 : p = 0
    · rw [decide_eq_false (by omega : ¬ p ≠ 0), Bool.false_and, Bool.false_and, Bool.false_and]
      refine Ev.step (f := fun _ => some false) (fun k => ?_) (Ev.now _)
      simp only [impl_FormValid.l0]
      rw [if_pos (by omega), if_pos (by omega), if_pos (by omega), hp, if_pos c0]
    · have hs : impl_size.f p = some (absI p) := by simp only [impl_size.f]; rw [size_ev (by omega) (by omega)]
      by_cases c : p.natAbs ≤ 30
      · rw [decide_eq_true c0, decide_eq_true c, Bool.true_and, Bool.true_and]
        refine Ev.step (fun k => ?_) this
        simp only [impl_FormValid.l0]
        rw [if_pos (by omega), if_pos (by omega), if_pos (by omega), hp, if_neg c0, hs, Option.bind_some, if_neg (by unfold absI; omega), w64 (x := (j : Int) + 1) (by omega) (by omega)]
        rfl
      · rw [decide_eq_false c, Bool.and_false, Bool.false_and, Bool.false_and]
        refine Ev.step (f := fun _ => some false) (fun k => ?_) (Ev.now _)
        simp only [impl_FormValid.l0]
        rw [if_pos (by omega), if_pos (by omega), if_pos (by omega), hp, if_neg c0, hs, Option.bind_some, if_pos (by unfold absI; omega)]
theorem implFormValid_ev {xs : List Int} (hx : ∀ x ∈ xs, x.natAbs ≤ 1000000) (hl : xs.length ≤ 100) : Ev (fun k => impl_FormValid.f k xs) (formOk xs) :=
  implFormValid_l xs hx hl xs.length 0 (by omega)
theorem specIn_eq (x a b : Int) : spec_l6In.f x a b = some (decide (a ≤ x) && decide (x ≤ b)) := by
  unfold spec_l6In.f
  by_cases c : x ≥ a
  · simp [c, show a ≤ x from c]
  · simp [c, show ¬ a ≤ x from c]
theorem specFormValid_l (xs : List Int) (hl : xs.length ≤ 100) : ∀ (d j : Nat), j + d = xs.length →
    Ev (fun k => spec_FormValid.l0 k xs j) ((xs.drop j).all (fun x => decide (x ≠ 0) && decide (x.natAbs ≤ 30)) && (decide (1 ≤ xs.length) && decide (xs.length ≤ 4))) := by
  intro d
  induction d with
  | zero =>
    intro j hj
    rw [List.drop_of_length_le (by omega)]
    refine Ev.step (f := fun _ => some (decide (1 ≤ xs.length) && decide (xs.length ≤ 4))) (fun k => ?_) (by simpa using Ev.now _)
    simp only [spec_FormValid.l0, specIn_eq, Option.bind_some]
    rw [if_neg (by omega), show decide ((1 : Int) ≤ (xs.length : Int)) = decide (1 ≤ xs.length) from decide_eq_decide.2 (by omega), show decide ((xs.length : Int) ≤ 4) = decide (xs.length ≤ 4) from decide_eq_decide.2 (by omega)]
  | succ d ih =>
    intro j hj
    rw [rd_drop (show j < xs.length by omega)]
    have := ih (j + 1) (by omega)
    generalize hp : rd xs (j : Int) = p
    rw [List.all_cons]
    by_cases c0 : p = 0
    · rw [decide_eq_false (by omega : ¬ p ≠ 0), Bool.false_and, Bool.false_and, Bool.false_and]
      refine Ev.step (f := fun _ => some false) (fun k => ?_) (Ev.now _)
      simp only [spec_FormValid.l0]
      rw [if_pos (by omega), if_pos (by omega), hp, if_pos c0]
    · have hb : (decide (-30 ≤ p) && decide (p ≤ 30)) = decide (p.natAbs ≤ 30) := by
        rw [← Bool.decide_and]; exact decide_eq_decide.2 (by omega)
      by_cases c : p.natAbs ≤ 30
      · rw [decide_eq_true c0, decide_eq_true c, Bool.true_and, Bool.true_and]
        refine Ev.step (fun k => ?_) this
        simp only [spec_FormValid.l0, specIn_eq, Option.bind_some]
        rw [if_pos (by omega), if_pos (by omega), hp, if_neg c0, hb, if_pos (decide_eq_true c), w64 (x := (j : Int) + 1) (by omega) (by omega)]
        rfl
      · rw [decide_eq_false c, Bool.and_false, Bool.false_and, Bool.false_and]
        refine Ev.step (f := fun _ => some false) (fun k => ?_) (Ev.now _)
        simp only [spec_FormValid.l0, specIn_eq, Option.bind_some]
        rw [if_pos (by omega), if_pos (by omega), hp, if_neg c0, hb, decide_eq_false c]
        simp
theorem specFormValid_ev {xs : List Int} (hl : xs.length ≤ 100) : Ev (fun k => spec_FormValid.f k xs) (formOk xs) :=
  specFormValid_l xs hl xs.length 0 (by omega)
theorem pow30 {j : Nat} (h : j ≤ 5) : 30 ^ j ≤ 24300000 := by
  have : 30 ^ j ≤ 30 ^ 5 := Nat.pow_le_pow_right (by omega) h
  omega
theorem implProduct_l (xs : List Int) (hx : ∀ x ∈ xs, Sm x) (hl : xs.length ≤ 5) : ∀ (d j : Nat) (acc : Int), j + d = xs.length → acc.natAbs ≤ 30 ^ j →
    Ev (fun k => impl_product.l0 k acc xs (xs.length : Int) j) (prodF (xs.drop j) acc) := by
  intro d
  induction d with
  | zero =>
    intro j acc hj hA
    rw [List.drop_of_length_le (by omega)]
    refine Ev.step (f := fun _ => some acc) (fun k => ?_) (Ev.now _)
    simp only [impl_product.l0]
    rw [if_neg (by omega)]
  | succ d ih =>
    intro j acc hj hA
    have hm := hx _ (rd_mem (xs := xs) (j := j) (by omega))
    rw [rd_drop (show j < xs.length by omega)]
    have h2 : (acc * rd xs j).natAbs ≤ 30 ^ (j + 1) := by rw [Int.natAbs_mul, Nat.pow_succ]; exact Nat.mul_le_mul hA hm.2
    have h3 := pow30 (show j + 1 ≤ 5 by omega)
    refine Ev.step (fun k => ?_) (ih (j + 1) (acc * rd xs j) (by omega) h2)
    simp only [impl_product.l0]
    rw [if_pos (by omega), if_pos (by omega), if_pos (by omega), w64 (x := acc * rd xs j) (by omega) (by omega), w64 (x := (j : Int) + 1) (by omega) (by omega)]
    rfl
theorem implProduct_ev {xs : List Int} (hx : ∀ x ∈ xs, Sm x) (hl : xs.length ≤ 5) : Ev (fun k => impl_product.f k xs) (prod xs) :=
  implProduct_l xs hx hl xs.length 0 1 (by omega) (by simp)
/-! ### forms vanish -/
/-! ### places -/

/-! ### forms and places are drawn -/
theorem rd_mem' {xs : List Int} {v : Int} (h0 : 0 ≤ v) (h : v < (xs.length : Int)) : rd xs v ∈ xs := by
  have := rd_mem (xs := xs) (j := v.toNat) (by omega)
  rwa [Int.toNat_of_nonneg h0] at this
def GoodF (n : Nat) (xs : List Int) : Prop := xs.length ≤ n ∧ (∀ x ∈ xs, x.natAbs ≤ 31) ∧ (formOk xs = true → ∀ x ∈ xs, x ∈ TT)
theorem form_draw_l {b : List Int} (hb : BytesB b) (n : Nat) (hn : n ≤ 5) (hn1 : 1 ≤ n) : ∀ (d j : Nat) (out : List Int) (q : Int), j + d = n → out.length = j → (∀ x ∈ out, x ∈ TT) → 0 ≤ q → q + 2 * d ≤ 999999999999900 →
    ∃ xs q', GoodF n xs ∧ q ≤ q' ∧ q' ≤ q + 2 * d + 2 ∧ Ev (fun k => spec_l91Form.l0 k out n j b q) (xs, q') := by
  intro d
  induction d with
  | zero =>
    intro j out q hj ho hT hq hQ
    obtain ⟨v1, h1, g1, e1⟩ := pick_ev hb (p := q) (by omega) (by omega) (n := 40) (by omega)
    have hsm : ∀ x ∈ out, x.natAbs ≤ 31 := fun x hx => by have := (TT_sm (hT x hx)).2; omega
    by_cases c : v1 = 0
    · obtain ⟨v2, h2, g2, e2⟩ := pick_ev hb (p := q + 1) (by omega) (by omega) (n := 2) (by omega)
      have hm := rd_mem' (xs := [0, 31]) h2 (by simp; omega)
      refine ⟨out.set 0 (rd [0, 31] v2), q + 1 + 1, ⟨by simp; omega, ?_, ?_⟩, by omega, by omega, ?_⟩
      · intro x hx
        rcases List.mem_or_eq_of_mem_set hx with h | h
        · exact hsm x h
        · subst h; simp only [List.mem_cons, List.not_mem_nil, or_false] at hm; omega
      · intro hk
        exfalso
        obtain ⟨hk, _⟩ := formOk_iff.1 hk
        have := hk (rd [0, 31] v2) (List.mem_set (by omega) _)
        unfold Sm at this
        simp only [List.mem_cons, List.not_mem_nil, or_false] at hm; omega
      · apply Ev.step
        · intro k
          simp only [spec_l91Form.l0, if_neg (show ¬ (j : Int) < (n : Int) by omega)]
          exact rfl
        · refine e1.bind ?_
          simp only [if_pos c, Option.bind_some]
          refine e2.bind ?_
          simp only [if_pos h2, if_pos (show v2 < ((List.length [(0 : Int), 31] : Nat) : Int) from by simp; omega), if_pos (show 0 < (out.length : Int) by omega)]
          exact Ev.now _
    · by_cases c1 : v1 = 1
      · refine ⟨[], q + 1, ⟨by simp, by simp, by simp⟩, by omega, by omega, ?_⟩
        apply Ev.step
        · intro k
          simp only [spec_l91Form.l0, if_neg (show ¬ (j : Int) < (n : Int) by omega)]
          exact rfl
        · refine e1.bind ?_
          simp only [if_neg c, if_pos c1]; exact Ev.now _
      · refine ⟨out, q + 1, ⟨by omega, hsm, fun _ => hT⟩, by omega, by omega, ?_⟩
        apply Ev.step
        · intro k
          simp only [spec_l91Form.l0, if_neg (show ¬ (j : Int) < (n : Int) by omega)]
          exact rfl
        · refine e1.bind ?_
          simp only [if_neg c, if_neg c1]; exact Ev.now _
  | succ d ih =>
    intro j out q hj ho hT hq hQ
    obtain ⟨v1, h1, g1, e1⟩ := pick_ev hb (p := q) (by omega) (by omega) (n := 16) (by omega)
    obtain ⟨v2, h2, g2, e2⟩ := pick_ev hb (p := q + 1) (by omega) (by omega) (n := 5) (by omega)
    have hm := rd_mem' (xs := [1, 2, 3, 5, 6, 7, 1, 10, 12, 3, 15, 4, 21, 1, 30, 8]) h1 (by simp; omega)
    have hlen : v1 < ((List.length [(1 : Int), 2, 3, 5, 6, 7, 1, 10, 12, 3, 15, 4, 21, 1, 30, 8] : Nat) : Int) := by simp; omega
    have ht : rd [1, 2, 3, 5, 6, 7, 1, 10, 12, 3, 15, 4, 21, 1, 30, 8] v1 ∈ TT ∧ -(rd [1, 2, 3, 5, 6, 7, 1, 10, 12, 3, 15, 4, 21, 1, 30, 8] v1) ∈ TT := by
      have : ∀ x ∈ ([1, 2, 3, 5, 6, 7, 1, 10, 12, 3, 15, 4, 21, 1, 30, 8] : List Int), x ∈ TT ∧ -x ∈ TT := by decide +kernel
      exact this _ hm
    generalize hx : rd [1, 2, 3, 5, 6, 7, 1, 10, 12, 3, 15, 4, 21, 1, 30, 8] v1 = x at ht
    have hs := TT_sm ht.1
    unfold Sm at hs
    by_cases c : v2 < 2
    · obtain ⟨xs, q', hg, hq1, hq2, e3⟩ := ih (j + 1) (out ++ [-x]) (q + 1 + 1) (by omega) (by simp; omega) (by intro y hy; rcases List.mem_append.1 hy with h | h; exact hT y h; rw [List.mem_singleton.1 h]; exact ht.2) (by omega) (by omega)
      refine ⟨xs, q', hg, by omega, by omega, ?_⟩
      apply Ev.step
      · intro k
        simp only [spec_l91Form.l0, if_pos (show (j : Int) < (n : Int) by omega), Option.bind_some]
        exact rfl
      · refine e1.bind ?_
        simp only [if_pos h1, if_pos hlen]
        refine e2.bind ?_
        simp only [if_pos c, if_pos (show out.length < 17592186044416 by omega), hx, w64 (x := -x) (by omega) (by omega), w64 (x := (j : Int) + 1) (by omega) (by omega)]
        exact e3
    · obtain ⟨xs, q', hg, hq1, hq2, e3⟩ := ih (j + 1) (out ++ [x]) (q + 1 + 1) (by omega) (by simp; omega) (by intro y hy; rcases List.mem_append.1 hy with h | h; exact hT y h; rw [List.mem_singleton.1 h]; exact ht.1) (by omega) (by omega)
      refine ⟨xs, q', hg, by omega, by omega, ?_⟩
      apply Ev.step
      · intro k
        simp only [spec_l91Form.l0, if_pos (show (j : Int) < (n : Int) by omega), Option.bind_some]
        exact rfl
      · refine e1.bind ?_
        simp only [if_pos h1, if_pos hlen]
        refine e2.bind ?_
        simp only [if_neg c, if_pos (show out.length < 17592186044416 by omega), hx, w64 (x := (j : Int) + 1) (by omega) (by omega)]
        exact e3
theorem form_draw {b : List Int} (hb : BytesB b) {q : Int} (hq : 0 ≤ q) (hQ : q ≤ 999999999999000) (m : Nat) (hm : m ≤ 5) (hm1 : 1 ≤ m) : ∃ xs q', GoodF m xs ∧ q ≤ q' ∧ q' ≤ q + 2 * m + 3 ∧ Ev (fun k => spec_l91Form.f k b q m) (xs, q') := by
  obtain ⟨v1, h1, g1, e1⟩ := pick_ev hb (p := q) (by omega) (by omega) (n := (m : Int)) (by omega)
  obtain ⟨n, hn⟩ : ∃ n : Nat, 1 + v1 = (n : Int) := ⟨(1 + v1).toNat, by omega⟩
  obtain ⟨xs, q', hg, h2, h3, e2⟩ := form_draw_l hb n (by omega) (by omega) n 0 [] (q + 1) (by omega) rfl (by simp) (by omega) (by omega)
  refine ⟨xs, q', ⟨by have := hg.1; omega, hg.2⟩, by omega, by omega, ?_⟩
  unfold spec_l91Form.f
  refine e1.bind ?_
  simp only [hn, w64 (x := (n : Int)) (by omega) (by omega)]
  exact e2

/-! ### cores -/
theorem implCoreIn_l {q : Int} (hq : 2 ≤ q) (hQ : q ≤ 1000000000) (qs : List Int) (i : Nat) (hi : i ≤ 1000000000) (v : Int × Int) : ∀ (d : Nat) (n r : Int), n ≠ 0 → n.natAbs < 2 ^ d → d ≤ 63 → 1 ≤ r → (n * (r * r)).natAbs ≤ 1000000000 →
    Ev (fun k => impl_coreOf.l0 k (coreW q d n r).1 (coreW q d n r).2 qs (qs.length : Int) ((i + 1 : Nat) : Int)) v →
    Ev (fun k => impl_coreOf.l1 k n r q qs (qs.length : Int) i) v := by
  intro d
  have hqq : 4 ≤ q * q := by have := sq_le (show (0 : Int) ≤ 2 by omega) hq; omega
  have hqQ : q * q ≤ 1000000000 * 1000000000 := sq_le (by omega) hQ
  induction d with
  | zero => intro n r hn h; simp at h; omega
  | succ d ih =>
    intro n r hn h hd hr hb hv
    have hnb : n.natAbs ≤ 1000000000 := by
      have h1 : r * r ≠ 0 := Int.mul_ne_zero (by omega) (by omega)
      have := mul_natAbs_le (a := n) h1; omega
    simp only [coreW] at hv
    by_cases c : n.tmod (q * q) = 0
    · rw [if_pos c] at hv
      obtain ⟨h1, h2, h3⟩ := sq_div hq hn c
      have hrq : 1 ≤ r * q := by have := Int.mul_le_mul hr (show (1 : Int) ≤ q by omega) (by omega) (by omega); omega
      have e : n * (r * r) = n.tdiv (q * q) * ((r * q) * (r * q)) := by
        conv => lhs; rw [h2]
        grind
      have hrqb : (r * q).natAbs ≤ 1000000000 := by
        have h4 : (n.tdiv (q * q) * ((r * q) * (r * q))).natAbs ≤ 1000000000 := by rw [← e]; exact hb
        rw [Int.natAbs_mul, Int.natAbs_mul] at h4
        have h5 : 1 ≤ (n.tdiv (q * q)).natAbs := by omega
        have h6 : (r * q).natAbs ≤ (r * q).natAbs * (r * q).natAbs := Nat.le_mul_of_pos_left _ (by omega)
        have h7 := Nat.le_mul_of_pos_left ((r * q).natAbs * (r * q).natAbs) h5
        omega
      refine Ev.step (fun k => ?_) (ih (n.tdiv (q * q)) (r * q) h1 (by rw [Nat.pow_succ] at h; omega) (by omega) hrq (by rw [← e]; exact hb) hv)
      simp only [impl_coreOf.l1]
      rw [w64 (x := q * q) (by omega) (by omega), if_neg (by omega), if_pos c, w64 (x := n.tdiv (q * q)) (by omega) (by omega), w64 (x := r * q) (by omega) (by omega)]
    · rw [if_neg c] at hv
      refine Ev.step (fun k => ?_) hv
      simp only [impl_coreOf.l1]
      rw [w64 (x := q * q) (by omega) (by omega), if_neg (by omega), if_neg c, w64 (x := (i : Int) + 1) (by omega) (by omega)]
      rfl
theorem coreW_more {q : Int} (hq : 2 ≤ q) : ∀ (d e : Nat) (n r : Int), n ≠ 0 → n.natAbs < 2 ^ d → d ≤ e → coreW q e n r = coreW q d n r := by
  intro d
  induction d with
  | zero => intro e n r hn h; simp at h; omega
  | succ d ih =>
    intro e n r hn h he
    obtain ⟨e, rfl⟩ : ∃ m, e = m + 1 := ⟨e - 1, by omega⟩
    simp only [coreW]
    by_cases c : n.tmod (q * q) = 0
    · rw [if_pos c, if_pos c]
      obtain ⟨h1, h2, h3⟩ := sq_div hq hn c
      exact ih e _ _ h1 (by rw [Nat.pow_succ] at h; omega) (by omega)
    · rw [if_neg c, if_neg c]
theorem implCore_l (qs : List Int) (hq : ∀ q ∈ qs, 2 ≤ q ∧ q ≤ 1000000000) (hl : qs.length ≤ 1000000000) : ∀ (d j : Nat) (n r : Int), j + d = qs.length → n ≠ 0 → 1 ≤ r → (n * (r * r)).natAbs ≤ 1000000000 →
    Ev (fun k => impl_coreOf.l0 k n r qs (qs.length : Int) j) (coreLs (qs.drop j) n r) := by
  intro d
  induction d with
  | zero =>
    intro j n r hj hn hr hb
    rw [List.drop_of_length_le (by omega)]
    refine Ev.step (f := fun _ => some (n, r)) (fun k => ?_) (Ev.now _)
    simp only [impl_coreOf.l0]
    rw [if_neg (by omega)]
  | succ d ih =>
    intro j n r hj hn hr hb
    have hm := hq _ (rd_mem (xs := qs) (j := j) (by omega))
    rw [rd_drop (show j < qs.length by omega)]
    simp only [coreLs]
    have hnb : n.natAbs ≤ 1000000000 := by
      have h1 : r * r ≠ 0 := Int.mul_ne_zero (by omega) (by omega)
      have := mul_natAbs_le (a := n) h1; omega
    obtain ⟨g1, g2, g3, g4, g5⟩ := coreW_spec hm.1 64 n r hn (by omega) hr
    have h63 : n.natAbs < 2 ^ 63 := by omega
    have e := coreW_more hm.1 63 64 n r hn h63 (by omega)
    have := implCoreIn_l hm.1 hm.2 qs j (by omega) (coreLs (qs.drop (j + 1)) (coreW (rd qs (j : Int)) 64 n r).1 (coreW (rd qs (j : Int)) 64 n r).2) 63 n r hn h63 (by omega) hr hb (by
      rw [← e]
      exact ih (j + 1) _ _ (by omega) g1 g2 (by rw [← g3]; exact hb))
    refine Ev.step (fun k => ?_) this
    simp only [impl_coreOf.l0]
    rw [if_pos (by omega), if_pos (by omega), if_pos (by omega)]
theorem primes_le {n q : Int} (hn : n ≠ 0) (h : n.natAbs < 2 ^ 63) (hq : q ∈ primes n) : 2 ≤ q ∧ q.natAbs ≤ n.natAbs := by
  obtain ⟨h1, h2⟩ := (primes_iff hn h).1 hq
  exact ⟨h1.1, Nat.le_of_dvd (by omega) (Int.natAbs_dvd_natAbs.2 h2)⟩
theorem implCore_ev {n : Int} (hn : n ≠ 0) (h : n.natAbs ≤ 100000000) : Ev (fun k => impl_coreOf.f k n) (coreF n) := by
  unfold impl_coreOf.f
  refine (primesOf_ev hn (by omega)).bind ?_
  have hp := primes_len n
  exact implCore_l (primes n) (fun q hq => by have := primes_le hn (by omega) hq; omega) (by omega) (primes n).length 0 n 1 (by omega) hn (by omega) (by simpa using by omega)
theorem specCoreIn_l {q : Int} (hq : 2 ≤ q) (hQ : q ≤ 1000000) (v : Int × Int) : ∀ (d : Nat) (n r : Int), n ≠ 0 → n.natAbs < 2 ^ d → d ≤ 63 → 1 ≤ r → (n * (r * r)).natAbs ≤ 1000000000 →
    Ev (fun k => spec_l1Core.l0 k (coreW q d n r).1 (coreW q d n r).2 (q + 1)) v →
    Ev (fun k => spec_l1Core.l1 k n r q) v := by
  intro d
  have hqq : 4 ≤ q * q := by have := sq_le (show (0 : Int) ≤ 2 by omega) hq; omega
  have hqQ : q * q ≤ 1000000 * 1000000 := sq_le (by omega) hQ
  induction d with
  | zero => intro n r hn h; simp at h; omega
  | succ d ih =>
    intro n r hn h hd hr hb hv
    have hnb : n.natAbs ≤ 1000000000 := by
      have h1 : r * r ≠ 0 := Int.mul_ne_zero (by omega) (by omega)
      have := mul_natAbs_le (a := n) h1; omega
    simp only [coreW] at hv
    by_cases c : n.tmod (q * q) = 0
    · rw [if_pos c] at hv
      obtain ⟨h1, h2, h3⟩ := sq_div hq hn c
      have hrq : 1 ≤ r * q := by have := Int.mul_le_mul hr (show (1 : Int) ≤ q by omega) (by omega) (by omega); omega
      have e : n * (r * r) = n.tdiv (q * q) * ((r * q) * (r * q)) := by
        conv => lhs; rw [h2]
        grind
      have hrqb : (r * q).natAbs ≤ 1000000000 := by
        have h4 : (n.tdiv (q * q) * ((r * q) * (r * q))).natAbs ≤ 1000000000 := by rw [← e]; exact hb
        rw [Int.natAbs_mul, Int.natAbs_mul] at h4
        have h5 : 1 ≤ (n.tdiv (q * q)).natAbs := by omega
        have h6 : (r * q).natAbs ≤ (r * q).natAbs * (r * q).natAbs := Nat.le_mul_of_pos_left _ (by omega)
        have h7 := Nat.le_mul_of_pos_left ((r * q).natAbs * (r * q).natAbs) h5
        omega
      refine Ev.step (fun k => ?_) (ih (n.tdiv (q * q)) (r * q) h1 (by rw [Nat.pow_succ] at h; omega) (by omega) hrq (by rw [← e]; exact hb) hv)
      simp only [spec_l1Core.l1]
      rw [w64 (x := q * q) (by omega) (by omega), if_neg (by omega), if_pos c, w64 (x := n.tdiv (q * q)) (by omega) (by omega), w64 (x := r * q) (by omega) (by omega)]
    · rw [if_neg c] at hv
      refine Ev.step (fun k => ?_) hv
      simp only [spec_l1Core.l1]
      rw [w64 (x := q * q) (by omega) (by omega), if_neg (by omega), if_neg c, w64 (x := q + 1) (by omega) (by omega)]
theorem specSize_eq {n : Int} (h : n.natAbs < 2 ^ 63) : spec_l1Size.f n = some (absI n) := by
  unfold spec_l1Size.f
  first
  | rw [size_ev (n := n) (by omega) (by omega)]
  | rw [Int.zero_sub, size_ev (n := n) (by omega) (by omega)]
theorem specCore_l : ∀ (d : Nat) (n r p : Int), n ≠ 0 → 1 ≤ r → (n * (r * r)).natAbs ≤ 1000000000 → 2 ≤ p → 40000 ≤ p + d → p ≤ 50000 → (∀ q : Int, 2 ≤ q → q < p → ¬ q * q ∣ n) →
    ∃ c s, IsCore (n * (r * r)) c s ∧ Ev (fun k => spec_l1Core.l0 k n r p) (c, s) := by
  intro d
  have fin : ∀ (n r p : Int), n ≠ 0 → 1 ≤ r → n.natAbs ≤ 1000000000 → 2 ≤ p → p ≤ 50000 → (∀ q : Int, 2 ≤ q → q < p → ¬ q * q ∣ n) → ¬ p * p ≤ absI n →
      ∃ c s, IsCore (n * (r * r)) c s ∧ Ev (fun k => spec_l1Core.l0 k n r p) (c, s) := by
    intro n r p hn hr hnb hp hP hq c
    have hpp : p * p ≤ 50000 * 50000 := sq_le (by omega) hP
    have hp0 := sq_nonneg p
    refine ⟨n, r, ⟨rfl, hr, hn, fun e he hd => ?_⟩, ?_⟩
    · rcases Int.lt_or_le e p with h | h
      · exact hq e he h hd
      · have h1 := sq_le (by omega) h
        have h2 : (e * e).natAbs ≤ n.natAbs := Nat.le_of_dvd (by omega) (Int.natAbs_dvd_natAbs.2 hd)
        unfold absI at c; omega
    · refine Ev.step (f := fun _ => some (n, r)) (fun k => ?_) (Ev.now _)
      simp only [spec_l1Core.l0, specSize_eq (n := n) (by omega), Option.bind_some]
      rw [w64 (x := p * p) (by omega) (by omega), if_neg c]
  have bd : ∀ (n r : Int), n ≠ 0 → 1 ≤ r → (n * (r * r)).natAbs ≤ 1000000000 → n.natAbs ≤ 1000000000 := by
    intro n r hn hr hb
    have h1 : r * r ≠ 0 := Int.mul_ne_zero (by omega) (by omega)
    have := mul_natAbs_le (a := n) h1; omega
  induction d with
  | zero =>
    intro n r p hn hr hb hp hd hP hq
    have hnb := bd n r hn hr hb
    have := sq_le (show (0 : Int) ≤ 40000 by omega) (show 40000 ≤ p by omega)
    exact fin n r p hn hr hnb hp hP hq (by unfold absI; omega)
  | succ d ih =>
    intro n r p hn hr hb hp hd hP hq
    have hnb := bd n r hn hr hb
    by_cases c : p * p ≤ absI n
    · have hpp : p * p ≤ 50000 * 50000 := sq_le (by omega) hP
      have hp0 := sq_nonneg p
      have hp4 : p < 40000 := by
        rcases Int.lt_or_le p 40000 with h | h
        · exact h
        · have := sq_le (show (0 : Int) ≤ 40000 by omega) h
          unfold absI at c; omega
      have h63 : n.natAbs < 2 ^ 63 := by omega
      obtain ⟨g1, g2, g3, g4, g5⟩ := coreW_spec hp 63 n r hn h63 hr
      obtain ⟨cc, s, hc, he⟩ := ih (coreW p 63 n r).1 (coreW p 63 n r).2 (p + 1) g1 g2 (by rw [← g3]; exact hb) (by omega) (by omega) (by omega) (fun q q1 q2 hqd => by
        rcases Int.lt_or_eq_of_le (show q ≤ p by omega) with h | h
        · exact hq q q1 h (Int.dvd_trans hqd g4)
        · subst h; exact g5 hqd)
      refine ⟨cc, s, by rw [g3]; exact hc, ?_⟩
      refine Ev.step (fun k => ?_) (specCoreIn_l hp (by omega) (cc, s) 63 n r hn h63 (by omega) hr hb he)
      simp only [spec_l1Core.l0, specSize_eq (n := n) (by omega), Option.bind_some]
      rw [w64 (x := p * p) (by omega) (by omega), if_pos c]
    · exact fin n r p hn hr hnb hp hP hq c
theorem specCore_ev {n : Int} (hn : n ≠ 0) (h : n.natAbs ≤ 100000000) : Ev (fun k => spec_l1Core.f k n) (coreF n) := by
  unfold spec_l1Core.f
  obtain ⟨c, s, hc, he⟩ := specCore_l 40000 n 1 2 hn (by omega) (by simpa using by omega) (by omega) (by omega) (by omega) (fun q q1 q2 => by omega)
  have e := core_is hn (by omega) (show IsCore n c s by have := hc; simp only [Int.mul_one] at this; exact this)
  rw [e]; exact he
/-! ### two lists are the same -/
theorem sameInts_l (xs ys : List Int) (he : xs.length = ys.length) (hl : xs.length ≤ 9223372036854775806) : ∀ (d j : Nat), j + d = xs.length →
    Ev (fun k => laws_sameInts.l0 k xs ys j) (decide (xs.drop j = ys.drop j)) := by
  intro d
  induction d with
  | zero =>
    intro j hj
    rw [List.drop_of_length_le (by omega), List.drop_of_length_le (show ys.length ≤ j by omega)]
    refine Ev.step (f := fun _ => some true) (fun k => ?_) (by simpa using Ev.now true)
    simp only [laws_sameInts.l0]
    rw [if_neg (by omega)]
  | succ d ih =>
    intro j hj
    rw [rd_drop (show j < xs.length by omega), rd_drop (show j < ys.length by omega)]
    have := ih (j + 1) (by omega)
    by_cases c : rd xs (j : Int) = rd ys (j : Int)
    · rw [c]
      simp only [List.cons.injEq, true_and]
      refine Ev.step (fun k => ?_) this
      simp only [laws_sameInts.l0]
      rw [if_pos (by omega), if_pos (by omega), if_pos (by omega), if_pos c, w64 (x := (j : Int) + 1) (by omega) (by omega)]
      rfl
    · rw [decide_eq_false (fun h => c (List.cons.inj h).1)]
      refine Ev.step (f := fun _ => some false) (fun k => ?_) (Ev.now _)
      simp only [laws_sameInts.l0]
      rw [if_pos (by omega), if_pos (by omega), if_pos (by omega), if_neg c]
theorem sameInts_ev {xs ys : List Int} (hl : xs.length ≤ 9223372036854775806) : Ev (fun k => laws_sameInts.f k xs ys) (decide (xs = ys)) := by
  unfold laws_sameInts.f
  by_cases c : xs.length = ys.length
  · simp only [if_pos (show (xs.length : Int) = (ys.length : Int) by omega)]
    simpa using sameInts_l xs ys c hl xs.length 0 (by omega)
  · simp only [if_neg (show ¬ (xs.length : Int) = (ys.length : Int) by omega), decide_eq_false (fun h : xs = ys => c (by rw [h]))]
    exact Ev.now _
/-! ### discriminants; forms that are the same -/
def disc (xs : List Int) : Int := (coreF (prod xs)).1
theorem implDisc_ev {xs : List Int} (h31 : ∀ x ∈ xs, x.natAbs ≤ 1000000) (hl : xs.length ≤ 100) : Ev (fun k => impl_FormDisc.f k xs) (if formOk xs = true then disc xs else 0) := by
  unfold impl_FormDisc.f
  refine (implFormValid_ev (xs := xs) h31 (by omega)).bind ?_
  by_cases c : formOk xs = true
  · have hk := formOk_iff.1 c
    have hb := prod_bd4 hk.1 (by omega)
    simp only [if_pos c]
    refine (implProduct_ev hk.1 (by omega)).bind ((implCore_ev hb.1 (by omega)).bind ?_)
    exact Ev.now _
  · simp only [if_neg c]; exact Ev.now _

/-! ### texts as lists of bytes -/
def tx (l : List UInt8) : ByteArray := ⟨l.toArray⟩
theorem tx_data (l : List UInt8) : (tx l).data.toList = l := by simp [tx]
theorem tx_size (l : List UInt8) : (tx l).size = l.length := by simp [tx, ByteArray.size]
theorem tx_append (a b : List UInt8) : tx a ++ tx b = tx (a ++ b) := by
  apply ByteArray.ext
  apply Array.ext'
  simp [tx]
theorem tx_toList (l : List UInt8) : (tx l).toList = l := by simp [tx]
theorem tx_extract (l : List UInt8) (a b : Nat) : (tx l).extract a b = tx ((l.drop a).take (b - a)) := by
  rw [Lib.extract_eq, tx_data]; rfl
theorem tx_inj {a b : List UInt8} (h : tx a = tx b) : a = b := by rw [← tx_data a, h, tx_data]
theorem index_mid {c : UInt8} : ∀ (a b : List UInt8), c ∉ a → Lib.index (a ++ c :: b) [c] = a.length
  | [], b, _ => by simp [Lib.index]
  | x :: a, b, h => by
    have hx : c ≠ x := fun e => h (by simp [e])
    have := index_mid a b (fun (m : c ∈ a) => h (List.mem_cons_of_mem _ m))
    simp only [List.cons_append, Lib.index, this, List.isPrefixOf, Bool.and_true, List.length_cons]
    rw [if_neg (by simpa using hx), if_neg (by simp)]
    omega
theorem index_not {c : UInt8} : ∀ (a : List UInt8), c ∉ a → Lib.index a [c] = -1
  | [], _ => by simp [Lib.index]
  | x :: a, h => by
    have hx : c ≠ x := fun e => h (by simp [e])
    have := index_not a (fun (m : c ∈ a) => h (List.mem_cons_of_mem _ m))
    simp only [Lib.index, this, List.isPrefixOf, Bool.and_true]
    rw [if_neg (by simpa using hx), if_pos (by simp)]
theorem split_not {c : UInt8} {a : List UInt8} (h : c ∉ a) : Lib.split a [c] = [a] := by
  unfold Lib.split
  rw [Lib.count_miss (index_not a h)]
  rfl
theorem split_mid {c : UInt8} {a : List UInt8} (b : List UInt8) (h : c ∉ a) : Lib.split (a ++ c :: b) [c] = a :: Lib.split b [c] := by
  unfold Lib.split
  have hi := index_mid a b h
  rw [Lib.count_hit (by simp) hi, Nat.add_comm 1]
  have hk : Lib.splitK [c] 0 (Lib.count b [c] + 1) (a ++ c :: b) = if Lib.index (a ++ c :: b) [c] == -1 then [a ++ c :: b] else (a ++ c :: b).take ((Lib.index (a ++ c :: b) [c]).toNat + 0) :: Lib.splitK [c] 0 (Lib.count b [c]) ((a ++ c :: b).drop ((Lib.index (a ++ c :: b) [c]).toNat + [c].length)) := rfl
  have e : (a ++ c :: b).drop (a.length + [c].length) = b := by simp
  have e2 : ((a.length : Int)).toNat = a.length := by omega
  rw [e, hk, hi, if_neg (by simp), e2, e, Nat.add_zero, List.take_left]
theorem split_tx {s : List UInt8} {c : UInt8} (hs : s.length < 4294967281) : strings_Split.f (tx s) (tx [c]) = some ((Lib.split s [c]).map tx) := by
  unfold strings_Split.f
  rw [if_pos ⟨by rw [tx_size]; exact hs, by rw [tx_size]; simp⟩]
  have h := Lib.splitB_data (tx [c]) 0 (Lib.countB (tx s) (tx [c])) (tx s)
  rw [tx_data, tx_data] at h
  have e : Lib.countB (tx s) (tx [c]) = Lib.count s [c] := by unfold Lib.countB; rw [tx_data, tx_data]
  rw [e] at h ⊢
  show _ = some ((Lib.splitK [c] 0 (Lib.count s [c]) s).map tx)
  rw [← h, List.map_map]
  have e2 : ∀ l : List ByteArray, l.map (tx ∘ fun x => x.data.toList) = l := by
    intro l
    induction l with
    | nil => rfl
    | cons x l ih => simp only [List.map_cons, ih]; rfl
  rw [e2]
/-! ### numbers as texts -/
theorem dec_step {n : Nat} (h : ¬ n < 10) : Lib.decDigits n = Lib.decDigits (n / 10) ++ [UInt8.ofNat (48 + n % 10)] := by
  rw [Lib.decDigits, dif_neg h]
theorem dec_bytes : ∀ (n : Nat), ∀ b ∈ Lib.decDigits n, 48 ≤ b.toNat ∧ b.toNat ≤ 57 := by
  intro n
  induction n using Nat.strongRecOn with
  | _ n ih =>
    by_cases c : n < 10
    · rw [Lib.decDigits_one c]
      intro b hb
      obtain rfl := List.mem_singleton.1 hb
      rw [UInt8.toNat_ofNat']
      omega
    · rw [dec_step c]
      intro b hb
      rcases List.mem_append.1 hb with hb | hb
      · exact ih _ (by omega) b hb
      · obtain rfl := List.mem_singleton.1 hb
        rw [UInt8.toNat_ofNat']
        omega
/-- The number that digits tell. -/
def valD (l : List UInt8) (n : Int) : Int := l.foldl (fun n b => n * 10 + ((b.toNat : Int) - 48)) n
theorem dec_val : ∀ (n : Nat), valD (Lib.decDigits n) 0 = n := by
  intro n
  induction n using Nat.strongRecOn with
  | _ n ih =>
    by_cases c : n < 10
    · rw [Lib.decDigits_one c]
      simp only [valD, List.foldl_cons, List.foldl_nil, UInt8.toNat_ofNat']
      omega
    · rw [dec_step c]
      have := ih (n / 10) (by omega)
      unfold valD at this ⊢
      rw [List.foldl_append, this]
      simp only [List.foldl_cons, List.foldl_nil, UInt8.toNat_ofNat']
      omega
theorem dec_ne (n : Nat) : 1 ≤ (Lib.decDigits n).length := by
  rw [Lib.decDigits_length]; exact Lib.nDigits_pos n
theorem dec_len4 {n : Nat} (h : n < 10000) : (Lib.decDigits n).length ≤ 4 := by
  rw [Lib.decDigits_length]
  by_cases c0 : n < 10
  · rw [Lib.nDigits_small c0]; omega
  rw [Lib.nDigits_big c0]
  by_cases c1 : n / 10 < 10
  · rw [Lib.nDigits_small c1]; omega
  rw [Lib.nDigits_big c1]
  by_cases c2 : n / 10 / 10 < 10
  · rw [Lib.nDigits_small c2]; omega
  rw [Lib.nDigits_big c2]
  rw [Lib.nDigits_small (by omega)]; omega
theorem digits_nat : ∀ (n : Nat), n ≤ 4611686018427387904 → Ev (fun k => laws_digits.f k (n : Int)) (tx (Lib.decDigits n)) := by
  intro n
  induction n using Nat.strongRecOn with
  | _ n ih =>
    intro hn
    by_cases c : n < 10
    · rw [Lib.decDigits_one c]
      refine Ev.step (f := fun _ => some (tx [UInt8.ofNat (48 + n)])) (fun k => ?_) (Ev.now _)
      simp only [laws_digits.f]
      rw [if_neg (by omega), if_pos (by omega), w64 (by omega) (by omega)]
      congr 1
      have e : ((48 + (n : Int)) % 256).toNat = 48 + n := by omega
      simp [strOfNums, tx, e]
    · rw [dec_step c]
      have e1 : Int.tdiv (n : Int) 10 = ((n / 10 : Nat) : Int) := rfl
      have e2 : Int.tmod (n : Int) 10 = ((n % 10 : Nat) : Int) := rfl
      have hl := Lib.nDigits_le20 (n / 10) (by omega)
      refine Ev.step (f := fun k => (laws_digits.f k ((n / 10 : Nat) : Int)).bind fun t160 => ((some (([(wrap64 (48 + ((n % 10 : Nat) : Int))) % 256] : List Int) : List Int)).bind fun y161 => (if t160.size + (strOfNums y161).size ≤ 9223372036854775807 then (some (t160 ++ (strOfNums y161))) else (none)))) (fun k => ?_) ?_
      · simp only [laws_digits.f]
        rw [if_neg (by omega), if_neg (by omega), e1, e2, w64 (x := ((n / 10 : Nat) : Int)) (by omega) (by omega)]
      refine (ih (n / 10) (by omega) (by omega)).bind ?_
      have e3 : strOfNums [(wrap64 (48 + ((n % 10 : Nat) : Int))) % 256] = tx [UInt8.ofNat (48 + n % 10)] := by
        rw [w64 (by omega) (by omega)]
        have e : ((48 + ((n % 10 : Nat) : Int)) % 256).toNat = 48 + n % 10 := by omega
        simp only [strOfNums, tx, List.map_cons, List.map_nil, e]
      simp only [Option.bind_some, e3, tx_size, tx_append, Lib.decDigits_length, List.length_singleton]
      rw [if_pos (by omega)]
      exact Ev.now _
theorem itoa_of {n : Int} (h : 0 ≤ n) : Lib.itoa n = Lib.decDigits n.toNat := by unfold Lib.itoa; rw [if_neg (by omega)]
theorem digits_ev {n : Int} (h0 : -4611686018427387904 ≤ n) (h1 : n ≤ 4611686018427387904) : Ev (fun k => laws_digits.f k n) (tx (Lib.itoa n)) := by
  by_cases c : n < 0
  · have d := digits_nat n.natAbs (by omega)
    have e : Lib.itoa n = 45 :: Lib.decDigits n.natAbs := by unfold Lib.itoa; rw [if_pos c]
    rw [e]
    refine Ev.step (f := fun k => (laws_digits.f k ((n.natAbs : Nat) : Int)).bind fun t156 => (if 1 + t156.size ≤ 9223372036854775807 then (some ((⟨#[45]⟩ : ByteArray) ++ t156)) else (none))) (fun k => ?_) (d.bind ?_)
    · simp only [laws_digits.f]
      rw [if_pos c, w64 (by omega) (by omega), show -n = ((n.natAbs : Nat) : Int) by omega]
    · have hl := Lib.nDigits_le20 n.natAbs (by omega)
      rw [tx_size, Lib.decDigits_length, if_pos (by omega), show (⟨#[45]⟩ : ByteArray) = tx [45] from rfl, tx_append]
      exact Ev.now _
  · rw [itoa_of (by omega)]
    have := digits_nat n.toNat (by omega)
    rwa [Int.toNat_of_nonneg (by omega)] at this
/-! ### lists of numbers as texts -/
/-- Numbers with a space ahead of each. -/
def spc (xs : List Int) : List UInt8 := xs.flatMap fun x => 32 :: Lib.itoa x
/-- Numbers with spaces between. -/
def jn (xs : List Int) : List UInt8 := Lib.join (xs.map Lib.itoa) [32]
def Mid (xs : List Int) : Prop := ∀ x ∈ xs, -4611686018427387904 ≤ x ∧ x ≤ 4611686018427387904
theorem spc_len {xs : List Int} (h : Mid xs) : (spc xs).length ≤ 22 * xs.length := by
  induction xs with
  | nil => simp [spc]
  | cons x xs ih =>
    have h1 := h x (by simp)
    have := ih (fun y hy => h y (by simp [hy]))
    have hl := Lib.itoa_length_le x (by omega) (by omega)
    simp only [spc, List.flatMap_cons, List.length_append, List.length_cons] at this ⊢
    omega
theorem jn_cons (x : Int) (xs : List Int) : jn (x :: xs) = Lib.itoa x ++ spc xs := by
  induction xs generalizing x with
  | nil => simp [jn, Lib.join, spc, List.intercalate]
  | cons y xs ih =>
    have := ih y
    simp only [jn, Lib.join, List.map_cons, List.intercalate, spc, List.flatMap_cons] at this ⊢
    rw [List.intersperse_cons_cons, List.flatten_cons, List.flatten_cons, this]
    simp
theorem jn_spc (xs : List Int) : (spc xs).drop 1 = jn xs := by
  cases xs with
  | nil => simp [spc, jn, Lib.join, List.intercalate]
  | cons x xs => rw [jn_cons]; simp [spc]
theorem jn_len {xs : List Int} (h : Mid xs) : (jn xs).length ≤ 22 * xs.length := by
  rw [← jn_spc, List.length_drop]
  have := spc_len h
  omega
theorem spaced_l (xs : List Int) (hx : Mid xs) (hl : xs.length ≤ 1000000) : ∀ (d j : Nat) (out : List UInt8), j + d = xs.length → out.length ≤ 22 * j →
    Ev (fun k => laws_spaced.l0 k xs (tx out) (j : Int)) (tx (out ++ spc (xs.drop j))) := by
  intro d
  induction d with
  | zero =>
    intro j out hj _
    rw [List.drop_of_length_le (by omega)]
    refine Ev.step (f := fun _ => some (tx out)) (fun k => ?_) (by simpa [spc] using Ev.now (tx out))
    simp only [laws_spaced.l0]
    rw [if_neg (by omega)]
  | succ d ih =>
    intro j out hj ho
    have hm := hx _ (rd_mem (show j < xs.length by omega))
    have hlen := Lib.itoa_length_le (rd xs (j : Int)) (by omega) (by omega)
    have := ih (j + 1) (out ++ (32 :: Lib.itoa (rd xs (j : Int)))) (by omega) (by simp; omega)
    rw [rd_drop (show j < xs.length by omega)]
    refine Ev.step (f := fun k => (laws_digits.f k (rd xs (j : Int))).bind fun t165 => (if ((tx out) ++ (⟨#[32]⟩ : ByteArray)).size + t165.size ≤ 9223372036854775807 then (laws_spaced.l0 k xs (((tx out) ++ (⟨#[32]⟩ : ByteArray)) ++ t165) ((j + 1 : Nat) : Int)) else (none))) (fun k => ?_) ((digits_ev hm.1 hm.2).bind ?_)
    · simp only [laws_spaced.l0]
      rw [if_pos (by omega), tx_size, if_pos (by omega), if_pos (by omega), w64 (x := (j : Int) + 1) (by omega) (by omega)]
      rfl
    · rw [show (⟨#[32]⟩ : ByteArray) = tx [32] from rfl, tx_append, tx_append, tx_size, tx_size]
      simp only [List.length_append, List.length_singleton]
      simp only [if_pos (show out.length + 1 + (Lib.itoa (rd xs (j : Int))).length ≤ 9223372036854775807 by omega)]
      simpa [spc] using this
theorem spaced_ev {xs : List Int} (hx : Mid xs) (hl : xs.length ≤ 1000000) : Ev (fun k => laws_spaced.f k xs) (tx (spc xs)) := by
  have := spaced_l xs hx hl xs.length 0 [] (by omega) (by simp)
  rw [List.nil_append, List.drop_zero] at this
  exact this
theorem tail_eq (l : List UInt8) : laws_tail.f (tx l) = some (tx (l.drop 1)) := by
  unfold laws_tail.f
  rw [tx_toList]
  cases l with
  | nil => rfl
  | cons x l =>
    rw [if_neg (by simp), if_pos (by rw [tx_size, List.length_cons]; omega), tx_extract, tx_size]
    simp
theorem endLine_ev {n : Int} (h0 : -4611686018427387904 ≤ n) (h1 : n ≤ 4611686018427387904) : Ev (fun k => laws_endLine.f k n) (tx ([116, 101, 114, 109, 115, 32] ++ Lib.itoa n ++ [10])) := by
  have hlen := Lib.itoa_length_le n (by omega) (by omega)
  unfold laws_endLine.f
  refine (digits_ev h0 h1).bind ?_
  rw [show (⟨#[116, 101, 114, 109, 115, 32]⟩ : ByteArray) = tx [116, 101, 114, 109, 115, 32] from rfl, show (⟨#[10]⟩ : ByteArray) = tx [10] from rfl, tx_append, tx_append, tx_size, tx_size, if_pos (by omega), if_pos (by simp; omega)]
  exact Ev.now _
theorem itoa_eq {n : Int} (h0 : -4611686018427387904 ≤ n) (h1 : n ≤ 4611686018427387904) : strconv_Itoa.f n = some (tx (Lib.itoa n)) := by
  unfold strconv_Itoa.f
  rw [if_pos (by omega)]; rfl
theorem join_eq {xs : List Int} (hx : Mid xs) (hl : xs.length ≤ 1000000) : strings_Join.f (xs.map fun x => tx (Lib.itoa x)) (tx [32]) = some (tx (jn xs)) := by
  unfold strings_Join.f
  have e : (xs.map fun x => tx (Lib.itoa x)).map (fun b => b.data.toList) = xs.map Lib.itoa := by
    rw [List.map_map]; congr 1
  have hj := jn_len hx
  rw [e, tx_data, List.length_map, if_pos ⟨by omega, by unfold jn at hj; omega⟩]
  rfl
theorem listText_l (xs : List Int) (hx : Mid xs) (hl : xs.length ≤ 1000000) : ∀ (d j : Nat), j + d = xs.length →
    Ev (fun k => impl_listText.l0 k ((xs.take j).map fun x => tx (Lib.itoa x)) xs (xs.length : Int) (j : Int)) (tx (jn xs)) := by
  intro d
  induction d with
  | zero =>
    intro j hj
    rw [List.take_of_length_le (by omega)]
    refine Ev.step (f := fun _ => some (tx (jn xs))) (fun k => ?_) (Ev.now _)
    simp only [impl_listText.l0]
    rw [if_neg (by omega), show (⟨#[32]⟩ : ByteArray) = tx [32] from rfl, join_eq hx hl]
    rfl
  | succ d ih =>
    intro j hj
    have hm := hx _ (rd_mem (show j < xs.length by omega))
    have := ih (j + 1) (by omega)
    have e : (xs.take (j + 1)).map (fun x => tx (Lib.itoa x)) = (xs.take j).map (fun x => tx (Lib.itoa x)) ++ [tx (Lib.itoa (rd xs (j : Int)))] := by
      have e9 : xs.take (j + 1) = xs.take j ++ [rd xs (j : Int)] := by
        have h9 := rd_drop (show j < xs.length by omega)
        rw [List.take_add_one, ← List.head?_drop, h9]
        simp
      rw [e9]; simp
    rw [e] at this
    refine Ev.step (fun k => ?_) this
    simp only [impl_listText.l0]
    rw [if_pos (by omega), if_pos (by omega), if_pos (by omega), itoa_eq hm.1 hm.2]
    simp only [Option.bind_some]
    rw [if_pos (by simp; omega), w64 (x := (j : Int) + 1) (by omega) (by omega)]
    rfl
theorem listText_ev {xs : List Int} (hx : Mid xs) (hl : xs.length ≤ 1000000) : Ev (fun k => impl_listText.f k xs) (tx (jn xs)) := by
  have := listText_l xs hx hl xs.length 0 (by omega)
  rw [List.take_zero, List.map_nil] at this
  exact this
/-! ### a number read from its text -/
theorem bt_tx (l : List UInt8) (j : Nat) (h : j < l.length) : bt (tx l) (j : Int) = (l[j].toNat : Int) := by
  unfold bt
  rw [dif_pos (by rw [tx_size]; simpa using h)]
  simp [tx, ByteArray.getElem_eq_getElem_data]
theorem numberOf_l (l : List UInt8) (hl : l.length ≤ 4) (hb : ∀ b ∈ l, 48 ≤ b.toNat ∧ b.toNat ≤ 57) (m : Bool) : ∀ (d j : Nat) (n : Int), j + d = l.length → 0 ≤ n → n < 10 ^ j →
    Ev (fun k => impl_numberOf.l0 k (tx l) m n (l.length : Int) (j : Int)) (if m = true then wrap64 (-(valD (l.drop j) n)) else valD (l.drop j) n) := by
  intro d
  induction d with
  | zero =>
    intro j n hj h0 h1
    rw [List.drop_of_length_le (by omega)]
    refine Ev.step (f := fun _ => some (if m = true then wrap64 (-n) else n)) (fun k => ?_) (Ev.now _)
    simp only [impl_numberOf.l0]
    rw [if_neg (by omega)]
    cases m <;> rfl
  | succ d ih =>
    intro j n hj h0 h1
    have hjl : j < l.length := by omega
    have hp : (10 : Int) ^ j ≤ 1000 := by
      have : j = 0 ∨ j = 1 ∨ j = 2 ∨ j = 3 := by omega
      rcases this with rfl | rfl | rfl | rfl <;> decide
    have hbj := hb l[j] (List.getElem_mem hjl)
    have := ih (j + 1) (n * 10 + ((l[j].toNat : Int) - 48)) (by omega) (by omega) (by rw [Int.pow_succ]; omega)
    rw [List.drop_eq_getElem_cons hjl]
    refine Ev.step (fun k => ?_) this
    simp only [impl_numberOf.l0]
    rw [if_pos (by omega), if_pos (by omega), if_pos (by rw [tx_size]; omega), bt_tx l j hjl, if_neg (by omega), if_neg (by omega), w64 (x := n * 10) (by omega) (by omega), w64 (x := (j : Int) + 1) (by omega) (by omega),
      show ((l[j].toNat : Int) - 48) % 256 = (l[j].toNat : Int) - 48 by omega, w64 (by omega) (by omega)]
    rfl
theorem cutPrefix_not (l : List UInt8) (h : l.head? ≠ some 45) : strings_CutPrefix.f (tx l) (⟨#[45]⟩ : ByteArray) = some (tx l, false) := by
  rw [show (⟨#[45]⟩ : ByteArray) = tx [45] from rfl]
  unfold strings_CutPrefix.f stringslite_CutPrefix.f stringslite_HasPrefix.f
  cases l with
  | nil => simp [tx_size]
  | cons x l =>
    have hx : x ≠ 45 := fun e => h (by simp [e])
    simp only [tx_size, tx_extract, tx_toList, List.length_cons, List.length_nil]
    rw [if_pos (by omega), if_pos (by omega), if_pos (by omega)]
    simp [hx]
theorem cutPrefix_less (l : List UInt8) : strings_CutPrefix.f (tx (45 :: l)) (⟨#[45]⟩ : ByteArray) = some (tx l, true) := by
  rw [show (⟨#[45]⟩ : ByteArray) = tx [45] from rfl]
  unfold strings_CutPrefix.f stringslite_CutPrefix.f stringslite_HasPrefix.f
  simp only [tx_size, tx_extract, tx_toList, List.length_cons, List.length_nil]
  rw [if_pos (by omega), if_pos (by omega), if_pos (by omega)]
  simp only [List.drop_zero, List.take_succ_cons, List.drop_succ_cons]
  simp
  rw [if_pos (by omega)]
  rfl
theorem numberOf_ev {n : Int} (h0 : -10000 < n) (h1 : n < 10000) : Ev (fun k => impl_numberOf.f k (tx (Lib.itoa n))) n := by
  unfold impl_numberOf.f
  by_cases c : n < 0
  · have e : Lib.itoa n = 45 :: Lib.decDigits n.natAbs := by unfold Lib.itoa; rw [if_pos c]
    have h4 := dec_len4 (n := n.natAbs) (by omega)
    have h5 := dec_ne n.natAbs
    rw [e, cutPrefix_less]
    simp only [Option.bind_some, tx_size]
    simp only [if_neg (show ¬ ((Lib.decDigits n.natAbs).length : Int) < 1 by omega), show decide (((Lib.decDigits n.natAbs).length : Int) > 4) = false from decide_eq_false (by omega)]
    have := numberOf_l (Lib.decDigits n.natAbs) h4 (dec_bytes _) true (Lib.decDigits n.natAbs).length 0 0 (by omega) (by omega) (by decide)
    rw [if_pos rfl, List.drop_zero, dec_val, w64 (by omega) (by omega), show -((n.natAbs : Nat) : Int) = n by omega] at this
    refine Ev.step (fun k => ?_) this
    simp only [impl_numberOf.j0, tx_size]
    rfl
  · rw [itoa_of (by omega)]
    have h4 := dec_len4 (n := n.toNat) (by omega)
    have h5 := dec_ne n.toNat
    rw [cutPrefix_not _ (fun e => by
      have := dec_bytes n.toNat 45 (List.mem_of_mem_head? e)
      revert this; decide)]
    simp only [Option.bind_some, tx_size]
    simp only [if_neg (show ¬ ((Lib.decDigits n.toNat).length : Int) < 1 by omega), show decide (((Lib.decDigits n.toNat).length : Int) > 4) = false from decide_eq_false (by omega)]
    have := numberOf_l (Lib.decDigits n.toNat) h4 (dec_bytes _) false (Lib.decDigits n.toNat).length 0 0 (by omega) (by omega) (by decide)
    rw [if_neg (by simp), List.drop_zero, dec_val, Int.toNat_of_nonneg (by omega)] at this
    refine Ev.step (fun k => ?_) this
    simp only [impl_numberOf.j0, tx_size]
    rfl
/-! ### a script -/
theorem runL_one {line : List UInt8} {ls : List ByteArray} {form form' : List Int} {out r : List UInt8} {x : List Int × List UInt8} (hs : line.length ≤ 1000) (hr : r.length ≤ 1000000) (ho : out.length ≤ 1000000000)
    (hc : Ev (fun k => impl_command.f k form ((Lib.split line [32]).map tx)) (form', tx r)) (hn : Ev (fun k => runL k ls form' (out ++ (r ++ [10]))) x) : Ev (fun k => runL k (tx line :: ls) form out) x := by
  simp only [runL]
  rw [show (⟨#[32]⟩ : ByteArray) = tx [32] from rfl, split_tx (by omega)]
  simp only [Option.bind_some]
  refine hc.bind ?_
  rw [tx_size]
  simp only [if_pos (And.intro hr ho)]
  rw [show (⟨#[10]⟩ : ByteArray) = tx [10] from rfl, tx_append, tx_data]
  exact hn
theorem runL_nil (form : List Int) (out : List UInt8) : Ev (fun k => runL k [] form out) (form, out) := by
  simp only [runL]; exact Ev.now _
theorem execute_ev {s out : List UInt8} {ls : List (List UInt8)} {form : List Int} (h5 : s.length ≤ 500) (hs : Lib.split s [10] = ls ++ [[]]) (hr : Ev (fun k => runL k (ls.map tx) [1] []) (form, out)) (hf : form.length ≤ 1000000) (ho : out.length ≤ 1000000000) :
    Ev (fun k => impl_Execute.f k (tx s)) (tx (out ++ ([116, 101, 114, 109, 115, 32] ++ Lib.itoa (form.length : Int) ++ [10]))) := by
  have hl := Lib.itoa_length_le (form.length : Int) (by omega) (by omega)
  unfold impl_Execute.f
  simp only [tx_size, if_neg (show ¬ s.length > 500 by omega), show (⟨#[10]⟩ : ByteArray) = tx [10] from rfl, split_tx (s := s) (c := 10) (by omega), hs]
  simp only [Option.bind_some, List.map_append, List.map_cons, List.map_nil, List.dropLast_concat]
  refine hr.bind ?_
  dsimp only
  rw [itoa_eq (n := (form.length : Int)) (by omega) (by omega)]
  simp only [Option.bind_some]
  rw [if_pos ⟨by rw [tx_size]; omega, ho, hf⟩, show (⟨#[116, 101, 114, 109, 115, 32]⟩ : ByteArray) = tx [116, 101, 114, 109, 115, 32] from rfl, tx_append, tx_append, tx_data]
  exact Ev.now _
/-- The bytes of a number's text are no blank and no end of a line. -/
theorem itoa_no (n : Int) {c : UInt8} (hc : c.toNat < 45) : c ∉ Lib.itoa n := by
  unfold Lib.itoa
  by_cases h : n < 0
  · rw [if_pos h]
    intro m
    rcases List.mem_cons.1 m with e | m
    · subst e; revert hc; decide
    · have := dec_bytes _ _ m; omega
  · rw [if_neg h]
    intro m
    have := dec_bytes _ _ m; omega


/-! ### two numbers and a place are drawn -/
/-! ### the symbol of two numbers -/
def okN (a b : Int) : Prop := a ≠ 0 ∧ b ≠ 0 ∧ a.natAbs ≤ 5000 ∧ b.natAbs ≤ 5000
instance (a b : Int) : Decidable (okN a b) := by unfold okN; infer_instance
theorem isNumber_eq (a : Int) : impl_isNumber.f a = some (decide (a.natAbs ≤ 5000)) := by
  unfold impl_isNumber.f
  by_cases c : a ≥ -5000
  · rw [if_pos c]; congr 1; exact decide_eq_decide.2 (by omega)
  · rw [if_neg c, decide_eq_false (by omega)]
theorem l1Number_eq (a : Int) : spec_l1Number.f a = some (decide (a.natAbs ≤ 5000)) := by
  unfold spec_l1Number.f
  rw [specIn_eq]
  simp only [Option.bind_some]
  congr 1
  by_cases c : a.natAbs ≤ 5000
  · rw [decide_eq_true c, decide_eq_true (show -5000 ≤ a by omega), decide_eq_true (show a ≤ 5000 by omega)]; rfl
  · rw [decide_eq_false c]
    by_cases d : -5000 ≤ a
    · rw [decide_eq_false (show ¬ a ≤ 5000 by omega), Bool.and_false]
    · rw [decide_eq_false d, Bool.false_and]
/-! ### the line 'form' -/
def foW : List UInt8 := [102, 111, 114, 109]
theorem split_spc {a : List UInt8} (ha : (32 : UInt8) ∉ a) (xs : List Int) : Lib.split (a ++ spc xs) [32] = a :: xs.map Lib.itoa := by
  induction xs generalizing a with
  | nil => rw [show a ++ spc [] = a by simp [spc], split_not ha]; rfl
  | cons x xs ih =>
    have e : a ++ spc (x :: xs) = a ++ 32 :: (Lib.itoa x ++ spc xs) := by simp [spc]
    rw [e, split_mid _ ha, ih (itoa_no x (by decide))]
    rfl
theorem spc_no {c : UInt8} (hc : c.toNat < 45) (h32 : c ≠ 32) (xs : List Int) : c ∉ spc xs := by
  induction xs with
  | nil => simp [spc]
  | cons x xs ih =>
    have e : spc (x :: xs) = 32 :: (Lib.itoa x ++ spc xs) := by simp [spc]
    rw [e]
    intro m
    rcases List.mem_cons.1 m with m | m
    · exact h32 m
    · rcases List.mem_append.1 m with m | m
      · exact itoa_no x hc m
      · exact ih m
theorem numsOf_ev (xs : List Int) (h : ∀ x ∈ xs, x.natAbs < 10000) : Ev (fun k => numsOf k (xs.map fun x => tx (Lib.itoa x))) xs := by
  induction xs with
  | nil => exact Ev.now _
  | cons x xs ih =>
    have hx := h x (by simp)
    have := ih (fun y hy => h y (by simp [hy]))
    simp only [List.map_cons, numsOf]
    exact (numberOf_ev (n := x) (by omega) (by omega)).bind (this.bind (Ev.now _))
theorem lineForm_ev {xs : List Int} (h : ∀ x ∈ xs, x.natAbs < 10000) (h1 : 1 ≤ xs.length) (hl : xs.length ≤ 100) (form : List Int) {b : Bool} (hv : Ev (fun k => impl_FormValid.f k xs) b) :
    Ev (fun k => lineForm k form (xs.map fun x => tx (Lib.itoa x))) (if b = true then xs else form, if b = true then tx [111, 107] else tx [110, 111]) := by
  unfold lineForm
  simp only [List.length_map, if_pos (show 1 ≤ xs.length ∧ xs.length ≤ 1000000 from ⟨h1, by omega⟩)]
  exact (numsOf_ev xs h).bind (hv.bind (Ev.now _))
theorem formCmd_ev {xs : List Int} (h : ∀ x ∈ xs, x.natAbs < 10000) (h1 : 1 ≤ xs.length) (hl : xs.length ≤ 100) (form : List Int) (hv : Ev (fun k => impl_FormValid.f k xs) true) :
    Ev (fun k => impl_command.f k form ((Lib.split (foW ++ spc xs) [32]).map tx)) (xs, tx [111, 107]) := by
  rw [split_spc (by decide)]
  simp only [List.map_cons, List.map_map, impl_command.f]
  rw [show tx foW = kForm from rfl]
  simp only [if_true]
  exact lineForm_ev h h1 hl form hv
/-! ### a form times a number -/
def timesF (xs : List Int) (n : Int) : List Int := xs.map fun x => (coreF (x * n)).1
theorem mul_bd {a b : Int} {A B : Nat} (ha : a.natAbs ≤ A) (hb : b.natAbs ≤ B) : (a * b).natAbs ≤ A * B := by
  rw [Int.natAbs_mul]; exact Nat.mul_le_mul ha hb
theorem core_bd {n : Int} (hn : n ≠ 0) (hN : n.natAbs < 2 ^ 63) : (coreF n).1 ≠ 0 ∧ (coreF n).1.natAbs ≤ n.natAbs := by
  have h := coreF_is hn hN
  obtain ⟨h1, h2, _⟩ := h
  have hr : (coreF n).2 * (coreF n).2 ≠ 0 := Int.mul_ne_zero (by omega) (by omega)
  refine ⟨fun e => hn (by rw [h1, e, Int.zero_mul]), ?_⟩
  have := mul_natAbs_le (a := (coreF n).1) hr
  rw [← h1] at this
  exact this
theorem timesF_bd {xs : List Int} {n : Int} (hn : n ≠ 0) (hN : n.natAbs ≤ 5000) (hx : ∀ x ∈ xs, x ≠ 0 ∧ x.natAbs ≤ 31) : ∀ y ∈ timesF xs n, y.natAbs ≤ 1000000 := by
  intro y hy
  obtain ⟨x, hxm, rfl⟩ := List.mem_map.1 hy
  have hm := hx x hxm
  have hb := mul_bd hm.2 hN
  have := core_bd (n := x * n) (Int.mul_ne_zero hm.1 hn) (by omega)
  omega
theorem specTimes_l (xs : List Int) (n : Int) (hn : n ≠ 0) (hN : n.natAbs ≤ 5000) (hx : ∀ x ∈ xs, x ≠ 0 ∧ x.natAbs ≤ 31) (hl : xs.length ≤ 100) : ∀ (d j : Nat) (out : List Int), j + d = xs.length → out.length = j →
    Ev (fun k => spec_l4Times.l0 k xs n out (j : Int)) (out ++ timesF (xs.drop j) n) := by
  intro d
  induction d with
  | zero =>
    intro j out hj _
    rw [List.drop_of_length_le (by omega)]
    refine Ev.step (f := fun _ => some out) (fun k => ?_) (by simpa [timesF] using Ev.now out)
    simp only [spec_l4Times.l0]
    rw [if_neg (by omega)]
  | succ d ih =>
    intro j out hj ho
    have hm := hx _ (rd_mem (show j < xs.length by omega))
    have hb := mul_bd hm.2 hN
    have hz : rd xs (j : Int) * n ≠ 0 := Int.mul_ne_zero hm.1 hn
    have := ih (j + 1) (out ++ [(coreF (rd xs (j : Int) * n)).1]) (by omega) (by simp; omega)
    rw [rd_drop (show j < xs.length by omega)]
    refine Ev.step (f := fun k => (spec_l1Core.f k (rd xs (j : Int) * n)).bind fun bt231 => spec_l4Times.l0 k xs n (out ++ [bt231.1]) ((j + 1 : Nat) : Int)) (fun k => ?_) ((specCore_ev hz (by omega)).bind ?_)
    · simp only [spec_l4Times.l0]
      rw [if_pos (by omega), if_pos (by omega), w64 (x := n * rd xs (j : Int)) (by rw [Int.mul_comm]; omega) (by rw [Int.mul_comm]; omega), Int.mul_comm n, w64 (x := (j : Int) + 1) (by omega) (by omega)]
      simp only [if_pos (show out.length < 17592186044416 by omega)]
      rfl
    · simpa [timesF] using this
theorem implTimes_l (xs : List Int) (n : Int) (hn : n ≠ 0) (hN : n.natAbs ≤ 5000) (hx : ∀ x ∈ xs, x ≠ 0 ∧ x.natAbs ≤ 31) (hl : xs.length ≤ 100) : ∀ (d j : Nat), j + d = xs.length →
    Ev (fun k => impl_FormTimes.l0 k n (timesF (xs.take j) n) xs (xs.length : Int) (j : Int)) (if formOk (timesF xs n) = true then (timesF xs n, true) else ([], false)) := by
  intro d
  induction d with
  | zero =>
    intro j hj
    rw [List.take_of_length_le (by omega)]
    have hv := implFormValid_ev (timesF_bd hn hN hx) (by simpa [timesF] using hl)
    refine Ev.step (f := fun k => (impl_FormValid.f k (timesF xs n)).bind fun t135 => (if t135 = true then (some (timesF xs n, true)) else (some (([] : List Int), false)))) (fun k => ?_) (hv.bind ?_)
    · simp only [impl_FormTimes.l0]
      rw [if_neg (by omega)]
    · by_cases c : formOk (timesF xs n) = true
      · simp only [if_pos c]; exact Ev.now _
      · simp only [if_neg c]; exact Ev.now _
  | succ d ih =>
    intro j hj
    have hm := hx _ (rd_mem (show j < xs.length by omega))
    have hb := mul_bd hm.2 hN
    have hz : rd xs (j : Int) * n ≠ 0 := Int.mul_ne_zero hm.1 hn
    have := ih (j + 1) (by omega)
    have e9 : xs.take (j + 1) = xs.take j ++ [rd xs (j : Int)] := by
      have h9 := rd_drop (show j < xs.length by omega)
      rw [List.take_add_one, ← List.head?_drop, h9]
      simp
    have e10 : timesF (xs.take (j + 1)) n = timesF (xs.take j) n ++ [(coreF (rd xs (j : Int) * n)).1] := by rw [e9]; simp [timesF]
    rw [e10] at this
    have hlen : (timesF (xs.take j) n).length < 17592186044416 := by simp [timesF]; omega
    refine Ev.step (f := fun k => (impl_coreOf.f k (rd xs (j : Int) * n)).bind fun bt130 => impl_FormTimes.l0 k n (timesF (xs.take j) n ++ [bt130.1]) xs (xs.length : Int) ((j + 1 : Nat) : Int)) (fun k => ?_) ((implCore_ev hz (by omega)).bind ?_)
    · simp only [impl_FormTimes.l0]
      rw [if_pos (by omega), if_pos (by omega), if_pos (by omega), w64 (x := rd xs (j : Int) * n) (by omega) (by omega), w64 (x := (j : Int) + 1) (by omega) (by omega)]
      simp only [if_pos hlen]
      rfl
    · exact this
def resT (xs : List Int) (n : Int) : List Int × Bool := if formOk xs = true ∧ n ≠ 0 ∧ n.natAbs ≤ 5000 ∧ formOk (timesF xs n) = true then (timesF xs n, true) else ([], false)
theorem implFT_ev {xs : List Int} (n : Int) (hx : ∀ x ∈ xs, x.natAbs ≤ 31) (hl : xs.length ≤ 100) : Ev (fun k => impl_FormTimes.f k xs n) (resT xs n) := by
  have hno : ∀ (h : ¬ (formOk xs = true ∧ n ≠ 0 ∧ n.natAbs ≤ 5000)), Ev (fun k => impl_FormTimes.j0 k xs n true) (resT xs n) := by
    intro h
    have e : resT xs n = ([], false) := by unfold resT; rw [if_neg (fun g => h ⟨g.1, g.2.1, g.2.2.1⟩)]
    rw [e]
    exact Ev.step (f := fun _ => some ([], false)) (fun k => by simp [impl_FormTimes.j0]) (Ev.now _)
  unfold impl_FormTimes.f
  refine (implFormValid_ev (xs := xs) (fun x h => by have := hx x h; omega) hl).bind ?_
  by_cases c1 : formOk xs = true
  · simp only [c1, if_true]
    by_cases c2 : n = 0
    · simp only [if_pos c2]
      exact hno (fun h => h.2.1 c2)
    · simp only [if_neg c2, isNumber_eq, Option.bind_some]
      by_cases c3 : n.natAbs ≤ 5000
      · have hz := (formOk_iff.1 c1).1
        have hx2 : ∀ x ∈ xs, x ≠ 0 ∧ x.natAbs ≤ 31 := fun x h => ⟨(hz x h).1, hx x h⟩
        have := implTimes_l xs n c2 c3 hx2 hl xs.length 0 (by omega)
        have e : resT xs n = if formOk (timesF xs n) = true then (timesF xs n, true) else ([], false) := by
          unfold resT
          by_cases c4 : formOk (timesF xs n) = true
          · rw [if_pos ⟨c1, c2, c3, c4⟩, if_pos c4]
          · rw [if_neg (fun g => c4 g.2.2.2), if_neg c4]
        rw [e]
        rw [List.take_zero] at this
        refine Ev.step (fun k => ?_) this
        simp only [impl_FormTimes.j0, decide_eq_true c3, Bool.not_true, Bool.false_eq_true, if_false]
        rfl
      · simp only [decide_eq_false c3, Bool.not_false]
        exact hno (fun h => c3 h.2.2)
  · simp only [c1, Bool.false_eq_true, if_false]
    exact hno (fun h => c1 h.1)
theorem specFT_ev {xs : List Int} (n : Int) (hx : ∀ x ∈ xs, x.natAbs ≤ 31) (hl : xs.length ≤ 100) : Ev (fun k => spec_FormTimes.f k xs n) (resT xs n) := by
  have hno : ∀ (h : ¬ (formOk xs = true ∧ n ≠ 0 ∧ n.natAbs ≤ 5000)), Ev (fun k => spec_FormTimes.j0 k xs n true) (resT xs n) := by
    intro h
    have e : resT xs n = ([], false) := by unfold resT; rw [if_neg (fun g => h ⟨g.1, g.2.1, g.2.2.1⟩)]
    rw [e]
    exact Ev.step (f := fun _ => some ([], false)) (fun k => by simp [spec_FormTimes.j0]) (Ev.now _)
  unfold spec_FormTimes.f
  refine (specFormValid_ev (xs := xs) hl).bind ?_
  by_cases c1 : formOk xs = true
  · simp only [c1, if_true, l1Number_eq, Option.bind_some]
    by_cases c3 : n.natAbs ≤ 5000
    · simp only [decide_eq_true c3, if_true]
      by_cases c2 : n = 0
      · rw [show (n == 0) = true by simpa using c2]
        exact hno (fun h => h.2.1 c2)
      · rw [show (n == 0) = false by simpa using c2]
        have hz := (formOk_iff.1 c1).1
        have hx2 : ∀ x ∈ xs, x ≠ 0 ∧ x.natAbs ≤ 31 := fun x h => ⟨(hz x h).1, hx x h⟩
        have ht := specTimes_l xs n c2 c3 hx2 hl xs.length 0 [] (by omega) rfl
        rw [List.drop_zero, List.nil_append] at ht
        have hv := specFormValid_ev (xs := timesF xs n) (by simpa [timesF] using hl)
        refine Ev.step (f := fun k => (spec_l4Times.f k xs n).bind fun t241 => ((spec_FormValid.f k t241).bind fun t244 => (if t244 = true then (some (t241, true)) else (some ((([] : List Int)), false))))) (fun k => by simp [spec_FormTimes.j0]) ?_
        unfold spec_l4Times.f
        refine ht.bind (hv.bind ?_)
        have e : resT xs n = if formOk (timesF xs n) = true then (timesF xs n, true) else ([], false) := by
          unfold resT
          by_cases c4 : formOk (timesF xs n) = true
          · rw [if_pos ⟨c1, c2, c3, c4⟩, if_pos c4]
          · rw [if_neg (fun g => c4 g.2.2.2), if_neg c4]
        rw [e]
        by_cases c4 : formOk (timesF xs n) = true
        · simp only [if_pos c4]; exact Ev.now _
        · simp only [if_neg c4]; exact Ev.now _
    · simp only [decide_eq_false c3, Bool.false_eq_true, if_false]
      exact hno (fun h => c3 h.2.2)
  · simp only [c1, Bool.false_eq_true, if_false]
    exact hno (fun h => c1 h.1)


/-! ### the lines 'times', 'show', 'disc' -/
def tiW : List UInt8 := [116, 105, 109, 101, 115]
def shW : List UInt8 := [115, 104, 111, 119]
def diW : List UInt8 := [100, 105, 115, 99]
theorem timesCmd_ev {xs ys : List Int} {n : Int} (h0 : -10000 < n) (h1 : n < 10000) (hf : Ev (fun k => impl_FormTimes.f k xs n) (ys, true)) :
    Ev (fun k => impl_command.f k xs ((Lib.split (tiW ++ 32 :: Lib.itoa n) [32]).map tx)) (ys, tx [111, 107]) := by
  rw [split_mid (a := tiW) _ (by decide), split_not (itoa_no n (by decide))]
  simp only [List.map_cons, List.map_nil, impl_command.f]
  simp only [if_neg (show ¬ tx tiW = kForm by intro e; exact absurd (tx_inj (b := foW) e) (by decide)), if_pos (show tx tiW = kTimes from rfl)]
  unfold lineTimes
  exact (numberOf_ev h0 h1).bind (hf.bind (Ev.now _))
theorem showCmd_ev {xs : List Int} (hm : Mid xs) (hl : xs.length ≤ 1000000) : Ev (fun k => impl_command.f k xs ((Lib.split shW [32]).map tx)) (xs, tx (jn xs)) := by
  rw [split_not (a := shW) (by decide)]
  simp only [List.map_cons, List.map_nil, impl_command.f]
  simp only [if_neg (show ¬ tx shW = kForm by intro e; exact absurd (tx_inj (b := foW) e) (by decide)), if_pos (show tx shW = kShow from rfl)]
  exact (listText_ev hm hl).bind (Ev.now _)
theorem discCmd_ev {xs : List Int} {d : Int} (h0 : -4611686018427387904 ≤ d) (h1 : d ≤ 4611686018427387904) (hd : Ev (fun k => impl_FormDisc.f k xs) d) : Ev (fun k => impl_command.f k xs ((Lib.split diW [32]).map tx)) (xs, tx (Lib.itoa d)) := by
  rw [split_not (a := diW) (by decide)]
  simp only [List.map_cons, List.map_nil, impl_command.f]
  simp only [if_neg (show ¬ tx diW = kForm by intro e; exact absurd (tx_inj (b := foW) e) (by decide)), if_neg (show ¬ tx diW = kShow by intro e; exact absurd (tx_inj (b := shW) e) (by decide)), if_pos (show tx diW = kDisc from rfl)]
  refine hd.bind ?_
  rw [itoa_eq h0 h1]
  exact Ev.now _
theorem script_ev {xs ys : List Int} {n d : Int} (h : ∀ x ∈ xs, x.natAbs ≤ 31) (h1 : 1 ≤ xs.length) (hl : xs.length ≤ 5) (hn0 : -10000 < n) (hn1 : n < 10000) (hm2 : Mid ys) (hl2 : ys.length ≤ 5) (d0 : -4611686018427387904 ≤ d) (d1 : d ≤ 4611686018427387904)
    (hf : Ev (fun k => impl_FormValid.f k xs) true) (ht : Ev (fun k => impl_FormTimes.f k xs n) (ys, true)) (hd : Ev (fun k => impl_FormDisc.f k ys) d) :
    Ev (fun k => impl_Execute.f k (tx ((foW ++ spc xs) ++ 10 :: ((tiW ++ 32 :: Lib.itoa n) ++ 10 :: (shW ++ 10 :: (diW ++ [10])))))) (tx (([111, 107, 10, 111, 107, 10] ++ (jn ys ++ [10])) ++ (Lib.itoa d ++ [10]) ++ ([116, 101, 114, 109, 115, 32] ++ Lib.itoa (ys.length : Int) ++ [10]))) := by
  have hm : Mid xs := fun x hx => by have := h x hx; omega
  have hs := spc_len hm
  have hq := Lib.itoa_length_le n (by omega) (by omega)
  have hq2 := Lib.itoa_length_le d (by omega) (by omega)
  have hj := jn_len hm2
  have e4 : foW.length = 4 := rfl
  have e5 : tiW.length = 5 := rfl
  have e6 : shW.length = 4 := rfl
  have e7 : diW.length = 4 := rfl
  have hn1' : (10 : UInt8) ∉ foW ++ spc xs := by
    intro m
    rcases List.mem_append.1 m with m | m
    · revert m; decide
    · exact spc_no (by decide) (by decide) xs m
  have hn2 : (10 : UInt8) ∉ tiW ++ 32 :: Lib.itoa n := by
    simp only [List.mem_append, List.mem_cons, not_or]
    exact ⟨by decide, by decide, itoa_no n (by decide)⟩
  have hsplit : Lib.split ((foW ++ spc xs) ++ 10 :: ((tiW ++ 32 :: Lib.itoa n) ++ 10 :: (shW ++ 10 :: (diW ++ [10])))) [10] = [foW ++ spc xs, tiW ++ 32 :: Lib.itoa n, shW, diW] ++ [[]] := by
    rw [split_mid _ hn1', split_mid _ hn2, split_mid _ (by decide), show diW ++ [10] = diW ++ 10 :: [] from rfl, split_mid _ (by decide), split_not (a := []) (by simp)]
    rfl
  refine execute_ev (form := ys) (by simp; omega) hsplit ?_ (by omega) (by simp; omega)
  simp only [List.map_cons, List.map_nil]
  refine runL_one (by simp; omega) (r := [111, 107]) (by simp) (by simp) (formCmd_ev (fun x hx => by have := h x hx; omega) h1 (by omega) [1] hf) ?_
  refine runL_one (by simp; omega) (r := [111, 107]) (by simp) (by simp) (timesCmd_ev hn0 hn1 ht) ?_
  refine runL_one (by omega) (r := jn ys) (by omega) (by simp) (showCmd_ev hm2 (by omega)) ?_
  refine runL_one (by omega) (r := Lib.itoa d) (by omega) (by simp; omega) (discCmd_ev d0 d1 hd) ?_
  have e : ∀ {a b : List UInt8}, a = b → Ev (fun k => runL k [] ys a) (ys, b) := fun h => h ▸ runL_nil ys _
  exact e (by simp)
/-! ### a form and a number are drawn -/
theorem times_draw {l : List Int} (h : ∀ x ∈ l, (Lit.int .u8 x).wf = true) : ∃ xs n, GoodF 4 xs ∧ n.natAbs ≤ 5001 ∧ Ev (fun k => spec_DrawFormTimes.f k l) (xs, n) := by
  obtain ⟨b, hb, ho⟩ := open_ev h
  obtain ⟨xs, q1, hg, h1, h2, e1⟩ := form_draw hb (q := 0) (by omega) (by omega) 4 (by omega) (by omega)
  obtain ⟨v, h3, g3, e2⟩ := pick_ev hb (p := q1) (by omega) (by omega) (n := 16) (by omega)
  by_cases c : v = 0
  · obtain ⟨v2, h4, g4, e3⟩ := pick_ev hb (p := q1 + 1) (by omega) (by omega) (n := 2) (by omega)
    have hm := rd_mem' (xs := [0, 5001]) h4 (by simp; omega)
    refine ⟨xs, rd [0, 5001] v2, hg, by simp only [List.mem_cons, List.not_mem_nil, or_false] at hm; omega, ?_⟩
    unfold spec_DrawFormTimes.f
    rw [ho]
    simp only [Option.bind_some]
    refine e1.bind (e2.bind ?_)
    simp only [if_pos c]
    refine e3.bind ?_
    simp only [if_pos h4, if_pos (show v2 < ((List.length [(0 : Int), 5001] : Nat) : Int) from by simp; omega)]
    exact Ev.now _
  · obtain ⟨v2, h4, g4, e3⟩ := pick_ev hb (p := q1 + 1) (by omega) (by omega) (n := 8) (by omega)
    have hm := rd_mem' (xs := [1, (-1), 2, 3, (-2), 4, 5, (-3)]) h4 (by simp; omega)
    refine ⟨xs, rd [1, (-1), 2, 3, (-2), 4, 5, (-3)] v2, hg, by simp only [List.mem_cons, List.not_mem_nil, or_false] at hm; omega, ?_⟩
    unfold spec_DrawFormTimes.f
    rw [ho]
    simp only [Option.bind_some]
    refine e1.bind (e2.bind ?_)
    simp only [if_neg c]
    refine e3.bind ?_
    simp only [if_pos h4, if_pos (show v2 < ((List.length [(1 : Int), (-1), 2, 3, (-2), 4, 5, (-3)] : Nat) : Int) from by simp; omega)]
    exact Ev.now _
theorem holds : laws_FnExecuteTimes.Pure := by
  intro l0 _ _ hw
  refine Ev.rounds ?_
  unfold laws_FnExecuteTimes.f
  by_cases big : (l0.length : Int) > 1048576
  · simp only [if_pos big]; exact Ev.now _
  obtain ⟨xs, n, hg, hn, hd⟩ := times_draw hw
  have hl := hg.1
  simp only [if_neg big]
  refine hd.bind ?_
  have hi := implFT_ev (xs := xs) n hg.2.1 (by omega)
  refine hi.bind ((specFT_ev (xs := xs) n hg.2.1 (by omega)).bind ?_)
  by_cases c : formOk xs = true ∧ n ≠ 0 ∧ n.natAbs ≤ 5000 ∧ formOk (timesF xs n) = true
  · have e : resT xs n = (timesF xs n, true) := by unfold resT; rw [if_pos c]
    rw [e] at hi ⊢
    obtain ⟨c1, c2, c3, c4⟩ := c
    generalize hY : timesF xs n = ys at hi c4 ⊢
    have hk := formOk_iff.1 c1
    have hk2 := formOk_iff.1 c4
    simp only [bne_self_eq_false, Bool.false_eq_true, if_false, Bool.not_true]
    have gs := sameInts_ev (xs := ys) (ys := ys) (by omega)
    simp only [decide_true] at gs
    refine gs.bind ?_
    simp only [if_true]
    have hf := implFormValid_ev (xs := xs) (fun x h => by have := hg.2.1 x h; omega) (by omega)
    rw [c1] at hf
    have hD := implDisc_ev (xs := ys) (fun x h => by have := (hk2.1 x h).2; omega) (by omega)
    rw [if_pos c4] at hD
    have hb := prod_bd4 hk2.1 (by omega)
    have hdb := core_bd hb.1 (by omega)
    have hm : Mid xs := fun x hx => by have := hg.2.1 x hx; omega
    have hm2 : Mid ys := fun x hx => by have := (hk2.1 x hx).2; omega
    have hdd : (disc ys).natAbs ≤ 24300000 := by unfold disc; omega
    have he := script_ev (d := disc ys) hg.2.1 (by omega) (by omega) (by omega) (by omega) hm2 (by omega) (by omega) (by omega) hf hi hD
    have hs := spc_len hm
    have hj := jn_len hm2
    have hq := Lib.itoa_length_le n (by omega) (by omega)
    have hq2 := Lib.itoa_length_le (disc ys) (by omega) (by omega)
    have e4 : foW.length = 4 := rfl
    have h1 := Lib.itoa_length_le (ys.length : Int) (by omega) (by omega)
    apply Ev.step
    · intro k
      simp only [laws_FnExecuteTimes.j0, Bool.false_eq_true, if_false]
      exact rfl
    refine (spaced_ev hm (by omega)).bind ?_
    rw [show (⟨#[102, 111, 114, 109]⟩ : ByteArray) = tx foW from rfl, show (⟨#[10, 116, 105, 109, 101, 115, 32]⟩ : ByteArray) = tx [10, 116, 105, 109, 101, 115, 32] from rfl, show (⟨#[10, 115, 104, 111, 119, 10, 100, 105, 115, 99, 10]⟩ : ByteArray) = tx [10, 115, 104, 111, 119, 10, 100, 105, 115, 99, 10] from rfl, show (⟨#[10]⟩ : ByteArray) = tx [10] from rfl, show (⟨#[111, 107, 10, 111, 107, 10]⟩ : ByteArray) = tx [111, 107, 10, 111, 107, 10] from rfl]
    simp only [tx_append, tx_size, List.length_append, List.length_cons, List.length_nil]
    simp only [if_pos (show 4 + (spc xs).length ≤ 9223372036854775807 by omega), if_pos (show foW.length + (spc xs).length + 7 ≤ 9223372036854775807 by omega)]
    refine (digits_ev (n := n) (by omega) (by omega)).bind ?_
    simp only [tx_append, tx_size, List.length_append, List.length_cons, List.length_nil]
    simp only [if_pos (show foW.length + (spc xs).length + (0 + 1 + 1 + 1 + 1 + 1 + 1 + 1) + (Lib.itoa n).length ≤ 9223372036854775807 by omega), if_pos (show foW.length + (spc xs).length + (0 + 1 + 1 + 1 + 1 + 1 + 1 + 1) + (Lib.itoa n).length + 11 ≤ 9223372036854775807 by omega)]
    rw [show foW ++ spc xs ++ 10 :: (tiW ++ 32 :: Lib.itoa n ++ 10 :: (shW ++ 10 :: (diW ++ [10]))) = foW ++ spc xs ++ [10, 116, 105, 109, 101, 115, 32] ++ Lib.itoa n ++ [10, 115, 104, 111, 119, 10, 100, 105, 115, 99, 10] by simp [tiW, shW, diW]] at he
    refine he.bind ((spaced_ev hm2 (by omega)).bind ?_)
    rw [tail_eq, jn_spc]
    simp only [Option.bind_some, tx_append, tx_size, List.length_append, List.length_cons, List.length_nil]
    simp only [if_pos (show 6 + (jn ys).length ≤ 9223372036854775807 by omega), if_pos (show 0 + 1 + 1 + 1 + 1 + 1 + 1 + (jn ys).length + 1 ≤ 9223372036854775807 by omega)]
    refine hD.bind ((digits_ev (n := disc ys) (by omega) (by omega)).bind ?_)
    simp only [tx_append, tx_size, List.length_append, List.length_cons, List.length_nil]
    simp only [if_pos (show 0 + 1 + 1 + 1 + 1 + 1 + 1 + (jn ys).length + (0 + 1) + (Lib.itoa (disc ys)).length ≤ 9223372036854775807 by omega), if_pos (show 0 + 1 + 1 + 1 + 1 + 1 + 1 + (jn ys).length + (0 + 1) + (Lib.itoa (disc ys)).length + 1 ≤ 9223372036854775807 by omega)]
    refine (endLine_ev (n := (ys.length : Int)) (by omega) (by omega)).bind ?_
    rw [tx_append, tx_size, tx_toList, tx_toList]
    rw [if_pos (by simp only [List.length_append, List.length_cons, List.length_nil]; omega)]
    rw [show ([111, 107, 10, 111, 107, 10] ++ (jn ys ++ [10]) ++ (Lib.itoa (disc ys) ++ [10]) ++ ([116, 101, 114, 109, 115, 32] ++ Lib.itoa (ys.length : Int) ++ [10])) = ([111, 107, 10, 111, 107, 10] ++ jn ys ++ [10] ++ Lib.itoa (disc ys) ++ [10] ++ ([116, 101, 114, 109, 115, 32] ++ Lib.itoa (ys.length : Int) ++ [10])) by simp, beq_self_eq_true]
    exact Ev.now _
  · have e : resT xs n = ([], false) := by unfold resT; rw [if_neg c]
    rw [e]
    simp only [bne_self_eq_false, Bool.false_eq_true, if_false, Bool.not_false]
    have gs := sameInts_ev (xs := []) (ys := []) (by simp)
    simp only [decide_true] at gs
    refine gs.bind ?_
    simp only [if_true]
    refine Ev.step (f := fun k => (laws_sameInts.f k [] []).bind fun t => some t) (fun k => by simp [laws_FnExecuteTimes.j0]) (gs.bind (Ev.now _))

end Go.Proofs.YtacfcoilmdhgnaaGreatDoor.QFnExecuteTimes
