/- A script that asks for a value of a form. -/
import Derived.Lib.ItoaLen
import Derived.Lib.SplitLaws
import Derived.Test.YtacfcoilmdhgnaaGreatDoorTPFnExecuteValuex18
import Derived.Test.YtacfcoilmdhgnaaGreatDoorTPlain
set_option linter.unusedVariables false
set_option linter.unusedSimpArgs false
namespace Go.Proofs.YtacfcoilmdhgnaaGreatDoor.QFnExecuteValue
open Go.RowKit Go.Proofs.YtacfcoilmdhgnaaGreatDoor.PFnExecuteValue Go.Proofs.YtacfcoilmdhgnaaGreatDoorW.PrintWords Go.Proofs.YtacfcoilmdhgnaaGreatDoorW.PrintLast Go.Proofs.YtacfcoilmdhgnaaGreatDoorW.PrintMore Locg

/-! ### draws -/
theorem xor_i64_nat (a b : Nat) (ha : a < 9223372036854775808) (hb : b < 9223372036854775808) : Go.bits .xor .i64 (a : Int) (b : Int) = ((a ^^^ b : Nat) : Int) := by
  have hx : a ^^^ b < 2 ^ 63 := Nat.xor_lt_two_pow (by omega) (by omega)
  have h1 : (BitVec.ofInt 64 (a : Int)).toNat = a := by
    rw [BitVec.ofInt_natCast, BitVec.toNat_ofNat]; exact Nat.mod_eq_of_lt (by omega)
  have h2 : (BitVec.ofInt 64 (b : Int)).toNat = b := by
    rw [BitVec.ofInt_natCast, BitVec.toNat_ofNat]; exact Nat.mod_eq_of_lt (by omega)
  show IntKind.i64.wrap ((BitVec.ofInt 64 (a : Int) ^^^ BitVec.ofInt 64 (b : Int)).toNat : Int) = _
  rw [BitVec.toNat_xor, h1, h2]
  have hw : ∀ n : Int, IntKind.i64.wrap n = wrap64 n := fun n => by simp [IntKind.wrap, wrap64, IntKind.bits, IntKind.signed]; omega
  rw [hw]
  exact w64' (by omega) (by omega)
theorem xor_nonneg (a b : Int) (ha : 0 ≤ a) (hA : a < 9223372036854775808) (hb : 0 ≤ b) (hB : b < 9223372036854775808) : 0 ≤ Go.bits .xor .i64 a b := by
  obtain ⟨a, rfl⟩ := Int.eq_ofNat_of_zero_le ha
  obtain ⟨b, rfl⟩ := Int.eq_ofNat_of_zero_le hb
  rw [xor_i64_nat a b (by omega) (by omega)]
  exact Int.natCast_nonneg _
theorem tmod_range {x n : Int} (hx : 0 ≤ x) (hn : 1 ≤ n) : 0 ≤ x.tmod n ∧ x.tmod n < n := by
  rw [Int.tmod_eq_emod_of_nonneg hx]; exact ⟨Int.emod_nonneg _ (by omega), Int.emod_lt_of_pos _ (by omega)⟩
def BytesB (b : List Int) : Prop := (∀ x ∈ b, 0 ≤ x ∧ x ≤ 255) ∧ b.length ≤ 2000
theorem BytesB.rd_ {b : List Int} (h : BytesB b) (i : Int) : 0 ≤ rd b i ∧ rd b i ≤ 255 := by
  unfold rd
  by_cases c : i.toNat < b.length
  · have := h.1 (b[i.toNat]) (by simp)
    simpa [List.getElem?_eq_getElem c] using this
  · simp [List.getElem?_eq_none (show b.length ≤ i.toNat by omega)]
/-- What the reader mixes at a place. -/
def pv (b : List Int) (p : Int) : Int := if b.length = 0 then 0 else if p < (b.length : Int) then rd b p else
  Go.bits .xor .i64 (rd b (p.tmod b.length) * 131 + rd b ((p * 7 + 3).tmod b.length) * 1117 + p * 29 + p.tdiv b.length * 53) ((rd b (p.tmod b.length) * 131 + rd b ((p * 7 + 3).tmod b.length) * 1117 + p * 29 + p.tdiv b.length * 53).tdiv 64)
theorem pick_at {b : List Int} (hb : BytesB b) {p : Int} (hp : 0 ≤ p) (hP : p ≤ 1000000000000000) {n : Int} (hn : 1 ≤ n) :
    0 ≤ pv b p ∧ Ev (fun k => spec_l6Rd_pick.f k b p n) ((pv b p).tmod n, p + 1) := by
  have hl := hb.2
  unfold pv
  rcases Nat.eq_zero_or_pos b.length with h0 | h0
  · rw [if_pos h0, Int.zero_tmod]
    refine ⟨by omega, Ev.step (f := fun _ => some (0, p + 1)) (fun k => ?_) (Ev.now _)⟩
    simp only [spec_l6Rd_pick.f, spec_l6Rd_pick.j0]
    rw [if_neg (by omega), w64 (x := p + 1) (by omega) (by omega), if_pos (by simp [h0])]
  · have e : ∀ k, spec_l6Rd_pick.f (k + 1) b p n = spec_l6Rd_pick.j0 (k + 1) n false b (p + 1) := by
      intro k
      simp only [spec_l6Rd_pick.f]
      rw [if_neg (by omega), w64 (x := p + 1) (by omega) (by omega)]
      congr 1
      simp; intro h; rw [h] at h0; simp at h0
    have hq : wrap64 (p + 1 - 1) = p := by rw [w64 (by omega) (by omega)]; omega
    rw [if_neg (by omega)]
    by_cases c : p < b.length
    · rw [if_pos c]
      refine ⟨(hb.rd_ p).1, Ev.step (f := fun _ => some ((rd b p).tmod n, p + 1)) (fun k => ?_) (Ev.now _)⟩
      have := hb.rd_ p
      rw [e]
      simp only [spec_l6Rd_pick.j0, hq]
      rw [if_neg (by simp), if_pos c, if_pos hp, if_neg (by omega), w64 (x := rd b p) (by omega) (by omega)]
    · rw [if_neg c]
      have hm := tmod_range hp (n := b.length) (by omega)
      have e7 : wrap64 (p * 7) = p * 7 := w64 (by omega) (by omega)
      have e73 : wrap64 (p * 7 + 3) = p * 7 + 3 := w64 (by omega) (by omega)
      have e29 : wrap64 (p * 29) = p * 29 := w64 (by omega) (by omega)
      have hm2 := tmod_range (x := p * 7 + 3) (by omega) (n := b.length) (by omega)
      have hA := hb.rd_ (p.tmod b.length)
      have hB := hb.rd_ ((p * 7 + 3).tmod b.length)
      have hd : 0 ≤ p.tdiv b.length ∧ p.tdiv b.length ≤ p := by
        rw [Int.tdiv_eq_ediv_of_nonneg hp]; exact ⟨Int.ediv_nonneg hp (by omega), Int.ediv_le_self _ hp⟩
      generalize hAe : rd b (p.tmod b.length) = A at hA
      generalize hBe : rd b ((p * 7 + 3).tmod b.length) = B at hB
      generalize hDe : p.tdiv b.length = D at hd
      have hx64 : 0 ≤ (A * 131 + B * 1117 + p * 29 + D * 53).tdiv 64 ∧ (A * 131 + B * 1117 + p * 29 + D * 53).tdiv 64 ≤ A * 131 + B * 1117 + p * 29 + D * 53 := by
        rw [Int.tdiv_eq_ediv_of_nonneg (by omega)]; omega
      have hx := xor_nonneg (A * 131 + B * 1117 + p * 29 + D * 53) ((A * 131 + B * 1117 + p * 29 + D * 53).tdiv 64) (by omega) (by omega) (by omega) (by omega)
      refine ⟨hx, Ev.step (f := fun _ => some (_, p + 1)) (fun k => ?_) (Ev.now _)⟩
      rw [e]
      simp only [spec_l6Rd_pick.j0, hq, e7, e73, hAe, hBe, hDe, e29]
      rw [if_neg (by simp), if_neg c, if_neg (by omega), if_pos hm.1, if_pos hm.2, if_pos hm2.1, if_pos hm2.2, if_neg (by omega)]
      rw [w64 (x := A) (by omega) (by omega), w64 (x := B) (by omega) (by omega), w64 (x := D) (by omega) (by omega), w64 (x := A * 131) (by omega) (by omega), w64 (x := B * 1117) (by omega) (by omega),
        w64 (x := A * 131 + B * 1117) (by omega) (by omega), w64 (x := A * 131 + B * 1117 + p * 29) (by omega) (by omega), w64 (x := D * 53) (by omega) (by omega),
        w64 (x := A * 131 + B * 1117 + p * 29 + D * 53) (by omega) (by omega), w64 (x := (A * 131 + B * 1117 + p * 29 + D * 53).tdiv 64) (by omega) (by omega)]
theorem pick_ev {b : List Int} (hb : BytesB b) {p : Int} (hp : 0 ≤ p) (hP : p ≤ 1000000000000000) {n : Int} (hn : 1 ≤ n) :
    ∃ v, 0 ≤ v ∧ v < n ∧ Ev (fun k => spec_l6Rd_pick.f k b p n) (v, p + 1) := by
  obtain ⟨h, e⟩ := pick_at hb hp hP hn
  exact ⟨_, (tmod_range h hn).1, (tmod_range h hn).2, e⟩
theorem open_ev {l : List Int} (h : ∀ x ∈ l, (Lit.int .u8 x).wf = true) : ∃ b, BytesB b ∧ spec_l6Open.f l = some (b, 0) := by
  have h' : ∀ x ∈ l, 0 ≤ x ∧ x ≤ 255 := fun x hx => by
    have := h x hx
    simp only [Lit.wf, Bool.and_eq_true, decide_eq_true_eq] at this
    have e1 : IntKind.u8.min = 0 := by decide
    have e2 : IntKind.u8.max = 255 := by decide
    omega
  unfold spec_l6Open.f
  by_cases c : (l.length : Int) > 2000
  · refine ⟨l.take 2000, ⟨fun x hx => h' x (List.mem_of_mem_take hx), by simp; omega⟩, ?_⟩
    rw [if_pos c, if_pos (by omega)]
  · exact ⟨l, ⟨h', by omega⟩, by rw [if_neg c]⟩


/-! ### split -/
theorem split_l {p : Int} (hp : 2 ≤ p) : ∀ (d : Nat) (n j : Int), n ≠ 0 → n.natAbs < 2 ^ d → d ≤ 63 → 0 ≤ j → j + d ≤ 1000 →
    ∀ k, d < k → impl_split.l0 k n p j = some (j + (spl p d n).1, (spl p d n).2) := by
  intro d
  induction d with
  | zero => intro n j hn h; simp at h; omega
  | succ d ih =>
    intro n j hn h hd hj hJ k hk
    obtain ⟨k, rfl⟩ : ∃ m, k = m + 1 := ⟨k - 1, by omega⟩
    simp only [impl_split.l0]
    rw [if_neg (by omega)]
    by_cases c : n.tmod p = 0
    · obtain ⟨h0, h1, h2, h3, _⟩ := tdiv_abs hp hn c
      have hlt : n.natAbs < 2 ^ 63 := Nat.lt_of_lt_of_le h (Nat.pow_le_pow_right (by omega) hd)
      rw [if_pos c, w64 (x := n.tdiv p) (by omega) (by omega), spl_dvd d c, w64 (x := j + 1) (by omega) (by omega),
        ih (n.tdiv p) (j + 1) h0 (by rw [Nat.pow_succ] at h; omega) (by omega) (by omega) (by omega) k (by omega)]
      simp only [Option.some.injEq, Prod.mk.injEq, and_true]; omega
    · rw [if_neg c, spl_not d c]
      simp
theorem split_at {n p : Int} (hp : 2 ≤ p) (hn : n ≠ 0) (h : n.natAbs < 2 ^ 63) (k : Nat) (hk : 63 < k) : impl_split.f k n p = some (val p n, unit p n) := by
  unfold impl_split.f val unit
  rw [split_l hp 63 n 0 hn h (by omega) (by omega) (by omega) k hk, ← spl_more hp 63 n hn h]
  simp
/-! ### valuations -/

/-! ### primes -/
theorem primesOf_l : ∀ (d : Nat) (n p : Int) (out : List Int), 0 < n → n ≤ 1000000000000 → 2 ≤ p → p ≤ 1000002 → n + 2 - p ≤ d → 1 ≤ d → out.length + d ≤ 17000000000000 →
    ∀ k, d + 64 < k → impl_primesOf.l0 k n out p = some (out ++ pl d n p) := by
  intro d
  induction d with
  | zero => intro n p out hn hN hp hP hd h1; omega
  | succ d ih =>
    intro n p out hn hN hp hP hd h1 hl k hk
    obtain ⟨k, rfl⟩ : ∃ m, k = m + 1 := ⟨k - 1, by omega⟩
    simp only [impl_primesOf.l0, pl]
    rw [wmul (a := p) (b := p) (by omega) (by omega) (by omega) (by omega)]
    by_cases c : p * p ≤ n
    · have hpn : 2 * p ≤ n := by have := Int.mul_le_mul_of_nonneg_right hp (show 0 ≤ p by omega); omega
      have hp6 : p ≤ 1000000 := le_of_sq (by omega) (by omega)
      rw [if_pos c, if_neg (by omega), if_pos c, w64 (x := p + 1) (by omega) (by omega)]
      by_cases c2 : n.tmod p = 0
      · have hv := val_spec hp (show n ≠ 0 by omega) (by omega)
        rw [if_pos c2, if_pos (by omega), split_at hp (by omega) (by omega) k (by omega), if_pos c2]
        simp only [Option.bind_some]
        rw [ih (unit p n) (p + 1) (out ++ [p]) (hv.2.2.2.2.2.2 hn) (by omega) (by omega) (by omega) (by omega) (by omega) (by simp; omega) k (by omega)]
        simp
      · rw [if_neg c2, if_neg c2]
        exact ih n (p + 1) out hn hN (by omega) (by omega) (by omega) (by omega) (by omega) k (by omega)
    · rw [if_neg c, if_neg c]
      by_cases c2 : n > 1
      · rw [if_pos c2, if_pos c2, if_pos (by omega)]
      · rw [if_neg c2, if_neg c2]; simp
theorem primesOf_ev {n : Int} (hn : n ≠ 0) (h : n.natAbs ≤ 1000000000000) : Ev (fun k => impl_primesOf.f k n) (primes n) := by
  refine ⟨n.natAbs + 67, fun k hk => ?_⟩
  simp only [impl_primesOf.f, impl_size.f, Option.bind_some]
  rw [size_ev (by omega) (by omega), primesOf_l (n.natAbs + 2) (absI n) 2 [] (by unfold absI; omega) (by unfold absI; omega) (by omega) (by omega) (by unfold absI; omega) (by omega) (by simp; omega) k (by omega)]
  rfl


/-! ### primes, of the reference -/
theorem l1Primes_in (p : Int) (hp : 2 ≤ p) (hP : p ≤ 1000001) (out : List Int) : ∀ (d : Nat) (n : Int), 0 < n → n.natAbs < 2 ^ d → d ≤ 63 →
    ∀ k, spec_l1Primes.l1 (k + d) n out p = (match k + d - (spl p d n).1.toNat with | 0 => none | m + 1 => spec_l1Primes.l0 m (spl p d n).2 out (p + 1)) := by
  intro d
  induction d with
  | zero => intro n hn h; simp at h; omega
  | succ d ih =>
    intro n hn h hd k
    have hs := spl_spec hp (d + 1) n (by omega) h
    rw [show k + (d + 1) = (k + d) + 1 from by omega]
    simp only [spec_l1Primes.l1]
    rw [if_neg (by omega)]
    by_cases c : n.tmod p = 0
    · obtain ⟨h0, h1, h2, h3, _⟩ := tdiv_abs hp (show n ≠ 0 by omega) c
      have hlt : n.natAbs < 2 ^ 63 := Nat.lt_of_lt_of_le h (Nat.pow_le_pow_right (by omega) hd)
      have h4 : (n.tdiv p).natAbs < 2 ^ d := by rw [Nat.pow_succ] at h; omega
      have hs' := spl_spec hp d (n.tdiv p) h0 h4
      rw [if_pos c, w64 (x := n.tdiv p) (by omega) (by omega), spl_dvd d c, ih (n.tdiv p) (h3 hn) h4 (by omega) k]
      simp only
      rw [show k + d + 1 - ((spl p d (n.tdiv p)).1 + 1).toNat = k + d - (spl p d (n.tdiv p)).1.toNat from by omega]
    · rw [if_neg c, spl_not d c, w64 (x := p + 1) (by omega) (by omega)]
      simp
theorem l1Primes_l : ∀ (d : Nat) (n p : Int) (out : List Int), 0 < n → n ≤ 1000000000000 → 2 ≤ p → p ≤ 1000002 → n + 2 - p ≤ d → 1 ≤ d → out.length + d ≤ 17000000000000 →
    Ev (fun k => spec_l1Primes.l0 k n out p) (out ++ pl d n p) := by
  intro d
  induction d with
  | zero => intro n p out hn hN hp hP hd h1; omega
  | succ d ih =>
    intro n p out hn hN hp hP hd h1 hl
    by_cases c : p * p ≤ n
    · have hpn : 2 * p ≤ n := by have := Int.mul_le_mul_of_nonneg_right hp (show 0 ≤ p by omega); omega
      have hp6 : p ≤ 1000000 := le_of_sq (by omega) (by omega)
      have hv := val_spec hp (show n ≠ 0 by omega) (by omega)
      have inner : ∀ o : List Int, Ev (fun k => spec_l1Primes.l0 k (unit p n) o (p + 1)) (o ++ pl d (unit p n) (p + 1)) → Ev (fun k => spec_l1Primes.j1 k n o p) (o ++ pl d (unit p n) (p + 1)) := by
        intro o ho
        obtain ⟨K, hK⟩ := ho
        refine ⟨K + 200, fun k hk => ?_⟩
        obtain ⟨k, rfl⟩ : ∃ m, k = m + 64 + 1 := ⟨k - 65, by omega⟩
        simp only [spec_l1Primes.j1]
        have e := l1Primes_in p hp (by omega) o 63 n hn (by omega) (by omega) (k + 1)
        rw [show k + 64 = k + 1 + 63 from by omega, e, ← spl_more hp 63 n (by omega) (by omega)]
        change (match k + 1 + 63 - (val p n).toNat with | 0 => none | m + 1 => spec_l1Primes.l0 m (unit p n) o (p + 1)) = _
        have hb := hv.2.2.2.1
        obtain ⟨m, hm⟩ : ∃ m, k + 1 + 63 - (val p n).toNat = m + 1 := ⟨k + 63 - (val p n).toNat, by omega⟩
        rw [hm]
        exact hK m (by omega)
      by_cases c2 : n.tmod p = 0
      · refine Ev.step (f := fun k => spec_l1Primes.j1 k n (out ++ [p]) p) (fun k => ?_) ?_
        · simp only [spec_l1Primes.l0]
          rw [wmul (a := p) (b := p) (by omega) (by omega) (by omega) (by omega), if_pos c, if_neg (by omega), if_pos c2, if_pos (by omega)]
        · have := inner (out ++ [p]) (ih (unit p n) (p + 1) (out ++ [p]) (hv.2.2.2.2.2.2 hn) (by omega) (by omega) (by omega) (by omega) (by omega) (by simp; omega))
          simp only [pl, if_pos c, if_pos c2]
          simpa using this
      · refine Ev.step (f := fun k => spec_l1Primes.j1 k n out p) (fun k => ?_) ?_
        · simp only [spec_l1Primes.l0]
          rw [wmul (a := p) (b := p) (by omega) (by omega) (by omega) (by omega), if_pos c, if_neg (by omega), if_neg c2]
        · have hu := (val_of_not c2).2
          have := inner out (by rw [hu]; exact ih n (p + 1) out hn hN (by omega) (by omega) (by omega) (by omega) (by omega))
          rw [hu] at this
          simp only [pl, if_pos c, if_neg c2]
          exact this
    · refine Ev.step (f := fun _ => some (out ++ pl (d + 1) n p)) (fun k => ?_) (Ev.now _)
      simp only [spec_l1Primes.l0, pl]
      rw [wmul (a := p) (b := p) (by omega) (by omega) (by omega) (by omega), if_neg c, if_neg c]
      by_cases c2 : n > 1
      · rw [if_pos c2, if_pos c2, if_pos (by omega)]
      · rw [if_neg c2, if_neg c2]; simp
theorem l1Primes_ev {n : Int} (hn : n ≠ 0) (h : n.natAbs ≤ 1000000000000) : Ev (fun k => spec_l1Primes.f k n) (primes n) := by
  simp only [spec_l1Primes.f, spec_l1Size.f, Option.bind_some]
  rw [size_ev (by omega) (by omega)]
  have := l1Primes_l (n.natAbs + 2) (absI n) 2 [] (by unfold absI; omega) (by unfold absI; omega) (by omega) (by omega) (by unfold absI; omega) (by omega) (by simp; omega)
  simpa [primes] using this


/-! ### residues, squares and symbols at a place -/
/-! ### symbols -/
/-! ### forms -/
theorem implFormValid_l (xs : List Int) (hx : ∀ x ∈ xs, x.natAbs ≤ 1000000) (hl : xs.length ≤ 1000) : ∀ (d j : Nat), j + d = xs.length →
    Ev (fun k => impl_FormValid.l0 k xs xs (xs.length : Int) j) ((xs.drop j).all (fun x => decide (x ≠ 0) && decide (x.natAbs ≤ 30)) && (decide (1 ≤ xs.length) && decide (xs.length ≤ 4))) := by
  intro d
  induction d with
  | zero =>
    intro j hj
    rw [List.drop_of_length_le (by omega)]
    refine Ev.step (f := fun _ => some (decide (1 ≤ xs.length) && decide (xs.length ≤ 4))) (fun k => ?_) (by simpa using Ev.now _)
    simp only [impl_FormValid.l0]
    rw [if_neg (by omega)]
    by_cases c : 1 ≤ xs.length
    · rw [if_pos (by omega), decide_eq_true c, Bool.true_and]; congr 1; exact decide_eq_decide.2 (by omega)
    · rw [if_neg (by omega), decide_eq_false c, Bool.false_and]
  | succ d ih =>
    intro j hj
    have hm := hx _ (rd_mem (xs := xs) (j := j) (by omega))
    rw [rd_drop (show j < xs.length by omega)]
    have := ih (j + 1) (by omega)
    generalize hp : rd xs (j : Int) = p at hm
    rw [List.all_cons]
    by_cases c0 : p = 0
    · rw [decide_eq_false (by omega : ¬ p ≠ 0), Bool.false_and, Bool.false_and, Bool.false_and]
      refine Ev.step (f := fun _ => some false) (fun k => ?_) (Ev.now _)
      simp only [impl_FormValid.l0]
      rw [if_pos (by omega), if_pos (by omega), if_pos (by omega), hp, if_pos c0]
    · have hs : impl_size.f p = some (absI p) := by simp only [impl_size.f]; rw [size_ev (by omega) (by omega)]
      by_cases c : p.natAbs ≤ 30
      · rw [decide_eq_true c0, decide_eq_true c, Bool.true_and, Bool.true_and]
        refine Ev.step (fun k => ?_) this
        simp only [impl_FormValid.l0]
        rw [if_pos (by omega), if_pos (by omega), if_pos (by omega), hp, if_neg c0, hs, Option.bind_some, if_neg (by unfold absI; omega), w64 (x := (j : Int) + 1) (by omega) (by omega)]
        rfl
      · rw [decide_eq_false c, Bool.and_false, Bool.false_and, Bool.false_and]
        refine Ev.step (f := fun _ => some false) (fun k => ?_) (Ev.now _)
        simp only [impl_FormValid.l0]
        rw [if_pos (by omega), if_pos (by omega), if_pos (by omega), hp, if_neg c0, hs, Option.bind_some, if_pos (by unfold absI; omega)]
theorem implFormValid_ev {xs : List Int} (hx : ∀ x ∈ xs, x.natAbs ≤ 1000000) (hl : xs.length ≤ 1000) : Ev (fun k => impl_FormValid.f k xs) (formOk xs) :=
  implFormValid_l xs hx hl xs.length 0 (by omega)
theorem specIn_eq (x a b : Int) : spec_l6In.f x a b = some (decide (a ≤ x) && decide (x ≤ b)) := by
  unfold spec_l6In.f
  by_cases c : x ≥ a
  · simp [c, show a ≤ x from c]
  · simp [c, show ¬ a ≤ x from c]
theorem specFormValid_l (xs : List Int) (hl : xs.length ≤ 1000) : ∀ (d j : Nat), j + d = xs.length →
    Ev (fun k => spec_FormValid.l0 k xs j) ((xs.drop j).all (fun x => decide (x ≠ 0) && decide (x.natAbs ≤ 30)) && (decide (1 ≤ xs.length) && decide (xs.length ≤ 4))) := by
  intro d
  induction d with
  | zero =>
    intro j hj
    rw [List.drop_of_length_le (by omega)]
    refine Ev.step (f := fun _ => some (decide (1 ≤ xs.length) && decide (xs.length ≤ 4))) (fun k => ?_) (by simpa using Ev.now _)
    simp only [spec_FormValid.l0, specIn_eq, Option.bind_some]
    rw [if_neg (by omega), show decide ((1 : Int) ≤ (xs.length : Int)) = decide (1 ≤ xs.length) from decide_eq_decide.2 (by omega), show decide ((xs.length : Int) ≤ 4) = decide (xs.length ≤ 4) from decide_eq_decide.2 (by omega)]
  | succ d ih =>
    intro j hj
    rw [rd_drop (show j < xs.length by omega)]
    have := ih (j + 1) (by omega)
    generalize hp : rd xs (j : Int) = p
    rw [List.all_cons]
    by_cases c0 : p = 0
    · rw [decide_eq_false (by omega : ¬ p ≠ 0), Bool.false_and, Bool.false_and, Bool.false_and]
      refine Ev.step (f := fun _ => some false) (fun k => ?_) (Ev.now _)
      simp only [spec_FormValid.l0]
      rw [if_pos (by omega), if_pos (by omega), hp, if_pos c0]
    · have hb : (decide (-30 ≤ p) && decide (p ≤ 30)) = decide (p.natAbs ≤ 30) := by
        rw [← Bool.decide_and]; exact decide_eq_decide.2 (by omega)
      by_cases c : p.natAbs ≤ 30
      · rw [decide_eq_true c0, decide_eq_true c, Bool.true_and, Bool.true_and]
        refine Ev.step (fun k => ?_) this
        simp only [spec_FormValid.l0, specIn_eq, Option.bind_some]
        rw [if_pos (by omega), if_pos (by omega), hp, if_neg c0, hb, if_pos (decide_eq_true c), w64 (x := (j : Int) + 1) (by omega) (by omega)]
        rfl
      · rw [decide_eq_false c, Bool.and_false, Bool.false_and, Bool.false_and]
        refine Ev.step (f := fun _ => some false) (fun k => ?_) (Ev.now _)
        simp only [spec_FormValid.l0, specIn_eq, Option.bind_some]
        rw [if_pos (by omega), if_pos (by omega), hp, if_neg c0, hb, decide_eq_false c]
        simp
theorem specFormValid_ev {xs : List Int} (hl : xs.length ≤ 1000) : Ev (fun k => spec_FormValid.f k xs) (formOk xs) :=
  specFormValid_l xs hl xs.length 0 (by omega)
/-! ### forms vanish -/
/-! ### places -/

/-! ### numbers that a form represents -/
theorem implValueOk_eq (t : Int) : impl_valueOk.f t = some (tOk t) := by
  unfold impl_valueOk.f tOk
  by_cases c : t = 0
  · simp [c]
  · rw [if_neg c]
    by_cases c2 : t ≥ -30
    · rw [if_pos c2, decide_eq_true c, Bool.true_and]; congr 1; exact decide_eq_decide.2 (by omega)
    · rw [if_neg c2, decide_eq_false (show ¬ t.natAbs ≤ 30 by omega), Bool.and_false]
theorem specNumber_eq (t : Int) : spec_l9Number.f t = some (tOk t) := by
  unfold spec_l9Number.f tOk
  by_cases c : t = 0
  · simp [c]
  · rw [if_neg c, specIn_eq, Option.bind_some, decide_eq_true c, Bool.true_and, ← Bool.decide_and]; congr 1; exact decide_eq_decide.2 (by omega)

/-! ### forms and places are drawn -/
theorem rd_mem' {xs : List Int} {v : Int} (h0 : 0 ≤ v) (h : v < (xs.length : Int)) : rd xs v ∈ xs := by
  have := rd_mem (xs := xs) (j := v.toNat) (by omega)
  rwa [Int.toNat_of_nonneg h0] at this
theorem target_draw {b : List Int} (hb : BytesB b) {q : Int} (hq : 0 ≤ q) (hQ : q ≤ 999999999999000) : ∃ t q', t.natAbs ≤ 31 ∧ Ev (fun k => spec_l92Target.f k b q) (t, q') := by
  obtain ⟨v1, h1, g1, e1⟩ := pick_ev hb (p := q) (by omega) (by omega) (n := 20) (by omega)
  by_cases c : v1 = 0
  · obtain ⟨v2, h2, g2, e2⟩ := pick_ev hb (p := q + 1) (by omega) (by omega) (n := 4) (by omega)
    have hm := rd_mem' (xs := [0, 31, (-31), 30]) h2 (by simp; omega)
    refine ⟨rd [0, 31, (-31), 30] v2, q + 1 + 1, ?_, ?_⟩
    · simp only [List.mem_cons, List.not_mem_nil, or_false] at hm; omega
    · simp only [spec_l92Target.f]
      refine e1.bind ?_
      simp only [if_pos c, Option.bind_some]
      refine e2.bind ?_
      simp only [if_pos h2, if_pos (show v2 < ((List.length [(0 : Int), 31, (-31), 30] : Nat) : Int) from by simp; omega)]
      exact Ev.now _
  · obtain ⟨v2, h2, g2, e2⟩ := pick_ev hb (p := q + 1) (by omega) (by omega) (n := 20) (by omega)
    obtain ⟨v3, h3, g3, e3⟩ := pick_ev hb (p := q + 1 + 1) (by omega) (by omega) (n := 4) (by omega)
    by_cases c3 : v3 = 0
    · refine ⟨-(1 + v2), q + 1 + 1 + 1, by omega, ?_⟩
      simp only [spec_l92Target.f]
      refine e1.bind ?_
      simp only [if_neg c]
      refine e2.bind (e3.bind ?_)
      simp only [if_pos c3, w64 (x := 1 + v2) (by omega) (by omega), w64 (x := -(1 + v2)) (by omega) (by omega)]
      exact Ev.now _
    · refine ⟨1 + v2, q + 1 + 1 + 1, by omega, ?_⟩
      simp only [spec_l92Target.f]
      refine e1.bind ?_
      simp only [if_neg c]
      refine e2.bind (e3.bind ?_)
      simp only [if_neg c3, w64 (x := 1 + v2) (by omega) (by omega)]
      exact Ev.now _



/-! ### cores -/
theorem implCoreIn_l {q : Int} (hq : 2 ≤ q) (hQ : q ≤ 1000000000) (qs : List Int) (i : Nat) (hi : i ≤ 1000000000) (v : Int × Int) : ∀ (d : Nat) (n r : Int), n ≠ 0 → n.natAbs < 2 ^ d → d ≤ 63 → 1 ≤ r → (n * (r * r)).natAbs ≤ 1000000000 →
    Ev (fun k => impl_coreOf.l0 k (coreW q d n r).1 (coreW q d n r).2 qs (qs.length : Int) ((i + 1 : Nat) : Int)) v →
    Ev (fun k => impl_coreOf.l1 k n r q qs (qs.length : Int) i) v := by
  intro d
  have hqq : 4 ≤ q * q := by have := sq_le (show (0 : Int) ≤ 2 by omega) hq; omega
  have hqQ : q * q ≤ 1000000000 * 1000000000 := sq_le (by omega) hQ
  induction d with
  | zero => intro n r hn h; simp at h; omega
  | succ d ih =>
    intro n r hn h hd hr hb hv
    have hnb : n.natAbs ≤ 1000000000 := by
      have h1 : r * r ≠ 0 := Int.mul_ne_zero (by omega) (by omega)
      have := mul_natAbs_le (a := n) h1; omega
    simp only [coreW] at hv
    by_cases c : n.tmod (q * q) = 0
    · rw [if_pos c] at hv
      obtain ⟨h1, h2, h3⟩ := sq_div hq hn c
      have hrq : 1 ≤ r * q := by have := Int.mul_le_mul hr (show (1 : Int) ≤ q by omega) (by omega) (by omega); omega
      have e : n * (r * r) = n.tdiv (q * q) * ((r * q) * (r * q)) := by
        conv => lhs; rw [h2]
        grind
      have hrqb : (r * q).natAbs ≤ 1000000000 := by
        have h4 : (n.tdiv (q * q) * ((r * q) * (r * q))).natAbs ≤ 1000000000 := by rw [← e]; exact hb
        rw [Int.natAbs_mul, Int.natAbs_mul] at h4
        have h5 : 1 ≤ (n.tdiv (q * q)).natAbs := by omega
        have h6 : (r * q).natAbs ≤ (r * q).natAbs * (r * q).natAbs := Nat.le_mul_of_pos_left _ (by omega)
        have h7 := Nat.le_mul_of_pos_left ((r * q).natAbs * (r * q).natAbs) h5
        omega
      refine Ev.step (fun k => ?_) (ih (n.tdiv (q * q)) (r * q) h1 (by rw [Nat.pow_succ] at h; omega) (by omega) hrq (by rw [← e]; exact hb) hv)
      simp only [impl_coreOf.l1]
      rw [w64 (x := q * q) (by omega) (by omega), if_neg (by omega), if_pos c, w64 (x := n.tdiv (q * q)) (by omega) (by omega), w64 (x := r * q) (by omega) (by omega)]
    · rw [if_neg c] at hv
      refine Ev.step (fun k => ?_) hv
      simp only [impl_coreOf.l1]
      rw [w64 (x := q * q) (by omega) (by omega), if_neg (by omega), if_neg c, w64 (x := (i : Int) + 1) (by omega) (by omega)]
      rfl
theorem coreW_more {q : Int} (hq : 2 ≤ q) : ∀ (d e : Nat) (n r : Int), n ≠ 0 → n.natAbs < 2 ^ d → d ≤ e → coreW q e n r = coreW q d n r := by
  intro d
  induction d with
  | zero => intro e n r hn h; simp at h; omega
  | succ d ih =>
    intro e n r hn h he
    obtain ⟨e, rfl⟩ : ∃ m, e = m + 1 := ⟨e - 1, by omega⟩
    simp only [coreW]
    by_cases c : n.tmod (q * q) = 0
    · rw [if_pos c, if_pos c]
      obtain ⟨h1, h2, h3⟩ := sq_div hq hn c
      exact ih e _ _ h1 (by rw [Nat.pow_succ] at h; omega) (by omega)
    · rw [if_neg c, if_neg c]
theorem implCore_l (qs : List Int) (hq : ∀ q ∈ qs, 2 ≤ q ∧ q ≤ 1000000000) (hl : qs.length ≤ 1000000000) : ∀ (d j : Nat) (n r : Int), j + d = qs.length → n ≠ 0 → 1 ≤ r → (n * (r * r)).natAbs ≤ 1000000000 →
    Ev (fun k => impl_coreOf.l0 k n r qs (qs.length : Int) j) (coreLs (qs.drop j) n r) := by
  intro d
  induction d with
  | zero =>
    intro j n r hj hn hr hb
    rw [List.drop_of_length_le (by omega)]
    refine Ev.step (f := fun _ => some (n, r)) (fun k => ?_) (Ev.now _)
    simp only [impl_coreOf.l0]
    rw [if_neg (by omega)]
  | succ d ih =>
    intro j n r hj hn hr hb
    have hm := hq _ (rd_mem (xs := qs) (j := j) (by omega))
    rw [rd_drop (show j < qs.length by omega)]
    simp only [coreLs]
    have hnb : n.natAbs ≤ 1000000000 := by
      have h1 : r * r ≠ 0 := Int.mul_ne_zero (by omega) (by omega)
      have := mul_natAbs_le (a := n) h1; omega
    obtain ⟨g1, g2, g3, g4, g5⟩ := coreW_spec hm.1 64 n r hn (by omega) hr
    have h63 : n.natAbs < 2 ^ 63 := by omega
    have e := coreW_more hm.1 63 64 n r hn h63 (by omega)
    have := implCoreIn_l hm.1 hm.2 qs j (by omega) (coreLs (qs.drop (j + 1)) (coreW (rd qs (j : Int)) 64 n r).1 (coreW (rd qs (j : Int)) 64 n r).2) 63 n r hn h63 (by omega) hr hb (by
      rw [← e]
      exact ih (j + 1) _ _ (by omega) g1 g2 (by rw [← g3]; exact hb))
    refine Ev.step (fun k => ?_) this
    simp only [impl_coreOf.l0]
    rw [if_pos (by omega), if_pos (by omega), if_pos (by omega)]
theorem primes_le {n q : Int} (hn : n ≠ 0) (h : n.natAbs < 2 ^ 63) (hq : q ∈ primes n) : 2 ≤ q ∧ q.natAbs ≤ n.natAbs := by
  obtain ⟨h1, h2⟩ := (primes_iff hn h).1 hq
  exact ⟨h1.1, Nat.le_of_dvd (by omega) (Int.natAbs_dvd_natAbs.2 h2)⟩
theorem implCore_ev {n : Int} (hn : n ≠ 0) (h : n.natAbs ≤ 100000000) : Ev (fun k => impl_coreOf.f k n) (coreF n) := by
  unfold impl_coreOf.f
  refine (primesOf_ev hn (by omega)).bind ?_
  have hp := primes_len n
  exact implCore_l (primes n) (fun q hq => by have := primes_le hn (by omega) hq; omega) (by omega) (primes n).length 0 n 1 (by omega) hn (by omega) (by simpa using by omega)
theorem specCoreIn_l {q : Int} (hq : 2 ≤ q) (hQ : q ≤ 1000000) (v : Int × Int) : ∀ (d : Nat) (n r : Int), n ≠ 0 → n.natAbs < 2 ^ d → d ≤ 63 → 1 ≤ r → (n * (r * r)).natAbs ≤ 1000000000 →
    Ev (fun k => spec_l1Core.l0 k (coreW q d n r).1 (coreW q d n r).2 (q + 1)) v →
    Ev (fun k => spec_l1Core.l1 k n r q) v := by
  intro d
  have hqq : 4 ≤ q * q := by have := sq_le (show (0 : Int) ≤ 2 by omega) hq; omega
  have hqQ : q * q ≤ 1000000 * 1000000 := sq_le (by omega) hQ
  induction d with
  | zero => intro n r hn h; simp at h; omega
  | succ d ih =>
    intro n r hn h hd hr hb hv
    have hnb : n.natAbs ≤ 1000000000 := by
      have h1 : r * r ≠ 0 := Int.mul_ne_zero (by omega) (by omega)
      have := mul_natAbs_le (a := n) h1; omega
    simp only [coreW] at hv
    by_cases c : n.tmod (q * q) = 0
    · rw [if_pos c] at hv
      obtain ⟨h1, h2, h3⟩ := sq_div hq hn c
      have hrq : 1 ≤ r * q := by have := Int.mul_le_mul hr (show (1 : Int) ≤ q by omega) (by omega) (by omega); omega
      have e : n * (r * r) = n.tdiv (q * q) * ((r * q) * (r * q)) := by
        conv => lhs; rw [h2]
        grind
      have hrqb : (r * q).natAbs ≤ 1000000000 := by
        have h4 : (n.tdiv (q * q) * ((r * q) * (r * q))).natAbs ≤ 1000000000 := by rw [← e]; exact hb
        rw [Int.natAbs_mul, Int.natAbs_mul] at h4
        have h5 : 1 ≤ (n.tdiv (q * q)).natAbs := by omega
        have h6 : (r * q).natAbs ≤ (r * q).natAbs * (r * q).natAbs := Nat.le_mul_of_pos_left _ (by omega)
        have h7 := Nat.le_mul_of_pos_left ((r * q).natAbs * (r * q).natAbs) h5
        omega
      refine Ev.step (fun k => ?_) (ih (n.tdiv (q * q)) (r * q) h1 (by rw [Nat.pow_succ] at h; omega) (by omega) hrq (by rw [← e]; exact hb) hv)
      simp only [spec_l1Core.l1]
      rw [w64 (x := q * q) (by omega) (by omega), if_neg (by omega), if_pos c, w64 (x := n.tdiv (q * q)) (by omega) (by omega), w64 (x := r * q) (by omega) (by omega)]
    · rw [if_neg c] at hv
      refine Ev.step (fun k => ?_) hv
      simp only [spec_l1Core.l1]
      rw [w64 (x := q * q) (by omega) (by omega), if_neg (by omega), if_neg c, w64 (x := q + 1) (by omega) (by omega)]
theorem specSize_eq {n : Int} (h : n.natAbs < 2 ^ 63) : spec_l1Size.f n = some (absI n) := by
  unfold spec_l1Size.f
  first
  | rw [size_ev (n := n) (by omega) (by omega)]
  | rw [Int.zero_sub, size_ev (n := n) (by omega) (by omega)]
theorem specCore_l : ∀ (d : Nat) (n r p : Int), n ≠ 0 → 1 ≤ r → (n * (r * r)).natAbs ≤ 1000000000 → 2 ≤ p → 40000 ≤ p + d → p ≤ 50000 → (∀ q : Int, 2 ≤ q → q < p → ¬ q * q ∣ n) →
    ∃ c s, IsCore (n * (r * r)) c s ∧ Ev (fun k => spec_l1Core.l0 k n r p) (c, s) := by
  intro d
  have fin : ∀ (n r p : Int), n ≠ 0 → 1 ≤ r → n.natAbs ≤ 1000000000 → 2 ≤ p → p ≤ 50000 → (∀ q : Int, 2 ≤ q → q < p → ¬ q * q ∣ n) → ¬ p * p ≤ absI n →
      ∃ c s, IsCore (n * (r * r)) c s ∧ Ev (fun k => spec_l1Core.l0 k n r p) (c, s) := by
    intro n r p hn hr hnb hp hP hq c
    have hpp : p * p ≤ 50000 * 50000 := sq_le (by omega) hP
    have hp0 := sq_nonneg p
    refine ⟨n, r, ⟨rfl, hr, hn, fun e he hd => ?_⟩, ?_⟩
    · rcases Int.lt_or_le e p with h | h
      · exact hq e he h hd
      · have h1 := sq_le (by omega) h
        have h2 : (e * e).natAbs ≤ n.natAbs := Nat.le_of_dvd (by omega) (Int.natAbs_dvd_natAbs.2 hd)
        unfold absI at c; omega
    · refine Ev.step (f := fun _ => some (n, r)) (fun k => ?_) (Ev.now _)
      simp only [spec_l1Core.l0, specSize_eq (n := n) (by omega), Option.bind_some]
      rw [w64 (x := p * p) (by omega) (by omega), if_neg c]
  have bd : ∀ (n r : Int), n ≠ 0 → 1 ≤ r → (n * (r * r)).natAbs ≤ 1000000000 → n.natAbs ≤ 1000000000 := by
    intro n r hn hr hb
    have h1 : r * r ≠ 0 := Int.mul_ne_zero (by omega) (by omega)
    have := mul_natAbs_le (a := n) h1; omega
  induction d with
  | zero =>
    intro n r p hn hr hb hp hd hP hq
    have hnb := bd n r hn hr hb
    have := sq_le (show (0 : Int) ≤ 40000 by omega) (show 40000 ≤ p by omega)
    exact fin n r p hn hr hnb hp hP hq (by unfold absI; omega)
  | succ d ih =>
    intro n r p hn hr hb hp hd hP hq
    have hnb := bd n r hn hr hb
    by_cases c : p * p ≤ absI n
    · have hpp : p * p ≤ 50000 * 50000 := sq_le (by omega) hP
      have hp0 := sq_nonneg p
      have hp4 : p < 40000 := by
        rcases Int.lt_or_le p 40000 with h | h
        · exact h
        · have := sq_le (show (0 : Int) ≤ 40000 by omega) h
          unfold absI at c; omega
      have h63 : n.natAbs < 2 ^ 63 := by omega
      obtain ⟨g1, g2, g3, g4, g5⟩ := coreW_spec hp 63 n r hn h63 hr
      obtain ⟨cc, s, hc, he⟩ := ih (coreW p 63 n r).1 (coreW p 63 n r).2 (p + 1) g1 g2 (by rw [← g3]; exact hb) (by omega) (by omega) (by omega) (fun q q1 q2 hqd => by
        rcases Int.lt_or_eq_of_le (show q ≤ p by omega) with h | h
        · exact hq q q1 h (Int.dvd_trans hqd g4)
        · subst h; exact g5 hqd)
      refine ⟨cc, s, by rw [g3]; exact hc, ?_⟩
      refine Ev.step (fun k => ?_) (specCoreIn_l hp (by omega) (cc, s) 63 n r hn h63 (by omega) hr hb he)
      simp only [spec_l1Core.l0, specSize_eq (n := n) (by omega), Option.bind_some]
      rw [w64 (x := p * p) (by omega) (by omega), if_pos c]
    · exact fin n r p hn hr hnb hp hP hq c
theorem specCore_ev {n : Int} (hn : n ≠ 0) (h : n.natAbs ≤ 100000000) : Ev (fun k => spec_l1Core.f k n) (coreF n) := by
  unfold spec_l1Core.f
  obtain ⟨c, s, hc, he⟩ := specCore_l 40000 n 1 2 hn (by omega) (by simpa using by omega) (by omega) (by omega) (by omega) (fun q q1 q2 => by omega)
  have e := core_is hn (by omega) (show IsCore n c s by have := hc; simp only [Int.mul_one] at this; exact this)
  rw [e]; exact he
/-! ### places of forms -/
/-! ### bad places of a form -/
/-! ### planes everywhere -/
/-! ### bad places of a number -/
/-! ### two lists are the same -/
theorem sameInts_l (xs ys : List Int) (he : xs.length = ys.length) (hl : xs.length ≤ 9223372036854775806) : ∀ (d j : Nat), j + d = xs.length →
    Ev (fun k => laws_sameInts.l0 k xs ys j) (decide (xs.drop j = ys.drop j)) := by
  intro d
  induction d with
  | zero =>
    intro j hj
    rw [List.drop_of_length_le (by omega), List.drop_of_length_le (show ys.length ≤ j by omega)]
    refine Ev.step (f := fun _ => some true) (fun k => ?_) (by simpa using Ev.now true)
    simp only [laws_sameInts.l0]
    rw [if_neg (by omega)]
  | succ d ih =>
    intro j hj
    rw [rd_drop (show j < xs.length by omega), rd_drop (show j < ys.length by omega)]
    have := ih (j + 1) (by omega)
    by_cases c : rd xs (j : Int) = rd ys (j : Int)
    · rw [c]
      simp only [List.cons.injEq, true_and]
      refine Ev.step (fun k => ?_) this
      simp only [laws_sameInts.l0]
      rw [if_pos (by omega), if_pos (by omega), if_pos (by omega), if_pos c, w64 (x := (j : Int) + 1) (by omega) (by omega)]
      rfl
    · rw [decide_eq_false (fun h => c (List.cons.inj h).1)]
      refine Ev.step (f := fun _ => some false) (fun k => ?_) (Ev.now _)
      simp only [laws_sameInts.l0]
      rw [if_pos (by omega), if_pos (by omega), if_pos (by omega), if_neg c]
theorem sameInts_ev {xs ys : List Int} (hl : xs.length ≤ 9223372036854775806) : Ev (fun k => laws_sameInts.f k xs ys) (decide (xs = ys)) := by
  unfold laws_sameInts.f
  by_cases c : xs.length = ys.length
  · simp only [if_pos (show (xs.length : Int) = (ys.length : Int) by omega)]
    simpa using sameInts_l xs ys c hl xs.length 0 (by omega)
  · simp only [if_neg (show ¬ (xs.length : Int) = (ys.length : Int) by omega), decide_eq_false (fun h : xs = ys => c (by rw [h]))]
    exact Ev.now _
/-! ### forms that often have a zero are drawn -/
theorem xor_yx {X : Int} (h0 : 0 ≤ X) (h1 : X < 9223372036854775808) : Go.bits .xor .i64 X (X.tdiv 64) = ((yx X.toNat : Nat) : Int) := by
  obtain ⟨x, rfl⟩ := Int.eq_ofNat_of_zero_le h0
  have e : ((x : Int)).tdiv 64 = ((x / 64 : Nat) : Int) := by rw [Int.tdiv_eq_ediv_of_nonneg (by omega)]; omega
  rw [e, xor_i64_nat x (x / 64) (by omega) (by omega)]
  rfl
theorem mod_steps (p l : Int) (j : Nat) (hl : 0 < l) : (p + 4 * l * j) % l = p % l ∧ ((p + 4 * l * j) * 7 + 3) % l = (p * 7 + 3) % l ∧ (p + 4 * l * j) / l = p / l + 4 * j := by
  have e1 : p + 4 * l * j = p + l * (4 * j) := by grind
  have e2 : (p + 4 * l * j) * 7 + 3 = (p * 7 + 3) + l * (28 * j) := by grind
  refine ⟨by rw [e1, Int.add_mul_emod_self_left], by rw [e2, Int.add_mul_emod_self_left], ?_⟩
  rw [e1, Int.add_mul_ediv_left _ _ (by omega)]
theorem pv_far {b : List Int} (hb : BytesB b) (hl : 0 < b.length) {p : Int} (hp : (b.length : Int) ≤ p) (hP : p ≤ 980000000000000) :
    ∃ x0 : Nat, ∀ j : Nat, j < 2 ^ 31 → pv b (p + 4 * (b.length : Int) * j) = ((yx (x0 + stepN b.length * j) : Nat) : Int) := by
  have hb2 := hb.2
  have hA := hb.rd_ (p % b.length)
  have hB := hb.rd_ ((p * 7 + 3) % b.length)
  have hd0 : 0 ≤ p / (b.length : Int) := Int.ediv_nonneg (by omega) (by omega)
  have hd1 : p / (b.length : Int) ≤ p := Int.ediv_le_self _ (by omega)
  refine ⟨(rd b (p % b.length) * 131 + rd b ((p * 7 + 3) % b.length) * 1117 + p * 29 + p / b.length * 53).toNat, fun j hj => ?_⟩
  obtain ⟨m1, m2, m3⟩ := mod_steps p b.length j (by omega)
  have hlj : 0 ≤ 4 * (b.length : Int) * j := Int.mul_nonneg (by omega) (by omega)
  have hlj2 : 4 * (b.length : Int) * j ≤ 8000 * 2147483648 := mul_le2 (by omega) (by omega) (by omega) (by omega)
  have e1 : (p + 4 * (b.length : Int) * j).tmod b.length = p % b.length := by rw [Int.tmod_eq_emod_of_nonneg (by omega), m1]
  have e2 : ((p + 4 * (b.length : Int) * j) * 7 + 3).tmod b.length = (p * 7 + 3) % b.length := by rw [Int.tmod_eq_emod_of_nonneg (by omega), m2]
  have e3 : (p + 4 * (b.length : Int) * j).tdiv b.length = p / b.length + 4 * j := by rw [Int.tdiv_eq_ediv_of_nonneg (by omega), m3]
  unfold pv
  rw [if_neg (by omega), if_neg (by omega), e1, e2, e3]
  generalize rd b (p % b.length) = A at hA
  generalize rd b ((p * 7 + 3) % b.length) = B at hB
  generalize p / (b.length : Int) = D at hd0 hd1
  have es : A * 131 + B * 1117 + (p + 4 * (b.length : Int) * j) * 29 + (D + 4 * j) * 53 = (A * 131 + B * 1117 + p * 29 + D * 53) + (stepN b.length : Int) * j := by
    unfold stepN
    have : ((116 * b.length + 212 : Nat) : Int) = 116 * (b.length : Int) + 212 := by omega
    rw [this]; grind
  have hs0 : 0 ≤ (stepN b.length : Int) * j := Int.mul_nonneg (by omega) (by omega)
  have hs1 : (stepN b.length : Int) * j ≤ 232212 * 2147483648 := mul_le2 (by omega) (by unfold stepN; omega) (by omega) (by omega)
  rw [es, xor_yx (by omega) (by omega)]
  congr 2
  generalize hg : (stepN b.length : Int) * j = g at hs0 hs1
  have hg2 : ((stepN b.length * j : Nat) : Int) = g := by rw [← hg]; simp
  omega
/-- Within so many steps a draw of forty differs from 1. -/
theorem pick_moves {b : List Int} (hb : BytesB b) {q : Int} (hq : 0 ≤ q) (hQ : q ≤ 970000000000000) : ∃ j : Nat, j ≤ 4294967298000 ∧ (pv b (q + 4 * j)).tmod 40 ≠ 1 := by
  have hb2 := hb.2
  rcases Nat.eq_zero_or_pos b.length with h0 | h0
  · refine ⟨0, by omega, ?_⟩
    unfold pv; rw [if_pos h0]; decide
  · obtain ⟨x0, hx⟩ := pv_far hb h0 (p := q + 8000) (by omega) (by omega)
    obtain ⟨j, hj, hne⟩ := not_stay b.length x0 hb2
    have hbj : b.length * j ≤ 2000 * 2147483648 := Nat.mul_le_mul hb2 (by omega)
    refine ⟨2000 + b.length * j, by omega, ?_⟩
    have e : q + 4 * ((2000 + b.length * j : Nat) : Int) = q + 8000 + 4 * (b.length : Int) * j := by
      have : ((2000 + b.length * j : Nat) : Int) = 2000 + (b.length : Int) * j := by simp
      rw [this]; grind
    rw [e, hx j hj, Int.tmod_eq_emod_of_nonneg (by omega)]
    intro h
    apply hne
    omega
def OneT (x : Int) : Prop := x.natAbs ≤ 31 ∧ (Sm x → x ∈ TT)
theorem one_form {b : List Int} (hb : BytesB b) {q : Int} (hq : 0 ≤ q) (hQ : q ≤ 999999999999000) : ∃ xs q', Ev (fun k => spec_l91Form.f k b q 1) (xs, q') ∧
    ((xs = [] ∧ q' = q + 4 ∧ (pv b (q + 3)).tmod 40 = 1) ∨ (∃ x, xs = [x] ∧ OneT x ∧ q + 4 ≤ q' ∧ q' ≤ q + 5)) := by
  obtain ⟨p0, e0⟩ := pick_at hb (p := q) (by omega) (by omega) (n := 1) (by omega)
  obtain ⟨p1, e1⟩ := pick_at hb (p := q + 1) (by omega) (by omega) (n := 16) (by omega)
  obtain ⟨p2, e2⟩ := pick_at hb (p := q + 1 + 1) (by omega) (by omega) (n := 5) (by omega)
  obtain ⟨p3, e3⟩ := pick_at hb (p := q + 1 + 1 + 1) (by omega) (by omega) (n := 40) (by omega)
  obtain ⟨p4, e4⟩ := pick_at hb (p := q + 1 + 1 + 1 + 1) (by omega) (by omega) (n := 2) (by omega)
  have r0 := tmod_range p0 (n := 1) (by omega)
  have r1 := tmod_range p1 (n := 16) (by omega)
  have r4 := tmod_range p4 (n := 2) (by omega)
  have z0 : (pv b q).tmod 1 = 0 := by omega
  have e33 : q + 1 + 1 + 1 = q + 3 := by omega
  rw [z0] at e0
  generalize hv1 : (pv b (q + 1)).tmod 16 = v1 at r1 e1
  generalize (pv b (q + 1 + 1)).tmod 5 = v2 at e2
  generalize hv3 : (pv b (q + 1 + 1 + 1)).tmod 40 = v3 at e3
  generalize (pv b (q + 1 + 1 + 1 + 1)).tmod 2 = v4 at r4 e4
  have hlen : v1 < ((List.length [(1 : Int), 2, 3, 5, 6, 7, 1, 10, 12, 3, 15, 4, 21, 1, 30, 8] : Nat) : Int) := by simp; omega
  have hm := rd_mem' (xs := [1, 2, 3, 5, 6, 7, 1, 10, 12, 3, 15, 4, 21, 1, 30, 8]) r1.1 hlen
  have ht : rd [1, 2, 3, 5, 6, 7, 1, 10, 12, 3, 15, 4, 21, 1, 30, 8] v1 ∈ TT ∧ -(rd [1, 2, 3, 5, 6, 7, 1, 10, 12, 3, 15, 4, 21, 1, 30, 8] v1) ∈ TT := by
    have : ∀ x ∈ ([1, 2, 3, 5, 6, 7, 1, 10, 12, 3, 15, 4, 21, 1, 30, 8] : List Int), x ∈ TT ∧ -x ∈ TT := by decide +kernel
    exact this _ hm
  -- one term, and what follows it
  have step : ∀ (v : List Int × Int), (∀ x, x ∈ TT → Ev (fun k => spec_l91Form.l0 k [x] 1 1 b (q + 1 + 1 + 1)) v) → True := fun _ _ => trivial
  have fin : ∀ x, x ∈ TT → ∃ xs q', Ev (fun k => spec_l91Form.l0 k [x] 1 1 b (q + 1 + 1 + 1)) (xs, q') ∧ ((xs = [] ∧ q' = q + 4 ∧ (pv b (q + 3)).tmod 40 = 1) ∨ (∃ x, xs = [x] ∧ OneT x ∧ q + 4 ≤ q' ∧ q' ≤ q + 5)) := by
    intro x hx
    by_cases c0 : v3 = 0
    · have hm2 := rd_mem' (xs := [0, 31]) r4.1 (by simp; omega)
      refine ⟨[rd [0, 31] v4], q + 1 + 1 + 1 + 1 + 1, ?_, Or.inr ⟨_, rfl, ?_, by omega, by omega⟩⟩
      · apply Ev.step
        · intro k
          simp only [spec_l91Form.l0, if_neg (show ¬ (1 : Int) < 1 by omega)]
          exact rfl
        · refine e3.bind ?_
          simp only [if_pos c0, Option.bind_some]
          refine e4.bind ?_
          simp only [if_pos r4.1, if_pos (show v4 < ((List.length [(0 : Int), 31] : Nat) : Int) from by simp; omega), if_pos (show 0 < ((([x] : List Int).length : Nat) : Int) from by simp)]
          exact Ev.now _
      · simp only [List.mem_cons, List.not_mem_nil, or_false] at hm2
        unfold OneT Sm
        refine ⟨by omega, fun h => by omega⟩
    · by_cases c1 : v3 = 1
      · refine ⟨[], q + 1 + 1 + 1 + 1, ?_, Or.inl ⟨rfl, by omega, by rw [← e33, hv3]; exact c1⟩⟩
        apply Ev.step
        · intro k
          simp only [spec_l91Form.l0, if_neg (show ¬ (1 : Int) < 1 by omega)]
          exact rfl
        · refine e3.bind ?_
          simp only [if_neg c0, if_pos c1]; exact Ev.now _
      · refine ⟨[x], q + 1 + 1 + 1 + 1, ?_, Or.inr ⟨x, rfl, ⟨by have := (TT_sm hx).2; omega, fun _ => hx⟩, by omega, by omega⟩⟩
        apply Ev.step
        · intro k
          simp only [spec_l91Form.l0, if_neg (show ¬ (1 : Int) < 1 by omega)]
          exact rfl
        · refine e3.bind ?_
          simp only [if_neg c0, if_neg c1]; exact Ev.now _
  generalize hx : rd [1, 2, 3, 5, 6, 7, 1, 10, 12, 3, 15, 4, 21, 1, 30, 8] v1 = x at ht
  have hs := TT_sm ht.1
  unfold Sm at hs
  have hz : wrap64 (-x) = -x := w64 (by omega) (by omega)
  have go : ∀ y, (y = if v2 < 2 then -x else x) → ∀ v, Ev (fun k => spec_l91Form.l0 k [y] 1 1 b (q + 1 + 1 + 1)) v → Ev (fun k => spec_l91Form.f k b q 1) v := by
    intro y hy v hv
    unfold spec_l91Form.f
    refine e0.bind ?_
    rw [show wrap64 (1 + 0) = 1 from w64 (by omega) (by omega)]
    apply Ev.step
    · intro k
      simp only [spec_l91Form.l0, if_pos (show (0 : Int) < 1 by omega), Option.bind_some]
      exact rfl
    · refine e1.bind ?_
      simp only [if_pos r1.1, if_pos hlen]
      refine e2.bind ?_
      by_cases c : v2 < 2
      · rw [if_pos c] at hy
        subst hy
        simp only [if_pos c, hx, hz, List.length_nil, List.nil_append, if_pos (show 0 < 17592186044416 by omega), show wrap64 (0 + 1) = 1 from w64 (by omega) (by omega)]
        exact hv
      · rw [if_neg c] at hy
        subst hy
        simp only [if_neg c, hx, List.length_nil, List.nil_append, if_pos (show 0 < 17592186044416 by omega), show wrap64 (0 + 1) = 1 from w64 (by omega) (by omega)]
        exact hv
  by_cases c : v2 < 2
  · obtain ⟨xs, q', h1, h2⟩ := fin (-x) ht.2
    exact ⟨xs, q', go (-x) (by rw [if_pos c]) _ h1, h2⟩
  · obtain ⟨xs, q', h1, h2⟩ := fin x ht.1
    exact ⟨xs, q', go x (by rw [if_neg c]) _ h1, h2⟩
/-- One more term, behind some draws that give none. -/
theorem one_more {b : List Int} (hb : BytesB b) (n : Int) (out : List Int) (h0 : 0 < (out.length : Int)) (hn : (out.length : Int) < n) (hn5 : n ≤ 5) : ∀ (J : Nat) (q : Int), 0 ≤ q → q + 4 * J ≤ 999999999998000 → (∃ j : Nat, j ≤ J ∧ (pv b (q + 3 + 4 * j)).tmod 40 ≠ 1) →
    ∃ x q', OneT x ∧ q ≤ q' ∧ q' ≤ q + 4 * J + 5 ∧ ∀ v, Ev (fun k => spec_l92Form.l0 k n (out ++ [x]) b q') v → Ev (fun k => spec_l92Form.l0 k n out b q) v := by
  intro J
  induction J with
  | zero =>
    intro q hq hQ hj
    obtain ⟨j, hj, hne⟩ := hj
    obtain rfl : j = 0 := by omega
    obtain ⟨xs, q', e, ⟨_, _, h⟩ | ⟨x, rfl, hx, h1, h2⟩⟩ := one_form hb (q := q) hq (by omega)
    · exfalso; apply hne; simpa using h
    · refine ⟨x, q', hx, by omega, by omega, fun v hv => ?_⟩
      apply Ev.step
      · intro k
        simp only [spec_l92Form.l0, if_pos hn, if_pos h0]
        exact rfl
      · refine e.bind ?_
        simp only [if_pos (show out.length + ([x] : List Int).length < 17592186044416 by simp; omega)]
        exact hv
  | succ J ih =>
    intro q hq hQ hj
    obtain ⟨j, hj, hne⟩ := hj
    obtain ⟨xs, q', e, ⟨rfl, rfl, h⟩ | ⟨x, rfl, hx, h1, h2⟩⟩ := one_form hb (q := q) hq (by omega)
    · have hj1 : 1 ≤ j := by
        rcases Nat.eq_zero_or_pos j with h0 | h0
        · exfalso; subst h0; apply hne; simpa using h
        · omega
      obtain ⟨x, q2, hx, h1, h2, h3⟩ := ih (q + 4) (by omega) (by omega) ⟨j - 1, by omega, by rw [show q + 4 + 3 + 4 * ((j - 1 : Nat) : Int) = q + 3 + 4 * (j : Int) by omega]; exact hne⟩
      refine ⟨x, q2, hx, by omega, by omega, fun v hv => ?_⟩
      apply Ev.step
      · intro k
        simp only [spec_l92Form.l0, if_pos hn, if_pos h0]
        exact rfl
      · refine e.bind ?_
        simp only [if_pos (show out.length + ([] : List Int).length < 17592186044416 by simp; omega), List.append_nil]
        exact h3 v hv
    · refine ⟨x, q', hx, by omega, by omega, fun v hv => ?_⟩
      apply Ev.step
      · intro k
        simp only [spec_l92Form.l0, if_pos hn, if_pos h0]
        exact rfl
      · refine e.bind ?_
        simp only [if_pos (show out.length + ([x] : List Int).length < 17592186044416 by simp; omega)]
        exact hv
/-- What the draw of a form that often has a zero gives: the third of three terms may be any. -/
def Good92 (n : Nat) (xs : List Int) : Prop := xs.length ≤ n ∧ (∀ x ∈ xs, x.natAbs ≤ 31) ∧ (formOk xs = true → (∀ x ∈ xs, x ∈ TT) ∨ ∃ a b c, xs = [a, b, c] ∧ a ∈ TT ∧ b ∈ TT ∧ Sm c)
theorem j2_false {b : List Int} {q : Int} {xs : List Int} : Ev (fun k => spec_l92Form.j2 k xs false b q) (xs, q) :=
  Ev.step (f := fun _ => some (xs, q)) (fun k => by simp [spec_l92Form.j2]) (Ev.now _)
theorem form92_end {b : List Int} (hb : BytesB b) {q : Int} (hq : 0 ≤ q) (hQ : q ≤ 999999999999000) {n : Nat} {xs : List Int} (hl : xs.length ≤ n) (hn5 : n ≤ 5) (hx : ∀ x ∈ xs, OneT x) :
    ∃ ys q', Good92 n ys ∧ q ≤ q' ∧ q' ≤ q + 2 ∧ Ev (fun k => spec_l92Form.j1 k xs b q) (ys, q') := by
  have g0 : Good92 n xs := ⟨hl, fun x h => (hx x h).1, fun hk => Or.inl (fun x h => (hx x h).2 ((formOk_iff.1 hk).1 x h))⟩
  by_cases c3 : (xs.length : Int) = 3
  · obtain ⟨v1, h1, g1, e1⟩ := pick_ev hb (p := q) (by omega) (by omega) (n := 2) (by omega)
    have st : ∀ v, Ev (fun k => if v1 = 0 then ((spec_FormValid.f k xs).bind fun t279 => (spec_l92Form.j2 k xs t279 b (q + 1))) else (spec_l92Form.j2 k xs false b (q + 1))) v → Ev (fun k => spec_l92Form.j1 k xs b q) v := by
      intro v hv
      apply Ev.step
      · intro k
        simp only [spec_l92Form.j1, if_pos c3]
        exact rfl
      · exact e1.bind hv
    by_cases c0 : v1 = 0
    · by_cases ck : formOk xs = true
      · obtain ⟨v2, h2, g2, e2⟩ := pick_ev hb (p := q + 1) (by omega) (by omega) (n := 2) (by omega)
        have hk := formOk_iff.1 ck
        obtain ⟨a, bb, c, rfl⟩ : ∃ a b c, xs = [a, b, c] := by
          match xs, c3 with
          | [a, b, c], _ => exact ⟨a, b, c, rfl⟩
          | [], h => simp at h
          | [_], h => simp at h
          | [_, _], h => simp at h
          | _ :: _ :: _ :: _ :: _, h => simp only [List.length_cons] at h; omega
        have ha := hx a (by simp); have hbb := hx bb (by simp)
        have sa := hk.1 a (by simp); have sb := hk.1 bb (by simp)
        have la := sa.2; have lb := sb.2
        have ta := ha.2 sa; have tb := hbb.2 sb
        have hc : v2 = 0 ∨ v2 = 1 := by omega
        have ht : ∃ t : Int, t.natAbs ≤ 90 ∧ wrap64 (wrap64 (-(wrap64 (rd [a, bb, c] 0 * wrap64 (1 + v2)))) - rd [a, bb, c] 1) = t := by
          have r0 : rd [a, bb, c] 0 = a := rfl
          have r1 : rd [a, bb, c] 1 = bb := rfl
          rw [r0, r1]
          rcases hc with rfl | rfl
          · refine ⟨-a - bb, by omega, ?_⟩
            rw [show wrap64 (1 + 0) = 1 from w64 (by omega) (by omega), Int.mul_one]; unfold wrap64; omega
          · refine ⟨-(a * 2) - bb, by omega, ?_⟩
            rw [show wrap64 (1 + 1) = 2 from w64 (by omega) (by omega)]; unfold wrap64; omega
        obtain ⟨t, ht1, ht2⟩ := ht
        have st2 : ∀ v, Ev (fun k => if t = 0 then (some ([a, bb, c], q + 1 + 1)) else ((spec_l1Size.f t).bind fun t284 => (if t284 ≤ 30 then (some (([a, bb, c].set (2 : Int).toNat t), q + 1 + 1)) else (some ([a, bb, c], q + 1 + 1))))) v → Ev (fun k => spec_l92Form.j1 k [a, bb, c] b q) v := by
          intro v hv
          apply st
          simp only [if_pos c0]
          refine (specFormValid_ev (xs := [a, bb, c]) (by simp)).bind ?_
          rw [ck]
          apply Ev.step
          · intro k
            simp only [spec_l92Form.j2, if_true, if_pos (show 0 < (([a, bb, c].length : Nat) : Int) from by simp), if_pos (show 1 < (([a, bb, c].length : Nat) : Int) from by simp), if_pos (show 2 < (([a, bb, c].length : Nat) : Int) from by simp)]
            exact rfl
          · refine e2.bind ?_
            simp only [ht2]
            exact hv
        by_cases t0 : t = 0
        · refine ⟨[a, bb, c], q + 1 + 1, g0, by omega, by omega, st2 _ ?_⟩
          simp only [if_pos t0]; exact Ev.now _
        · by_cases t30 : absI t ≤ 30
          · refine ⟨[a, bb, t], q + 1 + 1, ⟨hl, ?_, fun _ => Or.inr ⟨a, bb, t, rfl, ta, tb, ⟨t0, by unfold absI at t30; omega⟩⟩⟩, by omega, by omega, st2 _ ?_⟩
            · intro x h
              simp only [List.mem_cons, List.not_mem_nil, or_false] at h
              unfold absI at t30
              rcases h with rfl | rfl | rfl <;> omega
            · simp only [if_neg t0, spec_l1Size.f, Option.bind_some, Int.zero_sub, size_ev (n := t) (by omega) (by omega), if_pos t30]
              exact Ev.now _
          · refine ⟨[a, bb, c], q + 1 + 1, g0, by omega, by omega, st2 _ ?_⟩
            simp only [if_neg t0, spec_l1Size.f, Option.bind_some, Int.zero_sub, size_ev (n := t) (by omega) (by omega), if_neg t30]
            exact Ev.now _
      · refine ⟨xs, q + 1, g0, by omega, by omega, st _ ?_⟩
        simp only [if_pos c0]
        refine (specFormValid_ev (xs := xs) (by omega)).bind ?_
        rw [Bool.eq_false_iff.2 ck]
        exact j2_false
    · refine ⟨xs, q + 1, g0, by omega, by omega, st _ ?_⟩
      simp only [if_neg c0]
      exact j2_false
  · refine ⟨xs, q, g0, by omega, by omega, ?_⟩
    refine Ev.step (fun k => ?_) (j2_false (b := b) (q := q) (xs := xs))
    simp only [spec_l92Form.j1, if_neg c3]
theorem form92_l {b : List Int} (hb : BytesB b) (n : Nat) (hn5 : n ≤ 5) : ∀ (d : Nat) (out : List Int) (q : Int), out.length + d = n → 0 < out.length → (∀ x ∈ out, OneT x) → 0 ≤ q → q + 17200000000000 * d ≤ 960000000000000 →
    ∃ ys q', Good92 n ys ∧ q ≤ q' ∧ q' ≤ q + 17200000000000 * d + 2 ∧ Ev (fun k => spec_l92Form.l0 k n out b q) (ys, q') := by
  intro d
  induction d with
  | zero =>
    intro out q hl h0 hx hq hQ
    obtain ⟨ys, q', h1, h2, h3, h4⟩ := form92_end hb hq (by omega) (n := n) (xs := out) (by omega) hn5 hx
    refine ⟨ys, q', h1, h2, by omega, Ev.step (fun k => ?_) h4⟩
    simp only [spec_l92Form.l0, if_neg (show ¬ (out.length : Int) < (n : Int) by omega)]
  | succ d ih =>
    intro out q hl h0 hx hq hQ
    obtain ⟨j, hj, hne⟩ := pick_moves hb (q := q + 3) (by omega) (by omega)
    obtain ⟨x, q1, hx1, h1, h2, h3⟩ := one_more hb (n : Int) out (by omega) (by omega) (by omega) 4294967298000 q hq (by omega) ⟨j, hj, hne⟩
    obtain ⟨ys, q', g1, g2, g3, g4⟩ := ih (out ++ [x]) q1 (by simp; omega) (by simp) (by intro y hy; rcases List.mem_append.1 hy with e | e; exact hx y e; rw [List.mem_singleton.1 e]; exact hx1) (by omega) (by omega)
    exact ⟨ys, q', g1, by omega, by omega, h3 _ g4⟩
theorem form92_draw {b : List Int} (hb : BytesB b) {q : Int} (hq : 0 ≤ q) (n : Nat) (hn1 : 1 ≤ n) (hn5 : n ≤ 4) (hQ : q ≤ 800000000000000) : ∃ ys q', Good92 n ys ∧ q ≤ q' ∧ q' ≤ q + 51700000000000 ∧ Ev (fun k => spec_l92Form.f k b q n) (ys, q') := by
  obtain ⟨xs, q1, e, ⟨rfl, rfl, h⟩ | ⟨x, rfl, hx, h1, h2⟩⟩ := one_form hb (q := q) hq (by omega)
  · obtain ⟨ys, q', h1, h2, h3, h4⟩ := form92_end hb (q := q + 4) (by omega) (by omega) (n := n) (xs := []) (by simp) (by omega) (by simp)
    refine ⟨ys, q', h1, by omega, by omega, ?_⟩
    unfold spec_l92Form.f
    refine e.bind (Ev.step (fun k => ?_) h4)
    simp [spec_l92Form.l0]
  · obtain ⟨d, hd⟩ : ∃ d, n = d + 1 := ⟨n - 1, by omega⟩
    obtain ⟨ys, q', g1, g2, g3, g4⟩ := form92_l hb n (by omega) d [x] q1 (by simp; omega) (by simp) (by intro y hy; rw [List.mem_singleton.1 hy]; exact hx) (by omega) (by omega)
    refine ⟨ys, q', g1, by omega, by omega, ?_⟩
    unfold spec_l92Form.f
    exact e.bind g4


/-! ### roots -/
theorem l5Root_l (n : Int) (h0 : 0 ≤ n) : ∀ (d : Nat) (lo hi : Int) (k : Nat), 0 ≤ lo → lo ≤ hi → hi ≤ 1048576 → (hi - lo).toNat ≤ d → d < k → n ≤ hi * hi → (lo = 0 ∨ (lo - 1) * (lo - 1) < n) →
    spec_l5Root.l0 k n lo hi = some (if isq n * isq n = n then isq n else -1) := by
  intro d
  induction d with
  | zero =>
    intro k_ hi k hlo hle hhi hd hk hn hl
    obtain ⟨k, rfl⟩ : ∃ m, k = m + 1 := ⟨k - 1, by omega⟩
    obtain rfl : k_ = hi := by omega
    simp only [spec_l5Root.l0]
    rw [if_neg (by omega), wmul hlo (by omega) hlo (by omega)]
    by_cases e : k_ * k_ = n
    · have hq : isq n = k_ := by rw [← e]; exact isq_sq hlo
      rw [if_pos e, hq, if_pos e]
    · rw [if_neg e]
      have h1 : (k_ - 1) * (k_ - 1) < n := by
        rcases hl with h | h
        · subst h; omega
        · exact h
      have hp : 0 < k_ := by
        rcases Int.lt_or_le 0 k_ with h | h
        · exact h
        · obtain rfl : k_ = 0 := by omega
          omega
      have hq : isq n = k_ - 1 := isq_unique (by omega) (by omega) (by rw [show k_ - 1 + 1 = k_ from by omega]; omega)
      rw [hq, if_neg (by omega)]
  | succ d ih =>
    intro lo hi k hlo hle hhi hd hk hn hl
    rcases Int.lt_or_le lo hi with hlt | hge
    · obtain ⟨k, rfl⟩ : ∃ m, k = m + 1 := ⟨k - 1, by omega⟩
      simp only [spec_l5Root.l0]
      rw [if_pos hlt]
      have e1 : wrap64 (lo + hi) = lo + hi := w64 (by omega) (by omega)
      have e2 : Int.tdiv (lo + hi) 2 = (lo + hi) / 2 := tdiv2 (by omega)
      have e3 : wrap64 ((lo + hi) / 2) = (lo + hi) / 2 := w64 (by omega) (by omega)
      rw [e1, e2, e3, wmul (a := (lo + hi) / 2) (b := (lo + hi) / 2) (by omega) (by omega) (by omega) (by omega)]
      by_cases c : (lo + hi) / 2 * ((lo + hi) / 2) < n
      · rw [if_pos c, w64 (x := (lo + hi) / 2 + 1) (by omega) (by omega)]
        exact ih _ _ _ (by omega) (by omega) (by omega) (by omega) (by omega) hn (.inr (by rw [show (lo + hi) / 2 + 1 - 1 = (lo + hi) / 2 from by omega]; exact c))
      · rw [if_neg c]
        exact ih _ _ _ (by omega) (by omega) (by omega) (by omega) (by omega) (by omega) hl
    · exact ih _ _ _ hlo hle hhi (by omega) (by omega) hn hl
theorem l5Root (n : Int) (h0 : 0 ≤ n) (hn : n ≤ 1099511627776) (k : Nat) (hk : 1048577 < k) : spec_l5Root.f k n = some (if isq n * isq n = n then isq n else -1) :=
  l5Root_l n h0 1048576 0 1048576 k (by omega) (by omega) (by omega) (by omega) (by omega) (by omega) (.inl rfl)
theorem l5Root_ev (n : Int) (h0 : 0 ≤ n) (hn : n ≤ 1099511627776) : Ev (fun k => spec_l5Root.f k n) (if isq n * isq n = n then isq n else -1) := ⟨1048578, fun k hk => l5Root n h0 hn k (by omega)⟩

theorem squareRoot_l (n : Int) (h0 : 0 ≤ n) (hn : n < 4611686018427387904) : ∀ (d : Nat) (x bit : Int) (k : Nat), 0 ≤ x → x * x ≤ n → n < (x + 2 * bit) * (x + 2 * bit) → x + 2 * bit ≤ 2147483648 → bit = 2 ^ d → d + 1 < k →
    impl_squareRoot.l0 k n x bit = some (isq n, isq n * isq n == n) := by
  intro d
  have stop : ∀ (x : Int) (k : Nat), 0 ≤ x → x * x ≤ n → n < (x + 1) * (x + 1) → 0 < k → impl_squareRoot.l0 k n x 0 = some (isq n, isq n * isq n == n) := by
    intro x k hx hl hg hk
    obtain ⟨k, rfl⟩ : ∃ m, k = m + 1 := ⟨k - 1, by omega⟩
    simp only [impl_squareRoot.l0]
    have hb : x < 2147483648 := by
      rcases Int.lt_or_le x 2147483648 with h | h
      · exact h
      · have := sq_le (by omega) h; omega
    have hm : wrap64 (x * x) = x * x := w64' (sq_nonneg x) (by omega)
    rw [if_neg (by omega), hm, isq_unique hx hl hg]
  induction d with
  | zero =>
    intro x bit k hx hl hg hB hb hk
    obtain ⟨k, rfl⟩ : ∃ m, k = m + 1 := ⟨k - 1, by omega⟩
    obtain rfl : bit = 1 := by simpa using hb
    simp only [impl_squareRoot.l0]
    have hs := sq_le (a := x + 1) (b := 2147483648) (by omega) (by omega)
    rw [if_pos (by omega), w64 (x := x + 1) (by omega) (by omega), w64' (x := (x + 1) * (x + 1)) (sq_nonneg _) (by omega)]
    have e : wrap64 (Int.tdiv 1 2) = 0 := by decide +kernel
    rw [e]
    by_cases c : (x + 1) * (x + 1) ≤ n
    · rw [if_pos c]
      exact stop _ _ (by omega) c (by rw [show x + 1 + 1 = x + 2 * 1 from by omega]; exact hg) (by omega)
    · rw [if_neg c]
      exact stop _ _ hx hl (by omega) (by omega)
  | succ d ih =>
    intro x bit k hx hl hg hB hb hk
    obtain ⟨k, rfl⟩ : ∃ m, k = m + 1 := ⟨k - 1, by omega⟩
    have hp : (0 : Int) < 2 ^ d := Int.pow_pos (by omega)
    obtain ⟨c2, hc2⟩ : ∃ c2 : Int, c2 = 2 ^ d := ⟨_, rfl⟩
    have hb2 : bit = 2 * c2 := by rw [hb, Int.pow_succ, hc2]; omega
    subst hb2
    simp only [impl_squareRoot.l0]
    have hs := sq_le (a := x + 2 * c2) (b := 2147483648) (by omega) (by omega)
    have e : wrap64 (Int.tdiv (2 * c2) 2) = c2 := by rw [tdiv2 (by omega), w64 (by omega) (by omega)]; omega
    rw [if_pos (by omega), w64 (x := x + 2 * c2) (by omega) (by omega), w64' (x := (x + 2 * c2) * (x + 2 * c2)) (sq_nonneg _) (by omega), e]
    by_cases c : (x + 2 * c2) * (x + 2 * c2) ≤ n
    · rw [if_pos c]
      exact ih _ _ _ (by omega) c (by rw [show x + 2 * c2 + 2 * c2 = x + 2 * (2 * c2) from by omega]; exact hg) (by omega) hc2 (by omega)
    · rw [if_neg c]
      exact ih _ _ _ hx hl (by omega) (by omega) hc2 (by omega)
theorem squareRoot (n : Int) (h0 : 0 ≤ n) (hn : n < 4611686018427387904) (k : Nat) (hk : 31 < k) : impl_squareRoot.f k n = some (isq n, isq n * isq n == n) := by
  unfold impl_squareRoot.f
  rw [if_neg (by omega)]
  exact squareRoot_l n h0 hn 30 0 1073741824 k (by omega) (by omega) (by omega) (by omega) (by decide) (by omega)
theorem squareRoot_ev (n : Int) (h0 : 0 ≤ n) (hn : n < 4611686018427387904) : Ev (fun k => impl_squareRoot.f k n) (isq n, isq n * isq n == n) := ⟨32, fun k hk => squareRoot n h0 hn k (by omega)⟩


/-! ### what divides all; plain vectors -/
theorem gI_step {a n : Int} : gI a n = gI n (a.tmod n) := by
  have e := Int.mul_tdiv_add_tmod a n
  refine dvd_anti (gI_nonneg _ _) (gI_nonneg _ _) (dvd_gI (gI_dvd a n).2 ?_) (dvd_gI ?_ (gI_dvd n _).1)
  · have h1 := (gI_dvd a n).1
    have h2 : gI a n ∣ n * a.tdiv n := Int.dvd_trans (gI_dvd a n).2 (Int.dvd_mul_right _ _)
    have h3 := Int.dvd_sub h1 h2
    rw [show a - n * a.tdiv n = a.tmod n by omega] at h3
    exact h3
  · have h1 := (gI_dvd n (a.tmod n)).2
    have h2 : gI n (a.tmod n) ∣ n * a.tdiv n := Int.dvd_trans (gI_dvd n (a.tmod n)).1 (Int.dvd_mul_right _ _)
    have h3 := Int.dvd_add h2 h1
    rw [e] at h3
    exact h3
theorem gI_abs (a b : Int) : gI a (absI b) = gI a b := by unfold gI absI; simp [Int.gcd]
theorem gI_abs2 (a b : Int) : gI (absI a) b = gI a b := by rw [gI_comm, gI_abs, gI_comm]
theorem gI_zero {a : Int} (h : 0 ≤ a) : gI a 0 = a := by unfold gI; rw [Int.gcd_zero_right]; omega
theorem tmod_bd {a n : Int} (ha : 0 ≤ a) (hn : 0 < n) : 0 ≤ a.tmod n ∧ a.tmod n < n := ⟨Int.tmod_nonneg n ha, by rw [Int.tmod_eq_emod_of_nonneg ha]; exact Int.emod_lt_of_pos a hn⟩
theorem gcdIn_l (xs : List Int) (j : Nat) (hj : j < 1000000) (v : Int) : ∀ (d : Nat) (a n : Int), 0 ≤ a → 0 ≤ n → n.toNat ≤ d →
    Ev (fun k => impl_gcd.l0 k (gI a n) xs (xs.length : Int) ((j + 1 : Nat) : Int)) v → Ev (fun k => impl_gcd.l1 k a n xs (xs.length : Int) j) v := by
  intro d
  induction d with
  | zero =>
    intro a n ha hn hd hv
    obtain rfl : n = 0 := by omega
    rw [gI_zero ha] at hv
    refine Ev.step (fun k => ?_) hv
    simp only [impl_gcd.l1]
    rw [if_pos trivial, w64 (x := (j : Int) + 1) (by omega) (by omega)]
    rfl
  | succ d ih =>
    intro a n ha hn hd hv
    by_cases c : n = 0
    · subst c
      rw [gI_zero ha] at hv
      refine Ev.step (fun k => ?_) hv
      simp only [impl_gcd.l1]
      rw [if_pos trivial, w64 (x := (j : Int) + 1) (by omega) (by omega)]
      rfl
    · have hb := tmod_bd ha (show 0 < n by omega)
      rw [gI_step] at hv
      refine Ev.step (fun k => ?_) (ih n (a.tmod n) hn hb.1 (by omega) hv)
      simp only [impl_gcd.l1]
      rw [if_neg c]
theorem gcd_l (xs : List Int) (hx : ∀ x ∈ xs, x.natAbs ≤ 4000000000000000000) (hl : xs.length ≤ 100000) : ∀ (d j : Nat) (g : Int), j + d = xs.length → 0 ≤ g →
    Ev (fun k => impl_gcd.l0 k g xs (xs.length : Int) j) (gcdL (xs.drop j) g) := by
  intro d
  induction d with
  | zero =>
    intro j g hj hg
    rw [List.drop_of_length_le (by omega)]
    refine Ev.step (f := fun _ => some g) (fun k => ?_) (Ev.now _)
    simp only [impl_gcd.l0]
    rw [if_neg (by omega)]
  | succ d ih =>
    intro j g hj hg
    rw [rd_drop (show j < xs.length by omega)]
    have hm := hx _ (rd_mem (xs := xs) (j := j) (by omega))
    refine Ev.step (f := fun k => impl_gcd.l1 k g (absI (rd xs (j : Int))) xs (xs.length : Int) j) (fun k => ?_) ?_
    · simp only [impl_gcd.l0]
      rw [if_pos (by omega), if_pos (by omega), if_pos (by omega)]
      simp only [impl_size.f, Option.bind_some]
      rw [size_ev (n := rd xs (j : Int)) (by omega) (by omega)]
    · refine gcdIn_l xs j (by omega) _ (absI (rd xs (j : Int))).toNat g (absI (rd xs (j : Int))) hg (absI_bd _) (by omega) ?_
      rw [gI_abs]
      exact ih (j + 1) (gI g (rd xs (j : Int))) (by omega) (gI_nonneg _ _)
theorem gcd_ev (xs : List Int) (hx : ∀ x ∈ xs, x.natAbs ≤ 4000000000000000000) (hl : xs.length ≤ 100000) : Ev (fun k => impl_gcd.f k xs) (gcdF xs) := by
  unfold impl_gcd.f
  have := gcd_l xs hx hl xs.length 0 0 (by omega) (by omega)
  rw [List.drop_zero] at this
  exact this
theorem l1Gcd_l : ∀ (d : Nat) (a n : Int), 0 ≤ a → 0 ≤ n → n.toNat ≤ d → Ev (fun k => spec_l1Gcd.l0 k a n) (gI a n) := by
  intro d
  induction d with
  | zero =>
    intro a n ha hn hd
    obtain rfl : n = 0 := by omega
    rw [gI_zero ha]
    refine Ev.step (f := fun _ => some a) (fun k => ?_) (Ev.now _)
    simp only [spec_l1Gcd.l0]
    rw [if_pos trivial]
  | succ d ih =>
    intro a n ha hn hd
    by_cases c : n = 0
    · subst c
      rw [gI_zero ha]
      refine Ev.step (f := fun _ => some a) (fun k => ?_) (Ev.now _)
      simp only [spec_l1Gcd.l0]
      rw [if_pos trivial]
    · have hb := tmod_bd ha (show 0 < n by omega)
      rw [gI_step]
      refine Ev.step (fun k => ?_) (ih n (a.tmod n) hn hb.1 (by omega))
      simp only [spec_l1Gcd.l0]
      rw [if_neg c]
theorem l1Gcd_ev {a b : Int} (ha : a.natAbs ≤ 4000000000000000000) (hb : b.natAbs ≤ 4000000000000000000) : Ev (fun k => spec_l1Gcd.f k a b) (gI a b) := by
  simp only [spec_l1Gcd.f, spec_l1Size.f, Option.bind_some]
  rw [size_ev (by omega) (by omega), size_ev (by omega) (by omega), ← gI_abs a b, ← gI_abs2 a]
  exact l1Gcd_l _ _ _ (absI_bd _) (absI_bd _) (Nat.le_refl _)


theorem wr_tdiv {x d : Int} (h : x.natAbs ≤ 4000000000000000000) : wrap64 (x.tdiv d) = x.tdiv d := by
  have := tdiv_small (x := x) (d := d)
  exact w64 (by omega) (by omega)
theorem plain1_l {d : Int} (hd : d ≠ 0) (xs : List Int) (hx : ∀ x ∈ xs, x.natAbs ≤ 4000000000000000000) (hl : xs.length ≤ 100000) : ∀ (m j : Nat) (out : List Int), j + m = xs.length → out.length ≤ 5000 + j →
    Ev (fun k => impl_plain.l1 k d out xs (xs.length : Int) j) (out ++ (xs.drop j).map fun x => x.tdiv d) := by
  intro m
  induction m with
  | zero =>
    intro j out hj ho
    rw [List.drop_of_length_le (by omega)]
    refine Ev.step (f := fun _ => some out) (fun k => ?_) (by simpa using Ev.now _)
    simp only [impl_plain.l1]
    rw [if_neg (by omega)]
  | succ m ih =>
    intro j out hj ho
    rw [rd_drop (show j < xs.length by omega), List.map_cons]
    have hm := hx _ (rd_mem (xs := xs) (j := j) (by omega))
    have h2 := ih (j + 1) (out ++ [(rd xs (j : Int)).tdiv d]) (by omega) (by simp; omega)
    rw [List.append_assoc] at h2
    refine Ev.step (fun k => ?_) h2
    simp only [impl_plain.l1]
    rw [if_pos (by omega), if_pos (by omega), if_pos (by omega), if_neg hd, if_pos (by omega), wr_tdiv hm, w64 (x := (j : Int) + 1) (by omega) (by omega)]
    rfl
theorem plain0_l (xs : List Int) (hx : ∀ x ∈ xs, x.natAbs ≤ 4000000000000000000) (hl : xs.length ≤ 100000) (g : Int) (hg : 0 ≤ g) (hG : g ≤ 4000000000000000000) (v : List Int) : ∀ (m j : Nat), j + m = xs.length →
    Ev (fun k => impl_plain.j1 k xs (signF (xs.drop j) g)) v → Ev (fun k => impl_plain.l0 k xs g xs (xs.length : Int) j) v := by
  intro m
  induction m with
  | zero =>
    intro j hj hv
    rw [List.drop_of_length_le (by omega)] at hv
    refine Ev.step (fun k => ?_) hv
    simp only [impl_plain.l0, signF]
    rw [if_neg (by omega)]
  | succ m ih =>
    intro j hj hv
    rw [rd_drop (show j < xs.length by omega)] at hv
    simp only [signF] at hv
    by_cases c : rd xs (j : Int) = 0
    · rw [if_pos c] at hv
      refine Ev.step (fun k => ?_) (ih (j + 1) (by omega) hv)
      simp only [impl_plain.l0]
      rw [if_pos (by omega), if_pos (by omega), if_pos (by omega), if_pos c, w64 (x := (j : Int) + 1) (by omega) (by omega)]
      rfl
    · rw [if_neg c] at hv
      refine Ev.step (fun k => ?_) hv
      simp only [impl_plain.l0]
      rw [if_pos (by omega), if_pos (by omega), if_pos (by omega), if_neg c]
      by_cases c2 : rd xs (j : Int) < 0
      · rw [if_pos c2, if_pos c2, w64 (x := -g) (by omega) (by omega)]
      · rw [if_neg c2, if_neg c2]
theorem gcdF_bd {xs : List Int} {M : Nat} (h : ∃ x ∈ xs, x ≠ 0) (hx : ∀ x ∈ xs, x.natAbs ≤ M) : gcdF xs ≤ M := by
  obtain ⟨x, hm, h0⟩ := h
  have h1 := (gcdF_spec xs).2.1 x hm
  have h2 := Nat.le_of_dvd (by omega) (Int.natAbs_dvd_natAbs.2 h1)
  have h3 := hx x hm
  have := (gcdF_spec xs).1
  omega
theorem plain_ev {xs : List Int} (h : ∃ x ∈ xs, x ≠ 0) (hx : ∀ x ∈ xs, x.natAbs ≤ 4000000000000000000) (hl : xs.length ≤ 100000) : Ev (fun k => impl_plain.f k xs) (plainF xs) := by
  unfold impl_plain.f
  refine (gcd_ev xs hx hl).bind ?_
  refine plain0_l xs hx hl _ (gcdF_spec xs).1 (by have := gcdF_bd h hx; omega) _ xs.length 0 (by omega) ?_
  rw [List.drop_zero]
  refine Ev.step (f := fun k => impl_plain.l1 k (signF xs (gcdF xs)) [] xs (xs.length : Int) (0 : Nat)) (fun k => by simp only [impl_plain.j1]; rfl) ?_
  have := plain1_l (signF_ne h) xs hx hl xs.length 0 [] (by omega) (by simp)
  rw [List.drop_zero, List.nil_append] at this
  exact this
theorem signF_one : ∀ (xs : List Int) (d : Int), signF xs d = signF xs 1 * d
  | [], d => by simp [signF]
  | x :: xs, d => by
    simp only [signF]
    split
    · exact signF_one xs d
    · split <;> omega
theorem sign_tdiv {s x g : Int} (hs : s = 1 ∨ s = -1) : (s * x).tdiv g = x.tdiv (s * g) := by
  rcases hs with rfl | rfl
  · rw [Int.one_mul, Int.one_mul]
  · rw [Int.neg_mul, Int.one_mul, Int.neg_mul, Int.one_mul, Int.neg_tdiv, Int.tdiv_neg]
theorem l5Plain1_l {g s : Int} (hg : g ≠ 0) (hs : s = 1 ∨ s = -1) (xs : List Int) (hx : ∀ x ∈ xs, x.natAbs ≤ 4000000000000000000) (hl : xs.length ≤ 100000) : ∀ (m j : Nat) (out : List Int), j + m = xs.length → out.length ≤ 5000 + j →
    Ev (fun k => spec_l5Plain.l1 k xs g s out j) (out ++ (xs.drop j).map fun x => x.tdiv (s * g)) := by
  intro m
  induction m with
  | zero =>
    intro j out hj ho
    rw [List.drop_of_length_le (by omega)]
    refine Ev.step (f := fun _ => some out) (fun k => ?_) (by simpa using Ev.now _)
    simp only [spec_l5Plain.l1]
    rw [if_neg (by omega)]
  | succ m ih =>
    intro j out hj ho
    rw [rd_drop (show j < xs.length by omega), List.map_cons]
    have hm := hx _ (rd_mem (xs := xs) (j := j) (by omega))
    have h2 := ih (j + 1) (out ++ [(rd xs (j : Int)).tdiv (s * g)]) (by omega) (by simp; omega)
    rw [List.append_assoc] at h2
    have e1 : wrap64 (s * rd xs (j : Int)) = s * rd xs (j : Int) := w64 (by rcases hs with rfl | rfl <;> omega) (by rcases hs with rfl | rfl <;> omega)
    refine Ev.step (fun k => ?_) h2
    simp only [spec_l5Plain.l1]
    rw [if_pos (by omega), if_pos (by omega), if_neg hg, if_pos (by omega), e1, sign_tdiv hs, wr_tdiv hm, w64 (x := (j : Int) + 1) (by omega) (by omega)]
    rfl
theorem gcdL_bd : ∀ (xs : List Int) (g : Int), 0 ≤ g → g ≤ 4000000000000000000 → (∀ x ∈ xs, x.natAbs ≤ 4000000000000000000) → gI g (xs.headD 0) ≤ 4000000000000000000 := by
  intro xs g h0 h1 hx
  by_cases c : g = 0
  · subst c
    by_cases c2 : xs.headD 0 = 0
    · rw [c2]; unfold gI; simp
    · have h2 := gI_le (b := 0) c2
      rw [gI_comm] at h2
      cases xs with
      | nil => simp at c2
      | cons x xs =>
        have := hx x (by simp)
        simp only [List.headD_cons] at h2 ⊢
        omega
  · have := gI_le (b := xs.headD 0) c; omega
theorem l5Plain0_l (xs : List Int) (hx : ∀ x ∈ xs, x.natAbs ≤ 4000000000000000000) (hl : xs.length ≤ 100000) (v : List Int) : ∀ (m j : Nat) (g s : Int) (b : Bool), j + m = xs.length → 0 ≤ g → g ≤ 4000000000000000000 → (b = true → s = 1) →
    Ev (fun k => spec_l5Plain.l1 k xs (gcdL (xs.drop j) g) (if b then signF (xs.drop j) 1 else s) [] 0) v → Ev (fun k => spec_l5Plain.l0 k xs g s b j) v := by
  intro m
  induction m with
  | zero =>
    intro j g s b hj h0 h1 hb hv
    rw [List.drop_of_length_le (by omega)] at hv
    refine Ev.step (fun k => ?_) hv
    simp only [spec_l5Plain.l0, gcdL, signF]
    rw [if_neg (by omega)]
    cases b with
    | true => rw [hb rfl]; rfl
    | false => rfl
  | succ m ih =>
    intro j g s b hj h0 h1 hb hv
    have hm := hx _ (rd_mem (xs := xs) (j := j) (by omega))
    have hG := gcdL_bd (xs.drop j) g h0 h1 (fun x hx' => hx x (List.mem_of_mem_drop hx'))
    rw [rd_drop (show j < xs.length by omega)] at hv hG
    simp only [gcdL, signF, List.headD_cons] at hv hG
    apply Ev.step
    · intro k
      simp only [spec_l5Plain.l0]
      rw [if_pos (by omega), if_pos (by omega)]
    · refine (l1Gcd_ev (a := g) (b := rd xs (j : Int)) (by omega) (by omega)).bind ?_
      by_cases c : rd xs (j : Int) = 0
      · simp only [if_pos c] at hv ⊢
        refine Ev.step (fun k => ?_) (ih (j + 1) _ s b (by omega) (gI_nonneg _ _) hG hb hv)
        simp only [spec_l5Plain.j1]
        rw [if_neg (by simp), w64 (x := (j : Int) + 1) (by omega) (by omega)]
        rfl
      · simp only [if_neg c] at hv ⊢
        cases b with
        | false =>
          refine Ev.step (fun k => ?_) (ih (j + 1) _ s false (by omega) (gI_nonneg _ _) hG hb hv)
          simp only [spec_l5Plain.j1]
          rw [if_neg (by simp), w64 (x := (j : Int) + 1) (by omega) (by omega)]
          rfl
        | true =>
          obtain rfl := hb rfl
          by_cases c2 : rd xs (j : Int) < 0
          · simp only [if_pos c2, if_true] at hv
            refine Ev.step (fun k => ?_) (ih (j + 1) _ (-1) false (by omega) (gI_nonneg _ _) hG (by simp) (by simpa using hv))
            simp only [spec_l5Plain.j1]
            rw [if_pos trivial, if_pos (by omega), if_pos (by omega), if_pos c2, w64 (x := (j : Int) + 1) (by omega) (by omega)]
            rfl
          · simp only [if_neg c2, if_true] at hv
            refine Ev.step (fun k => ?_) (ih (j + 1) _ 1 false (by omega) (gI_nonneg _ _) hG (by simp) (by simpa using hv))
            simp only [spec_l5Plain.j1]
            rw [if_pos trivial, if_pos (by omega), if_pos (by omega), if_neg c2, w64 (x := (j : Int) + 1) (by omega) (by omega)]
            rfl
theorem l5Plain_ev {xs : List Int} (h : ∃ x ∈ xs, x ≠ 0) (hx : ∀ x ∈ xs, x.natAbs ≤ 4000000000000000000) (hl : xs.length ≤ 100000) : Ev (fun k => spec_l5Plain.f k xs) (plainF xs) := by
  unfold spec_l5Plain.f
  refine l5Plain0_l xs hx hl _ xs.length 0 0 1 true (by omega) (by omega) (by omega) (fun _ => rfl) ?_
  rw [List.drop_zero]
  simp only [if_true]
  have h1 : signF xs 1 = 1 ∨ signF xs 1 = -1 := signF_or xs 1
  have := l5Plain1_l (g := gcdF xs) (gcdF_ne h) h1 xs hx hl xs.length 0 [] (by omega) (by simp)
  rw [List.drop_zero, List.nil_append, ← signF_one] at this
  exact this


/-! ### normal terms -/
theorem Ev_eq {α : Type} {f g : Nat → Option α} {v : α} (h : ∀ k, f k = g k) (hg : Ev g v) : Ev f v := by
  have : f = g := funext h
  rw [this]; exact hg
def shP (a b c : Int) : Int × Int × Int := if 1 < gI a b then (0, 1, minP (gI a b)) else if 1 < gI a c then (0, 2, minP (gI a c)) else if 1 < gI b c then (1, 2, minP (gI b c)) else (0, 0, 0)
theorem gcdF_two (a b : Int) : gcdF [a, b] = gI a b := by
  unfold gcdF
  simp only [gcdL]
  have : gI 0 a = absI a := by unfold gI absI; rw [Int.gcd_zero_left]
  rw [this, gI_abs2]
theorem primes_pos {d : Int} (h : 1 < d) (hN : d.natAbs < 2 ^ 63) : 0 < (primes d).length := (minP_spec h hN).2.2
theorem shAt_ev {l0 : List Int} {p q a b : Int} {next : Nat → Option (Int × Int × Int)} {v : Int × Int × Int} (hp : rd l0 p = a) (hq : rd l0 q = b) (ha : a ≠ 0) (hA : a.natAbs ≤ 1000000000) (hB : b.natAbs ≤ 1000000000)
    (hn : ¬ 1 < gI a b → Ev next v) (hv : 1 < gI a b → v = (p, q, minP (gI a b))) : Ev (fun k => shAt l0 k p q (next k)) v := by
  unfold shAt
  rw [hp, hq]
  refine (gcd_ev [a, b] (by intro x hx; simp at hx; rcases hx with rfl | rfl <;> omega) (by simp)).bind ?_
  rw [gcdF_two]
  have h1 := gI_le (b := b) ha
  have h2 := gI_nonneg a b
  by_cases c : 1 < gI a b
  · refine Ev_eq (g := fun k => (impl_primesOf.f k (gI a b)).bind fun ps => if 0 < ps.length then some (p, q, rd ps 0) else none) (fun k => if_pos c) ?_
    refine (primesOf_ev (n := gI a b) (by omega) (by omega)).bind ?_
    refine Ev_eq (g := fun _ => some (p, q, rd (primes (gI a b)) 0)) (fun k => if_pos (primes_pos c (by omega))) ?_
    rw [hv c]; exact Ev.now _
  · exact Ev_eq (fun k => if_neg c) (hn c)
theorem shared_ev {a b c : Int} (ha : a ≠ 0) (hb : b ≠ 0) (hA : a.natAbs ≤ 1000000000) (hB : b.natAbs ≤ 1000000000) (hC : c.natAbs ≤ 1000000000) : Ev (fun k => impl_sharedPrime.f k [a, b, c]) (shP a b c) := by
  refine Ev_eq (g := fun k => shAt [a, b, c] k 0 1 (shAt [a, b, c] k 0 2 (shAt [a, b, c] k 1 2 (some (0, 0, 0))))) (fun k => by unfold impl_sharedPrime.f shF; exact if_pos (by simp)) ?_
  unfold shP
  refine shAt_ev (a := a) (b := b) rfl rfl ha hA hB (fun h1 => ?_) (fun h1 => if_pos h1)
  rw [if_neg h1]
  refine shAt_ev (a := a) (b := c) rfl rfl ha hA hC (fun h2 => ?_) (fun h2 => if_pos h2)
  rw [if_neg h2]
  refine shAt_ev (a := b) (b := c) rfl rfl hb hB hC (fun h3 => ?_) (fun h3 => if_pos h3)
  rw [if_neg h3]
  exact Ev.now _
def twoP (a b c : Int) : Int × Int := if 1 < gI a b then (minP (gI a b), 2) else if 1 < gI a c then (minP (gI a c), 1) else if 1 < gI b c then (minP (gI b c), 0) else (1, 0)
theorem l5TwoAt {xs : List Int} {t p q a b : Int} {v : Int × Int} (ht : 0 ≤ t) (ht2 : t ≤ 2) (hp : (wrap64 (t + 1)).tmod 3 = p) (hq : (wrap64 (t + 2)).tmod 3 = q) (hp0 : 0 ≤ p) (hp1 : p < xs.length) (hq0 : 0 ≤ q) (hq1 : q < xs.length)
    (hpa : rd xs p = a) (hqb : rd xs q = b) (ha : a ≠ 0) (hA : a.natAbs ≤ 1000000000) (hB : b.natAbs ≤ 1000000000)
    (hn : ¬ 1 < gI a b → Ev (fun k => spec_l5Two.l0 k xs (t - 1)) v) (hv : 1 < gI a b → v = (minP (gI a b), t)) : Ev (fun k => spec_l5Two.l0 k xs t) v := by
  apply Ev.step
  · intro k
    simp only [spec_l5Two.l0]
    rw [if_pos ht, hp, hq, if_pos hp0, if_pos hp1, if_pos hq0, if_pos hq1, hpa, hqb, w64 (x := t - 1) (by omega) (by omega)]
  · refine (l1Gcd_ev (a := a) (b := b) (by omega) (by omega)).bind ?_
    have h1 := gI_le (b := b) ha
    have h2 := gI_nonneg a b
    by_cases c : 1 < gI a b
    · refine Ev_eq (g := fun k => (spec_l1Primes.f k (gI a b)).bind fun ps => if 0 < (ps.length : Int) then some (rd ps 0, t) else none) (fun k => if_pos c) ?_
      refine (l1Primes_ev (n := gI a b) (by omega) (by omega)).bind ?_
      refine Ev_eq (g := fun _ => some (rd (primes (gI a b)) 0, t)) (fun k => if_pos (by have := primes_pos c (by omega); omega)) ?_
      rw [hv c]; exact Ev.now _
    · exact Ev_eq (fun k => if_neg c) (hn c)
theorem l5Two_ev {a b c : Int} (ha : a ≠ 0) (hb : b ≠ 0) (hc : c ≠ 0) (hA : a.natAbs ≤ 1000000000) (hB : b.natAbs ≤ 1000000000) (hC : c.natAbs ≤ 1000000000) : Ev (fun k => spec_l5Two.f k [a, b, c]) (twoP a b c) := by
  unfold spec_l5Two.f twoP
  refine l5TwoAt (p := 0) (q := 1) (a := a) (b := b) (by omega) (by omega) (by decide +kernel) (by decide +kernel) (by omega) (by simp) (by omega) (by simp) rfl rfl ha hA hB (fun h1 => ?_) (fun h1 => if_pos h1)
  rw [if_neg h1]
  refine l5TwoAt (t := 1) (p := 2) (q := 0) (a := c) (b := a) (by omega) (by omega) (by decide +kernel) (by decide +kernel) (by omega) (by simp) (by omega) (by simp) rfl rfl hc hC hA (fun h2 => ?_) (fun h2 => ?_)
  · rw [gI_comm] at h2
    rw [if_neg h2]
    refine l5TwoAt (t := 0) (p := 1) (q := 2) (a := b) (b := c) (by omega) (by omega) (by decide +kernel) (by decide +kernel) (by omega) (by simp) (by omega) (by simp) rfl rfl hb hB hC (fun h3 => ?_) (fun h3 => if_pos h3)
    rw [if_neg h3]
    refine Ev.step (f := fun _ => some (1, 0)) (fun k => ?_) (Ev.now _)
    simp only [spec_l5Two.l0]
    rw [if_neg (by omega)]
  · rw [if_pos (show 1 < gI a c by rw [gI_comm]; exact h2), gI_comm c a]


theorem rd0 (a b c : Int) : rd [a, b, c] 0 = a := rfl
theorem rd1 (a b c : Int) : rd [a, b, c] 1 = b := rfl
theorem rd2 (a b c : Int) : rd [a, b, c] 2 = c := rfl
theorem st0 (a b c v : Int) : [a, b, c].set ((0 : Int)).toNat v = [v, b, c] := rfl
theorem st1 (a b c v : Int) : [a, b, c].set ((1 : Int)).toNat v = [a, v, c] := rfl
theorem st2 (a b c v : Int) : [a, b, c].set ((2 : Int)).toNat v = [a, b, v] := rfl
def outN (s : T6) : List Int × List Int := ([s.1.1, s.1.2.1, s.1.2.2], [s.2.1, s.2.2.1, s.2.2.2])
def outN3 (s : T6) : List Int × List Int × Bool := ([s.1.1, s.1.2.1, s.1.2.2], [s.2.1, s.2.2.1, s.2.2.2], true)
theorem ni_small {A B C l a b c x y z : Int} {M : Nat} (h : NI A B C M l a b c x y z) (hM : M ≤ 1000000000) : a.natAbs ≤ 1000000000 ∧ b.natAbs ≤ 1000000000 ∧ c.natAbs ≤ 1000000000 ∧ x ≤ 40000 ∧ y ≤ 40000 ∧ z ≤ 40000 := by
  have h1 := h.bd
  have h2 := h.turn.bd
  have h3 := h.back.bd
  have lt : ∀ {t : Int}, 1 ≤ t → t * t ≤ (M : Int) → t ≤ 40000 := fun {t} p q => by have := lt_of_sq (a := t) (b := 40001) (by omega) (by omega); omega
  exact ⟨by omega, by omega, by omega, lt h.hx h1.2.1, lt h.hy h2.2.1, lt h.hz h3.2.1⟩
theorem w_tdiv {a p : Int} (h : a.natAbs ≤ 1000000000) : wrap64 (a.tdiv p) = a.tdiv p := wr_tdiv (by omega)
theorem normal1_l {A B C : Int} {M : Nat} (hM : M ≤ 1000000000) : ∀ (m : Nat) (l a b c x y z : Int), NI A B C M l a b c x y z → (a * b * c).natAbs < 2 ^ m →
    Ev (fun k => impl_ZeroNormal.l1 k [a, b, c] [x, y, z]) (outN3 (nrm m a b c x y z)) := by
  intro m
  induction m with
  | zero =>
    intro l a b c x y z h hk
    have := Int.mul_ne_zero (Int.mul_ne_zero h.sa.1 h.sb.1) h.sc.1
    omega
  | succ m ih =>
    intro l a b c x y z h hk
    rw [Nat.pow_succ] at hk
    obtain ⟨b1, b2, b3, b4, b5, b6⟩ := ni_small h hM
    apply Ev.step
    · intro k
      simp only [impl_ZeroNormal.l1]
      rfl
    refine (shared_ev h.sa.1 h.sb.1 b1 b2 b3).bind ?_
    simp only [nrm]
    by_cases g1 : 1 < gI a b
    · simp only [shP, if_pos g1]
      obtain ⟨pp, pa, pb, _⟩ := gp h (by omega) g1
      have p2 := pp.1
      generalize minP (gI a b) = p at *
      have e3 : wrap64 (wrap64 (3 - 0) - 1) = 2 := by decide +kernel
      by_cases c1 : c.tmod p = 0
      · simp only [if_pos c1]
        obtain ⟨h1, h2⟩ := h.div3 pp pa pb (dvd_tmod.1 c1)
        refine Ev_eq (fun k => ?_) (ih _ _ _ _ _ _ _ h1 (by omega))
        rw [if_neg (by omega), if_pos (by omega), if_pos (by simp), Option.bind_some, if_pos (by omega), if_pos (by simp), Option.bind_some, e3, if_pos (by omega), if_pos (by simp)]
        simp only [rd0, rd1, rd2, st0, st1, st2, w_tdiv b1, w_tdiv b2, w_tdiv b3]
        rw [if_pos c1]
      · simp only [if_neg c1]
        obtain ⟨h1, h2⟩ := h.div2 pp pa pb (fun e => c1 (dvd_tmod.2 e))
        obtain ⟨s1, s2, s3, s4, s5, s6⟩ := ni_small h1 hM
        refine Ev_eq (fun k => ?_) (ih _ _ _ _ _ _ _ h1 (by omega))
        rw [if_neg (by omega), if_pos (by omega), if_pos (by simp), Option.bind_some, if_pos (by omega), if_pos (by simp), Option.bind_some, e3, if_pos (by omega), if_pos (by simp)]
        have hz := h1.hz
        simp only [rd0, rd1, rd2, st0, st1, st2, w_tdiv b1, w_tdiv b2]
        rw [if_neg c1, if_pos (by simp), w64 (x := c * p) (by omega) (by omega), w64 (x := z * p) (by omega) (by omega)]
    · simp only [shP, if_neg g1]
      by_cases g2 : 1 < gI a c
      · simp only [if_pos g2]
        obtain ⟨pp, pa, pb, _⟩ := gp h.swap (by omega) g2
        have p2 := pp.1
        generalize minP (gI a c) = p at *
        have e3 : wrap64 (wrap64 (3 - 0) - 2) = 1 := by decide +kernel
        by_cases c1 : b.tmod p = 0
        · simp only [if_pos c1]
          obtain ⟨h1, h2⟩ := h.div3 pp pa (dvd_tmod.1 c1) pb
          refine Ev_eq (fun k => ?_) (ih _ _ _ _ _ _ _ h1 (by omega))
          rw [if_neg (by omega), if_pos (by omega), if_pos (by simp), Option.bind_some, if_pos (by omega), if_pos (by simp), Option.bind_some, e3, if_pos (by omega), if_pos (by simp)]
          simp only [rd0, rd1, rd2, st0, st1, st2, w_tdiv b1, w_tdiv b2, w_tdiv b3]
          rw [if_pos c1]
        · simp only [if_neg c1]
          obtain ⟨h1, h2⟩ := h.swap.div2 pp pa pb (fun e => c1 (dvd_tmod.2 e))
          obtain ⟨s1, s2, s3, s4, s5, s6⟩ := ni_small h1 hM
          refine Ev_eq (fun k => ?_) (ih _ _ _ _ _ _ _ h1.swap ?_)
          · rw [if_neg (by omega), if_pos (by omega), if_pos (by simp), Option.bind_some, if_pos (by omega), if_pos (by simp), Option.bind_some, e3, if_pos (by omega), if_pos (by simp)]
            have hz := h1.hz
            simp only [rd0, rd1, rd2, st0, st1, st2, w_tdiv b1, w_tdiv b3]
            rw [if_neg c1, if_pos (by simp), w64 (x := b * p) (by omega) (by omega), w64 (x := y * p) (by omega) (by omega)]
          · rw [show a.tdiv p * (b * p) * c.tdiv p = a.tdiv p * c.tdiv p * (b * p) by grind]
            rw [show a * c * b = a * b * c by grind] at h2
            omega
      · simp only [if_neg g2]
        by_cases g3 : 1 < gI b c
        · simp only [if_pos g3]
          obtain ⟨pp, pa, pb, _⟩ := gp h.turn (by omega) g3
          have p2 := pp.1
          generalize minP (gI b c) = p at *
          have e3 : wrap64 (wrap64 (3 - 1) - 2) = 0 := by decide +kernel
          by_cases c1 : a.tmod p = 0
          · simp only [if_pos c1]
            obtain ⟨h1, h2⟩ := h.div3 pp (dvd_tmod.1 c1) pa pb
            refine Ev_eq (fun k => ?_) (ih _ _ _ _ _ _ _ h1 (by omega))
            rw [if_neg (by omega), if_pos (by omega), if_pos (by simp), Option.bind_some, if_pos (by omega), if_pos (by simp), Option.bind_some, e3, if_pos (by omega), if_pos (by simp)]
            simp only [rd0, rd1, rd2, st0, st1, st2, w_tdiv b1, w_tdiv b2, w_tdiv b3]
            rw [if_pos c1]
          · simp only [if_neg c1]
            obtain ⟨h1, h2⟩ := h.turn.div2 pp pa pb (fun e => c1 (dvd_tmod.2 e))
            obtain ⟨s1, s2, s3, s4, s5, s6⟩ := ni_small h1 hM
            refine Ev_eq (fun k => ?_) (ih _ _ _ _ _ _ _ h1.back ?_)
            · rw [if_neg (by omega), if_pos (by omega), if_pos (by simp), Option.bind_some, if_pos (by omega), if_pos (by simp), Option.bind_some, e3, if_pos (by omega), if_pos (by simp)]
              have hz := h1.hz
              simp only [rd0, rd1, rd2, st0, st1, st2, w_tdiv b2, w_tdiv b3]
              rw [if_neg c1, if_pos (by simp), w64 (x := a * p) (by omega) (by omega), w64 (x := x * p) (by omega) (by omega)]
            · rw [show a * p * b.tdiv p * c.tdiv p = b.tdiv p * c.tdiv p * (a * p) by grind]
              rw [show b * c * a = a * b * c by grind] at h2
              omega
        · simp only [if_neg g3]
          refine Ev_eq (g := fun _ => some ([a, b, c], [x, y, z], true)) (fun k => if_pos trivial) (Ev.now _)


theorem sm_core {a : Int} (h : Sm a) : 1 ≤ (coreF a).2 ∧ (coreF a).2 ≤ 5 ∧ (coreF a).1 ≠ 0 ∧ (coreF a).1.natAbs ≤ 30 := by
  have h1 := coreF_is h.1 (by have := h.2; omega)
  have h2 := core_le h1
  have := h.2
  refine ⟨h1.2.1, ?_, h1.2.2.1, by omega⟩
  rw [← Int.natAbs_mul] at h2
  have := sq_nonneg (coreF a).2
  have := lt_of_sq (a := (coreF a).2) (b := 6) (by omega) (by omega); omega
theorem rr {r s : Int} (h : 1 ≤ r ∧ r ≤ 5) (h' : 1 ≤ s ∧ s ≤ 5) : wrap64 (wrap64 (1 * r) * s) = r * s := by
  rw [Int.one_mul, w64 (x := r) (by omega) (by omega)]
  have := mul_le2 (show 0 ≤ r by omega) h.2 (show 0 ≤ s by omega) h'.2
  have := Int.mul_nonneg (show 0 ≤ r by omega) (show 0 ≤ s by omega)
  exact w64 (by omega) (by omega)
theorem bd3_le {a b c : Int} (ha : Sm a) (hb : Sm b) (hc : Sm c) : bd3 a b c ≤ 27000 := by
  unfold bd3
  rw [Int.natAbs_mul, Int.natAbs_mul]
  have := Nat.mul_le_mul (Nat.mul_le_mul ha.2 hb.2) hc.2
  omega
theorem implNormal_ev {a b c : Int} (ha : Sm a) (hb : Sm b) (hc : Sm c) : Ev (fun k => impl_ZeroNormal.f k [a, b, c]) (outN3 (nrm3 a b c)) := by
  have hs : ∀ x ∈ [a, b, c], Sm x := by intro x hx; simp at hx; rcases hx with rfl | rfl | rfl <;> assumption
  have hf : formOk [a, b, c] = true := formOk_iff.2 ⟨hs, by simp, by simp⟩
  unfold impl_ZeroNormal.f
  refine (implFormValid_ev (xs := [a, b, c]) (fun x hx => by have := (hs x hx).2; omega) (by simp)).bind ?_
  rw [hf]
  refine Ev_eq (g := fun k => impl_ZeroNormal.j0 k [a, b, c] false) (fun k => if_pos rfl) ?_
  refine Ev.step (f := fun k => impl_ZeroNormal.l0 k [a, b, c] [1, 1, 1] [a, b, c] 3 0) (fun k => ?_) ?_
  · simp only [impl_ZeroNormal.j0]
    rw [if_neg (by simp)]
    unfold slices_Clone_int_int.f
    rw [if_pos (by simp), Option.bind_some]
    rfl
  obtain ⟨a1, a2, a3, a4⟩ := sm_core ha
  obtain ⟨b1, b2, b3, b4⟩ := sm_core hb
  obtain ⟨c1, c2, c3, c4⟩ := sm_core hc
  have bound := bd3_le ha hb hc
  obtain ⟨l, hni⟩ := core_ni ha.1 hb.1 hc.1 (by omega)
  have fin := normal1_l (by omega) 62 _ _ _ _ _ _ _ hni (by have := hni.bd.2.2.1; omega)
  have A := implCore_ev ha.1 (by have := ha.2; omega)
  have B := implCore_ev hb.1 (by have := hb.2; omega)
  have C := implCore_ev hc.1 (by have := hc.2; omega)
  have m1 : (wrap64 (0 + 1)).tmod 3 = 1 := by decide +kernel
  have m2 : (wrap64 (0 + 2)).tmod 3 = 2 := by decide +kernel
  have m3 : (wrap64 (1 + 1)).tmod 3 = 2 := by decide +kernel
  have m4 : (wrap64 (1 + 2)).tmod 3 = 0 := by decide +kernel
  have m5 : (wrap64 (2 + 1)).tmod 3 = 0 := by decide +kernel
  have m6 : (wrap64 (2 + 2)).tmod 3 = 1 := by decide +kernel
  have w1 : wrap64 (0 + 1) = 1 := by decide +kernel
  have w2 : wrap64 (1 + 1) = 2 := by decide +kernel
  have w3 : wrap64 (2 + 1) = 3 := by decide +kernel
  unfold nrm3 
  generalize coreF a = ca at *
  generalize coreF b = cb at *
  generalize coreF c = cc at *
  apply Ev.step
  · intro k
    simp only [impl_ZeroNormal.l0]
    rw [if_pos (by omega), if_pos (by omega), if_pos (by simp), rd0]
  refine A.bind ?_
  refine Ev_eq (g := fun k => impl_ZeroNormal.l0 k [ca.1, b, c] [1, wrap64 (1 * ca.2), wrap64 (1 * ca.2)] [a, b, c] 3 1) (fun k => ?_) ?_
  · rw [if_pos (by simp), m1, if_pos (by omega), if_pos (by simp), Option.bind_some, m2, if_pos (by omega), if_pos (by simp), w1]
    rfl
  apply Ev.step
  · intro k
    simp only [impl_ZeroNormal.l0]
    rw [if_pos (by omega), if_pos (by omega), if_pos (by simp), rd1]
  refine B.bind ?_
  refine Ev_eq (g := fun k => impl_ZeroNormal.l0 k [ca.1, cb.1, c] [wrap64 (1 * cb.2), wrap64 (1 * ca.2), ca.2 * cb.2] [a, b, c] 3 2) (fun k => ?_) ?_
  · rw [if_pos (by simp), m3, if_pos (by omega), if_pos (by simp), Option.bind_some, m4, if_pos (by omega), if_pos (by simp), w2]
    have := rr ⟨a1, a2⟩ ⟨b1, b2⟩
    rw [← this]
    rfl
  apply Ev.step
  · intro k
    simp only [impl_ZeroNormal.l0]
    rw [if_pos (by omega), if_pos (by omega), if_pos (by simp), rd2]
  refine C.bind ?_
  refine Ev_eq (g := fun k => impl_ZeroNormal.l0 k [ca.1, cb.1, cc.1] [cb.2 * cc.2, ca.2 * cc.2, ca.2 * cb.2] [a, b, c] 3 3) (fun k => ?_) ?_
  · rw [if_pos (by simp), m5, if_pos (by omega), if_pos (by simp), Option.bind_some, m6, if_pos (by omega), if_pos (by simp), w3]
    rw [← rr ⟨b1, b2⟩ ⟨c1, c2⟩, ← rr ⟨a1, a2⟩ ⟨c1, c2⟩]
    rfl
  refine Ev.step (fun k => ?_) fin
  simp only [impl_ZeroNormal.l0]
  rw [if_neg (by omega)]
theorem l5Normal1_l {A B C : Int} {M : Nat} (hM : M ≤ 1000000000) : ∀ (m : Nat) (l a b c x y z : Int), NI A B C M l a b c x y z → (a * b * c).natAbs < 2 ^ m →
    Ev (fun k => spec_l5Normal.l1 k [a, b, c] [x, y, z] (twoP a b c).1 (twoP a b c).2) (outN (nrm m a b c x y z)) := by
  intro m
  induction m with
  | zero =>
    intro l a b c x y z h hk
    have := Int.mul_ne_zero (Int.mul_ne_zero h.sa.1 h.sb.1) h.sc.1
    omega
  | succ m ih =>
    intro l a b c x y z h hk
    rw [Nat.pow_succ] at hk
    obtain ⟨b1, b2, b3, b4, b5, b6⟩ := ni_small h hM
    have m1 : (wrap64 (2 + 1)).tmod 3 = 0 := by decide +kernel
    have m2 : (wrap64 (2 + 2)).tmod 3 = 1 := by decide +kernel
    have m3 : (wrap64 (1 + 1)).tmod 3 = 2 := by decide +kernel
    have m4 : (wrap64 (1 + 2)).tmod 3 = 0 := by decide +kernel
    have m5 : (wrap64 (0 + 1)).tmod 3 = 1 := by decide +kernel
    have m6 : (wrap64 (0 + 2)).tmod 3 = 2 := by decide +kernel
    simp only [nrm]
    have next : ∀ {l' a' b' c' x' y' z' : Int}, NI A B C M l' a' b' c' x' y' z' → (a' * b' * c').natAbs < 2 ^ m → Ev (fun k => (spec_l5Two.f k [a', b', c']).bind fun t => spec_l5Normal.l1 k [a', b', c'] [x', y', z'] t.1 t.2) (outN (nrm m a' b' c' x' y' z')) := by
      intro l' a' b' c' x' y' z' h1 hk1
      obtain ⟨s1, s2, s3, _⟩ := ni_small h1 hM
      exact (l5Two_ev h1.sa.1 h1.sb.1 h1.sc.1 s1 s2 s3).bind (ih _ _ _ _ _ _ _ h1 hk1)
    by_cases g1 : 1 < gI a b
    · simp only [twoP, if_pos g1]
      obtain ⟨pp, pa, pb, _⟩ := gp h (by omega) g1
      have p2 := pp.1
      generalize minP (gI a b) = p at *
      by_cases c1 : c.tmod p = 0
      · simp only [if_pos c1]
        obtain ⟨h1, h2⟩ := h.div3 pp pa pb (dvd_tmod.1 c1)
        refine Ev.step (fun k => ?_) (next h1 (by omega))
        simp only [spec_l5Normal.l1]
        rw [if_pos (by omega), m1, if_pos (by omega), if_pos (by simp), if_neg (by omega), Option.bind_some, m2, if_pos (by omega), if_pos (by simp), Option.bind_some, if_pos (by omega), if_pos (by simp)]
        simp only [rd0, rd1, rd2, st0, st1, st2, w_tdiv b1, w_tdiv b2, w_tdiv b3]
        rw [if_pos c1, Option.bind_some]
      · simp only [if_neg c1]
        obtain ⟨h1, h2⟩ := h.div2 pp pa pb (fun e => c1 (dvd_tmod.2 e))
        obtain ⟨s1, s2, s3, s4, s5, s6⟩ := ni_small h1 hM
        have hz := h1.hz
        refine Ev.step (fun k => ?_) (next h1 (by omega))
        simp only [spec_l5Normal.l1]
        rw [if_pos (by omega), m1, if_pos (by omega), if_pos (by simp), if_neg (by omega), Option.bind_some, m2, if_pos (by omega), if_pos (by simp), Option.bind_some, if_pos (by omega), if_pos (by simp)]
        simp only [rd0, rd1, rd2, st0, st1, st2, w_tdiv b1, w_tdiv b2]
        rw [if_neg c1, Option.bind_some, if_pos (by simp), w64 (x := c * p) (by omega) (by omega), w64 (x := z * p) (by omega) (by omega)]
    · simp only [twoP, if_neg g1]
      by_cases g2 : 1 < gI a c
      · simp only [if_pos g2]
        obtain ⟨pp, pa, pb, _⟩ := gp h.swap (by omega) g2
        have p2 := pp.1
        generalize minP (gI a c) = p at *
        by_cases c1 : b.tmod p = 0
        · simp only [if_pos c1]
          obtain ⟨h1, h2⟩ := h.div3 pp pa (dvd_tmod.1 c1) pb
          refine Ev.step (fun k => ?_) (next h1 (by omega))
          simp only [spec_l5Normal.l1]
          rw [if_pos (by omega), m3, if_pos (by omega), if_pos (by simp), if_neg (by omega), Option.bind_some, m4, if_pos (by omega), if_pos (by simp), Option.bind_some, if_pos (by omega), if_pos (by simp)]
          simp only [rd0, rd1, rd2, st0, st1, st2, w_tdiv b1, w_tdiv b2, w_tdiv b3]
          rw [if_pos c1, Option.bind_some]
        · simp only [if_neg c1]
          obtain ⟨h1, h2⟩ := h.swap.div2 pp pa pb (fun e => c1 (dvd_tmod.2 e))
          obtain ⟨s1, s2, s3, s4, s5, s6⟩ := ni_small h1 hM
          have hz := h1.hz
          refine Ev.step (fun k => ?_) (next h1.swap ?_)
          · simp only [spec_l5Normal.l1]
            rw [if_pos (by omega), m3, if_pos (by omega), if_pos (by simp), if_neg (by omega), Option.bind_some, m4, if_pos (by omega), if_pos (by simp), Option.bind_some, if_pos (by omega), if_pos (by simp)]
            simp only [rd0, rd1, rd2, st0, st1, st2, w_tdiv b1, w_tdiv b3]
            rw [if_neg c1, Option.bind_some, if_pos (by simp), w64 (x := b * p) (by omega) (by omega), w64 (x := y * p) (by omega) (by omega)]
          · rw [show a.tdiv p * (b * p) * c.tdiv p = a.tdiv p * c.tdiv p * (b * p) by grind]
            rw [show a * c * b = a * b * c by grind] at h2
            omega
      · simp only [if_neg g2]
        by_cases g3 : 1 < gI b c
        · simp only [if_pos g3]
          obtain ⟨pp, pa, pb, _⟩ := gp h.turn (by omega) g3
          have p2 := pp.1
          generalize minP (gI b c) = p at *
          by_cases c1 : a.tmod p = 0
          · simp only [if_pos c1]
            obtain ⟨h1, h2⟩ := h.div3 pp (dvd_tmod.1 c1) pa pb
            refine Ev.step (fun k => ?_) (next h1 (by omega))
            simp only [spec_l5Normal.l1]
            rw [if_pos (by omega), m5, if_pos (by omega), if_pos (by simp), if_neg (by omega), Option.bind_some, m6, if_pos (by omega), if_pos (by simp), Option.bind_some, if_pos (by omega), if_pos (by simp)]
            simp only [rd0, rd1, rd2, st0, st1, st2, w_tdiv b1, w_tdiv b2, w_tdiv b3]
            rw [if_pos c1, Option.bind_some]
          · simp only [if_neg c1]
            obtain ⟨h1, h2⟩ := h.turn.div2 pp pa pb (fun e => c1 (dvd_tmod.2 e))
            obtain ⟨s1, s2, s3, s4, s5, s6⟩ := ni_small h1 hM
            have hz := h1.hz
            refine Ev.step (fun k => ?_) (next h1.back ?_)
            · simp only [spec_l5Normal.l1]
              rw [if_pos (by omega), m5, if_pos (by omega), if_pos (by simp), if_neg (by omega), Option.bind_some, m6, if_pos (by omega), if_pos (by simp), Option.bind_some, if_pos (by omega), if_pos (by simp)]
              simp only [rd0, rd1, rd2, st0, st1, st2, w_tdiv b2, w_tdiv b3]
              rw [if_neg c1, Option.bind_some, if_pos (by simp), w64 (x := a * p) (by omega) (by omega), w64 (x := x * p) (by omega) (by omega)]
            · rw [show a * p * b.tdiv p * c.tdiv p = b.tdiv p * c.tdiv p * (a * p) by grind]
              rw [show b * c * a = a * b * c by grind] at h2
              omega
        · simp only [if_neg g3]
          refine Ev.step (f := fun _ => some ([a, b, c], [x, y, z])) (fun k => ?_) (Ev.now _)
          simp only [spec_l5Normal.l1]
          rw [if_neg (by omega)]
theorem specNormal_ev {a b c : Int} (ha : Sm a) (hb : Sm b) (hc : Sm c) : Ev (fun k => spec_l5Normal.f k [a, b, c]) (outN (nrm3 a b c)) := by
  unfold spec_l5Normal.f
  obtain ⟨a1, a2, a3, a4⟩ := sm_core ha
  obtain ⟨b1, b2, b3, b4⟩ := sm_core hb
  obtain ⟨c1, c2, c3, c4⟩ := sm_core hc
  have bound := bd3_le ha hb hc
  obtain ⟨l, hni⟩ := core_ni ha.1 hb.1 hc.1 (by omega)
  have fin := l5Normal1_l (by omega) 62 _ _ _ _ _ _ _ hni (by have := hni.bd.2.2.1; omega)
  have A := specCore_ev ha.1 (by have := ha.2; omega)
  have B := specCore_ev hb.1 (by have := hb.2; omega)
  have C := specCore_ev hc.1 (by have := hc.2; omega)
  have m1 : (wrap64 (0 + 1)).tmod 3 = 1 := by decide +kernel
  have m2 : (wrap64 (0 + 2)).tmod 3 = 2 := by decide +kernel
  have m3 : (wrap64 (1 + 1)).tmod 3 = 2 := by decide +kernel
  have m4 : (wrap64 (1 + 2)).tmod 3 = 0 := by decide +kernel
  have m5 : (wrap64 (2 + 1)).tmod 3 = 0 := by decide +kernel
  have m6 : (wrap64 (2 + 2)).tmod 3 = 1 := by decide +kernel
  have w1 : wrap64 (0 + 1) = 1 := by decide +kernel
  have w2 : wrap64 (1 + 1) = 2 := by decide +kernel
  have w3 : wrap64 (2 + 1) = 3 := by decide +kernel
  unfold nrm3
  generalize coreF a = ca at *
  generalize coreF b = cb at *
  generalize coreF c = cc at *
  apply Ev.step
  · intro k
    simp only [spec_l5Normal.l0]
    rw [if_pos (by omega), if_pos (by omega), if_pos (by simp), rd0]
  refine A.bind ?_
  refine Ev_eq (g := fun k => spec_l5Normal.l0 k [a, b, c] [ca.1] [1, wrap64 (1 * ca.2), wrap64 (1 * ca.2)] 1) (fun k => ?_) ?_
  · rw [if_pos (by simp), m1, if_pos (by omega), if_pos (by simp), Option.bind_some, m2, if_pos (by omega), if_pos (by simp), w1]
    rfl
  apply Ev.step
  · intro k
    simp only [spec_l5Normal.l0]
    rw [if_pos (by omega), if_pos (by omega), if_pos (by simp), rd1]
  refine B.bind ?_
  refine Ev_eq (g := fun k => spec_l5Normal.l0 k [a, b, c] [ca.1, cb.1] [wrap64 (1 * cb.2), wrap64 (1 * ca.2), ca.2 * cb.2] 2) (fun k => ?_) ?_
  · rw [if_pos (by simp), m3, if_pos (by omega), if_pos (by simp), Option.bind_some, m4, if_pos (by omega), if_pos (by simp), w2]
    have := rr ⟨a1, a2⟩ ⟨b1, b2⟩
    rw [← this]
    rfl
  apply Ev.step
  · intro k
    simp only [spec_l5Normal.l0]
    rw [if_pos (by omega), if_pos (by omega), if_pos (by simp), rd2]
  refine C.bind ?_
  refine Ev_eq (g := fun k => spec_l5Normal.l0 k [a, b, c] [ca.1, cb.1, cc.1] [cb.2 * cc.2, ca.2 * cc.2, ca.2 * cb.2] 3) (fun k => ?_) ?_
  · rw [if_pos (by simp), m5, if_pos (by omega), if_pos (by simp), Option.bind_some, m6, if_pos (by omega), if_pos (by simp), w3]
    rw [← rr ⟨b1, b2⟩ ⟨c1, c2⟩, ← rr ⟨a1, a2⟩ ⟨c1, c2⟩]
    rfl
  apply Ev.step
  · intro k
    simp only [spec_l5Normal.l0]
    rw [if_neg (by omega)]
  obtain ⟨s1, s2, s3, _⟩ := ni_small hni (by omega)
  exact (l5Two_ev hni.sa.1 hni.sb.1 hni.sc.1 s1 s2 s3).bind fin


/-! ### the search -/
def orS (w : List Int × Bool) : Option (List Int) → List Int × Bool
  | some v => (v, true)
  | none => w
def resS (o : Option (List Int)) : List Int × Bool := match o with | some v => (v, true) | none => ([], false)
structure SB (a b c : Int) : Prop where
  ha : a.natAbs ≤ 27000
  hb : b.natAbs ≤ 27000
  hc : c.natAbs ≤ 27000
  h0 : c ≠ 0
  hbc : (b * c).natAbs ≤ 27000
  hac : (a * c).natAbs ≤ 27000
theorem mul_bd {a x : Int} {A X : Nat} (h : a.natAbs ≤ A) (h' : x.natAbs ≤ X) : (a * x).natAbs ≤ A * X := by rw [Int.natAbs_mul]; exact Nat.mul_le_mul h h'
theorem nmr_bd {a b c x y : Int} (h : SB a b c) (hx : 0 ≤ x) (hx2 : x ≤ 200) (hy : 0 ≤ y) (hy2 : y ≤ 200) :
    wrap64 (wrap64 (wrap64 (wrap64 (-a) * x) * x) - wrap64 (wrap64 (b * y) * y)) = nmr a b x y ∧ wrap64 (wrap64 (-(wrap64 (wrap64 (a * x) * x))) - wrap64 (wrap64 (b * y) * y)) = nmr a b x y ∧ (nmr a b x y).natAbs ≤ 3000000000 := by
  have ha := h.ha
  have hb := h.hb
  have e1 := mul_bd (a := -a) (x := x) (A := 27000) (X := 200) (by omega) (by omega)
  have e2 := mul_bd (a := -a * x) (x := x) (A := 5400000) (X := 200) (by omega) (by omega)
  have e3 := mul_bd (a := b) (x := y) (A := 27000) (X := 200) (by omega) (by omega)
  have e4 := mul_bd (a := b * y) (x := y) (A := 5400000) (X := 200) (by omega) (by omega)
  have e5 := mul_bd (a := a) (x := x) (A := 27000) (X := 200) (by omega) (by omega)
  have e6 := mul_bd (a := a * x) (x := x) (A := 5400000) (X := 200) (by omega) (by omega)
  unfold nmr
  refine ⟨?_, ?_, by omega⟩
  · rw [w64 (x := -a) (by omega) (by omega), w64 (x := -a * x) (by omega) (by omega), w64 (x := -a * x * x) (by omega) (by omega), w64 (x := b * y) (by omega) (by omega), w64 (x := b * y * y) (by omega) (by omega), w64 (by omega) (by omega)]
  · rw [w64 (x := a * x) (by omega) (by omega), w64 (x := a * x * x) (by omega) (by omega), w64 (x := -(a * x * x)) (by omega) (by omega), w64 (x := b * y) (by omega) (by omega), w64 (x := b * y * y) (by omega) (by omega)]
    have : -a * x * x = -(a * x * x) := by grind
    rw [this]
    rw [this] at e2
    rw [w64 (by omega) (by omega)]
theorem absI_abs {n : Int} (h : n.natAbs ≤ 27000) : mx n (wrap64 (-n)) = absI n := size_ev (by omega) (by omega)
theorem nmr_zero (a b : Int) : nmr a b 0 0 = 0 := by unfold nmr; grind
theorem isq_zero : isq 0 = 0 := isq_unique (by omega) (by omega) (by omega)
theorem implSearchY {a b c x : Int} (h : SB a b c) (hx : 0 ≤ x) (hx2 : x ≤ 200) {w : List Int × Bool} (hw : Ev (fun k => impl_ZeroSearch.l1 k a b c (x + 1)) w) : ∀ (n : Nat) (y : Int), 0 ≤ y → y + n = 200 →
    Ev (fun k => impl_ZeroSearch.l2 k a b c x y) (orS w (sY a b c x n y)) := by
  have hac := h.hac
  have start : ∀ (y : Int), impl_size.f (wrap64 (a * c)) = some (absI (a * c)) := fun y => by
    rw [w64 (x := a * c) (by omega) (by omega)]; simp only [impl_size.f]; rw [absI_abs hac]
  intro n
  induction n with
  | zero =>
    intro y hy hn
    simp only [sY]
    obtain rfl : y = 200 := by omega
    refine Ev.step (fun k => ?_) hw
    simp only [impl_ZeroSearch.l2]
    rw [start 0, Option.bind_some, w64 (x := (200 : Int) * 200) (by omega) (by omega), if_neg (by unfold absI; omega), w64 (x := x + 1) (by omega) (by omega)]
  | succ n ih =>
    intro y hy hn
    simp only [sY]
    have hyy : y * y ≤ 200 * 200 := mul_le2 hy (by omega) hy (by omega)
    have hy0 := sq_nonneg y
    by_cases c0 : y * y ≤ absI (a * c)
    · rw [if_pos c0]
      have next := ih (y + 1) (by omega) (by omega)
      obtain ⟨n1, _, n3⟩ := nmr_bd h hx hx2 hy (show y ≤ 200 by omega)
      have hh := h.h0
      have qb : ((nmr a b x y).tdiv c).natAbs ≤ 3000000000 := Nat.le_trans tdiv_small n3
      by_cases c1 : (nmr a b x y).tmod c = 0
      · by_cases c2 : 0 ≤ (nmr a b x y).tdiv c
        · apply Ev.step
          · intro k
            simp only [impl_ZeroSearch.l2]
            rw [start 0, Option.bind_some, w64 (x := y * y) (by omega) (by omega), if_pos c0, if_neg hh, n1, if_pos c1, w64 (x := (nmr a b x y).tdiv c) (by omega) (by omega), w64 (x := y + 1) (by omega) (by omega)]
          refine (squareRoot_ev _ c2 (by omega)).bind ?_
          by_cases c3 : isq ((nmr a b x y).tdiv c) * isq ((nmr a b x y).tdiv c) = (nmr a b x y).tdiv c
          · by_cases c4 : x = 0 ∧ y = 0
            · have hit0 : hit a b c x y = none := by unfold hit; rw [if_neg (fun e => e.2.2.2 c4)]
              rw [hit0]
              obtain ⟨rfl, rfl⟩ := c4
              have z : (nmr a b 0 0).tdiv c = 0 := by rw [nmr_zero]; exact Int.zero_tdiv _
              rw [z, isq_zero]
              refine Ev_eq (fun k => ?_) next
              rw [if_pos (by simp), if_pos rfl, if_pos rfl, if_pos rfl]
            · have hit1 : hit a b c x y = some [x, y, isq ((nmr a b x y).tdiv c)] := by unfold hit; rw [if_pos ⟨c1, c2, c3, c4⟩]
              rw [hit1]
              refine Ev_eq (g := fun _ => some ([x, y, isq ((nmr a b x y).tdiv c)], true)) (fun k => ?_) (Ev.now _)
              rw [if_pos (by simp [c3])]
              by_cases x0 : x = 0
              · rw [if_pos x0, if_neg (fun e => c4 ⟨x0, e⟩)]
              · rw [if_neg x0]
          · have hit0 : hit a b c x y = none := by unfold hit; rw [if_neg (fun e => c3 e.2.2.1)]
            rw [hit0]
            refine Ev_eq (fun k => ?_) next
            rw [if_neg (by simp [c3])]
        · have hit0 : hit a b c x y = none := by unfold hit; rw [if_neg (fun e => c2 e.2.1)]
          rw [hit0]
          refine Ev.step (fun k => ?_) next
          simp only [impl_ZeroSearch.l2]
          rw [start 0, Option.bind_some, w64 (x := y * y) (by omega) (by omega), if_pos c0, if_neg hh, n1, if_pos c1, w64 (x := (nmr a b x y).tdiv c) (by omega) (by omega), w64 (x := y + 1) (by omega) (by omega)]
          unfold impl_squareRoot.f
          rw [if_pos (by omega), Option.bind_some, if_neg (by simp)]
      · have hit0 : hit a b c x y = none := by unfold hit; rw [if_neg (fun e => c1 e.1)]
        rw [hit0]
        refine Ev.step (fun k => ?_) next
        simp only [impl_ZeroSearch.l2]
        rw [start 0, Option.bind_some, w64 (x := y * y) (by omega) (by omega), if_pos c0, if_neg hh, n1, if_neg c1, w64 (x := y + 1) (by omega) (by omega)]
    · rw [if_neg c0]
      refine Ev.step (fun k => ?_) hw
      simp only [impl_ZeroSearch.l2]
      rw [start 0, Option.bind_some, w64 (x := y * y) (by omega) (by omega), if_neg c0, w64 (x := x + 1) (by omega) (by omega)]
theorem implSearchX {a b c : Int} (h : SB a b c) : ∀ (n : Nat) (x : Int), 0 ≤ x → x + n = 200 → Ev (fun k => impl_ZeroSearch.l1 k a b c x) (resS (sX a b c n x)) := by
  have hbc := h.hbc
  have start : impl_size.f (wrap64 (b * c)) = some (absI (b * c)) := by
    rw [w64 (x := b * c) (by omega) (by omega)]; simp only [impl_size.f]; rw [absI_abs hbc]
  intro n
  induction n with
  | zero =>
    intro x hx hn
    simp only [sX]
    obtain rfl : x = 200 := by omega
    refine Ev.step (f := fun _ => some ([], false)) (fun k => ?_) (Ev.now _)
    simp only [impl_ZeroSearch.l1]
    rw [start, Option.bind_some, w64 (x := (200 : Int) * 200) (by omega) (by omega), if_neg (by unfold absI; omega)]
  | succ n ih =>
    intro x hx hn
    simp only [sX]
    have hxx : x * x ≤ 200 * 200 := mul_le2 hx (by omega) hx (by omega)
    have hx0 := sq_nonneg x
    by_cases c0 : x * x ≤ absI (b * c)
    · rw [if_pos c0]
      have := implSearchY h hx (show x ≤ 200 by omega) (ih (x + 1) (by omega) (by omega)) 200 0 (by omega) (by omega)
      refine Ev.step (f := fun k => impl_ZeroSearch.l2 k a b c x 0) (fun k => ?_) ?_
      · simp only [impl_ZeroSearch.l1]
        rw [start, Option.bind_some, w64 (x := x * x) (by omega) (by omega), if_pos c0]
      · cases hh : sY a b c x 200 0 with
        | some v => rw [hh] at this; exact this
        | none => rw [hh] at this; exact this
    · rw [if_neg c0]
      refine Ev.step (f := fun _ => some ([], false)) (fun k => ?_) (Ev.now _)
      simp only [impl_ZeroSearch.l1]
      rw [start, Option.bind_some, w64 (x := x * x) (by omega) (by omega), if_neg c0]
structure SN (a b c : Int) : Prop where
  sa : SqFree a
  sb : SqFree b
  sc : SqFree c
  hm : (a * b * c).natAbs ≤ 27000
  g1 : gI a b ≤ 1
  g2 : gI a c ≤ 1
  g3 : gI b c ≤ 1
theorem SN.bd {a b c : Int} (h : SN a b c) : SB a b c ∧ SB b a c := by
  have hm := h.hm
  have a0 := h.sa.1
  have b0 := h.sb.1
  have c0 := h.sc.1
  have e1 : (a * b * c).natAbs = a.natAbs * (b * c).natAbs := by rw [← Int.natAbs_mul]; congr 1; grind
  have e2 : (a * b * c).natAbs = b.natAbs * (a * c).natAbs := by rw [← Int.natAbs_mul]; congr 1; grind
  have e3 : (a * b * c).natAbs = c.natAbs * (a * b).natAbs := by rw [← Int.natAbs_mul]; congr 1; grind
  have hbc := Int.mul_ne_zero b0 c0
  have hac := Int.mul_ne_zero a0 c0
  have hab := Int.mul_ne_zero a0 b0
  have f1 := Nat.le_mul_of_pos_right a.natAbs (show 0 < (b * c).natAbs by omega)
  have f2 := Nat.le_mul_of_pos_left (b * c).natAbs (show 0 < a.natAbs by omega)
  have f3 := Nat.le_mul_of_pos_right b.natAbs (show 0 < (a * c).natAbs by omega)
  have f4 := Nat.le_mul_of_pos_left (a * c).natAbs (show 0 < b.natAbs by omega)
  have f5 := Nat.le_mul_of_pos_right c.natAbs (show 0 < (a * b).natAbs by omega)
  exact ⟨⟨by omega, by omega, by omega, c0, by omega, by omega⟩, ⟨by omega, by omega, by omega, c0, by omega, by omega⟩⟩
theorem sq_core {a : Int} (h : SqFree a) (hb : a.natAbs ≤ 27000) : coreF a = (a, 1) := core_is h.1 (by omega) ⟨by omega, by omega, h⟩
theorem implSearch1 {a b c t : Int} {j j1 : Int} (ht : SqFree t) (hb : t.natAbs ≤ 27000) (hr : rd [a, b, c] j = t) (h0 : 0 ≤ j) (h3 : j < 3) (hj : wrap64 (j + 1) = j1) {v : List Int × Bool} (hv : Ev (fun k => impl_ZeroSearch.l0 k [a, b, c] [a, b, c] 3 j1) v) :
    Ev (fun k => impl_ZeroSearch.l0 k [a, b, c] [a, b, c] 3 j) v := by
  have hs : impl_size.f t = some (absI t) := by simp only [impl_size.f]; rw [absI_abs hb]
  refine Ev.step (f := fun k => impl_ZeroSearch.j1 k [a, b, c] t [a, b, c] 3 j false) (fun k => ?_) ?_
  · simp only [impl_ZeroSearch.l0]
    rw [if_pos h3, if_pos h0, if_pos (by simpa using h3), hr, if_neg ht.1, hs, Option.bind_some]
    have : decide (absI t > 30000) = false := decide_eq_false (by unfold absI; omega)
    rw [this]
  apply Ev.step
  · intro k
    simp only [impl_ZeroSearch.j1]
    rw [if_neg (by simp), hj]
  refine (implCore_ev ht.1 (by omega)).bind ?_
  rw [sq_core ht hb]
  exact Ev_eq (fun k => if_pos rfl) hv
theorem product_l (xs : List Int) (hl : xs.length ≤ 1000) : ∀ (d j : Nat) (g : Int), j + d = xs.length → (∀ i, i ≤ d → (((xs.drop j).take i).foldl (· * ·) g).natAbs ≤ 1000000000000) → 
    Ev (fun k => impl_product.l0 k g xs (xs.length : Int) j) ((xs.drop j).foldl (· * ·) g) := by
  intro d
  induction d with
  | zero =>
    intro j g hj _
    rw [List.drop_of_length_le (by omega)]
    refine Ev.step (f := fun _ => some g) (fun k => ?_) (Ev.now _)
    simp only [impl_product.l0]
    rw [if_neg (by omega)]
  | succ d ih =>
    intro j g hj hb
    rw [rd_drop (show j < xs.length by omega)] at hb ⊢
    have h1 := hb 1 (by omega)
    simp only [List.take_succ_cons, List.take_zero, List.foldl_cons, List.foldl_nil] at h1
    simp only [List.foldl_cons]
    refine Ev.step (fun k => ?_) (ih (j + 1) (g * rd xs (j : Int)) (by omega) (fun i hi => ?_))
    · simp only [impl_product.l0]
      rw [if_pos (by omega), if_pos (by omega), if_pos (by omega), w64 (x := g * rd xs (j : Int)) (by omega) (by omega), w64 (x := (j : Int) + 1) (by omega) (by omega)]
      rfl
    · have := hb (i + 1) (by omega)
      simpa [List.take_succ_cons] using this
theorem implSearch_ev {a b c : Int} (h : SN a b c) : Ev (fun k => impl_ZeroSearch.f k [a, b, c]) (resS (zs a b c)) := by
  obtain ⟨sb, sb2⟩ := h.bd
  have ha := sb.ha
  have hb := sb.hb
  have hc := sb.hc
  have hm := h.hm
  refine Ev_eq (g := fun k => impl_ZeroSearch.l0 k [a, b, c] [a, b, c] 3 0) (fun k => by unfold impl_ZeroSearch.f; exact if_pos (by simp)) ?_
  refine implSearch1 h.sa ha (rd0 a b c) (by omega) (by omega) (show wrap64 (0 + 1) = 1 by decide +kernel) ?_
  refine implSearch1 h.sb hb (rd1 a b c) (by omega) (by omega) (show wrap64 (1 + 1) = 2 by decide +kernel) ?_
  refine implSearch1 h.sc hc (rd2 a b c) (by omega) (by omega) (show wrap64 (2 + 1) = 3 by decide +kernel) ?_
  apply Ev.step
  · intro k
    simp only [impl_ZeroSearch.l0]
    rw [if_neg (by omega)]
  refine (shared_ev h.sa.1 h.sb.1 (by omega) (by omega) (by omega)).bind ?_
  have e : shP a b c = (0, 0, 0) := by
    unfold shP
    rw [if_neg (by have := h.g1; omega), if_neg (by have := h.g2; omega), if_neg (by have := h.g3; omega)]
  rw [e]
  refine Ev_eq (fun k => if_pos rfl) ?_
  have hp : Ev (fun k => impl_product.f k [a, b, c]) (a * b * c) := by
    unfold impl_product.f
    have hab : (a * b).natAbs ≤ 27000 * 27000 := mul_bd ha hb
    have := product_l [a, b, c] (by simp) 3 0 1 (by simp) (fun i hi => ?_)
    · simpa using this
    · have : i = 0 ∨ i = 1 ∨ i = 2 ∨ i = 3 := by omega
      rcases this with rfl | rfl | rfl | rfl <;> simp <;> omega
  refine hp.bind ?_
  have hs : impl_size.f (a * b * c) = some (absI (a * b * c)) := by simp only [impl_size.f]; rw [absI_abs hm]
  refine Ev_eq (g := fun k => impl_ZeroSearch.j2 k [a, b, c] false) (fun k => ?_) ?_
  · rw [hs, Option.bind_some]
    have : decide (absI (a * b * c) > 30000) = false := decide_eq_false (by unfold absI; omega)
    rw [this]
  refine Ev.step (fun k => ?_) (implSearchX sb 200 0 (by omega) (by omega))
  simp only [impl_ZeroSearch.j2]
  rw [if_neg (by simp), if_pos (by simp), if_pos (by simp), if_pos (by simp)]
  rfl
theorem specSearchY {a b c x : Int} (h : SB a b c) (hx : 0 ≤ x) (hx2 : x ≤ 200) {w : List Int × Bool} (hw : Ev (fun k => spec_l5Search.l0 k a b c (x + 1)) w) : ∀ (n : Nat) (y : Int), 0 ≤ y → y + n = 200 →
    Ev (fun k => spec_l5Search.l1 k a b c x y) (orS w (sY a b c x n y)) := by
  have hac := h.hac
  have start : spec_l1Size.f (wrap64 (a * c)) = some (absI (a * c)) := by
    rw [w64 (x := a * c) (by omega) (by omega)]; simp only [spec_l1Size.f]; rw [absI_abs hac]
  intro n
  induction n with
  | zero =>
    intro y hy hn
    simp only [sY]
    obtain rfl : y = 200 := by omega
    refine Ev.step (fun k => ?_) hw
    simp only [spec_l5Search.l1]
    rw [start, Option.bind_some, w64 (x := (200 : Int) * 200) (by omega) (by omega), if_neg (by unfold absI; omega), w64 (x := x + 1) (by omega) (by omega)]
  | succ n ih =>
    intro y hy hn
    simp only [sY]
    have hyy : y * y ≤ 200 * 200 := mul_le2 hy (by omega) hy (by omega)
    have hy0 := sq_nonneg y
    by_cases c0 : y * y ≤ absI (a * c)
    · rw [if_pos c0]
      have next := ih (y + 1) (by omega) (by omega)
      obtain ⟨_, n2, n3⟩ := nmr_bd h hx hx2 hy (show y ≤ 200 by omega)
      have hh := h.h0
      have qb : ((nmr a b x y).tdiv c).natAbs ≤ 3000000000 := Nat.le_trans tdiv_small n3
      have wq : wrap64 ((nmr a b x y).tdiv c) = (nmr a b x y).tdiv c := w64 (by omega) (by omega)
      have skip : ∀ (m : Int), Ev (fun k => spec_l5Search.j2 k a b c x y m true) (orS w (sY a b c x n (y + 1))) := by
        intro m
        refine Ev.step (fun k => ?_) next
        simp only [spec_l5Search.j2]
        rw [if_pos trivial, w64 (x := y + 1) (by omega) (by omega)]
      by_cases c1 : (nmr a b x y).tmod c = 0
      · by_cases c2 : 0 ≤ (nmr a b x y).tdiv c
        · by_cases c4 : x = 0 ∧ y = 0
          · have hit0 : hit a b c x y = none := by unfold hit; rw [if_neg (fun e => e.2.2.2 c4)]
            rw [hit0]
            refine Ev.step (fun k => ?_) (skip (nmr a b x y))
            simp only [spec_l5Search.l1]
            rw [start, Option.bind_some, w64 (x := y * y) (by omega) (by omega), if_pos c0, if_neg hh, n2, if_pos c1, wq, if_neg (by omega), if_pos c4.1]
            have : (y == 0) = true := by simp [c4.2]
            rw [this]
          · refine Ev.step (f := fun k => spec_l5Search.j2 k a b c x y (nmr a b x y) false) (fun k => ?_) ?_
            · simp only [spec_l5Search.l1]
              rw [start, Option.bind_some, w64 (x := y * y) (by omega) (by omega), if_pos c0, if_neg hh, n2, if_pos c1, wq, if_neg (by omega)]
              by_cases x0 : x = 0
              · have : (y == 0) = false := by simpa using fun e => c4 ⟨x0, e⟩
                rw [if_pos x0, this]
              · rw [if_neg x0]
            apply Ev.step
            · intro k
              simp only [spec_l5Search.j2]
              rw [if_neg (by simp), if_neg hh, wq, w64 (x := y + 1) (by omega) (by omega)]
            refine (l5Root_ev _ c2 (by omega)).bind ?_
            by_cases c3 : isq ((nmr a b x y).tdiv c) * isq ((nmr a b x y).tdiv c) = (nmr a b x y).tdiv c
            · have hit1 : hit a b c x y = some [x, y, isq ((nmr a b x y).tdiv c)] := by unfold hit; rw [if_pos ⟨c1, c2, c3, c4⟩]
              rw [hit1, if_pos c3]
              exact Ev_eq (fun k => if_pos (isq_nonneg _)) (Ev.now _)
            · have hit0 : hit a b c x y = none := by unfold hit; rw [if_neg (fun e => c3 e.2.2.1)]
              rw [hit0, if_neg c3]
              exact Ev_eq (fun k => if_neg (by omega)) next
        · have hit0 : hit a b c x y = none := by unfold hit; rw [if_neg (fun e => c2 e.2.1)]
          rw [hit0]
          refine Ev.step (fun k => ?_) (skip (nmr a b x y))
          simp only [spec_l5Search.l1]
          rw [start, Option.bind_some, w64 (x := y * y) (by omega) (by omega), if_pos c0, if_neg hh, n2, if_pos c1, wq, if_pos (by omega)]
      · have hit0 : hit a b c x y = none := by unfold hit; rw [if_neg (fun e => c1 e.1)]
        rw [hit0]
        refine Ev.step (fun k => ?_) (skip (nmr a b x y))
        simp only [spec_l5Search.l1]
        rw [start, Option.bind_some, w64 (x := y * y) (by omega) (by omega), if_pos c0, if_neg hh, n2, if_neg c1]
    · rw [if_neg c0]
      refine Ev.step (fun k => ?_) hw
      simp only [spec_l5Search.l1]
      rw [start, Option.bind_some, w64 (x := y * y) (by omega) (by omega), if_neg c0, w64 (x := x + 1) (by omega) (by omega)]
theorem specSearchX {a b c : Int} (h : SB a b c) : ∀ (n : Nat) (x : Int), 0 ≤ x → x + n = 200 → Ev (fun k => spec_l5Search.l0 k a b c x) (resS (sX a b c n x)) := by
  have hbc := h.hbc
  have start : spec_l1Size.f (wrap64 (b * c)) = some (absI (b * c)) := by
    rw [w64 (x := b * c) (by omega) (by omega)]; simp only [spec_l1Size.f]; rw [absI_abs hbc]
  intro n
  induction n with
  | zero =>
    intro x hx hn
    simp only [sX]
    obtain rfl : x = 200 := by omega
    refine Ev.step (f := fun _ => some ([], false)) (fun k => ?_) (Ev.now _)
    simp only [spec_l5Search.l0]
    rw [start, Option.bind_some, w64 (x := (200 : Int) * 200) (by omega) (by omega), if_neg (by unfold absI; omega)]
  | succ n ih =>
    intro x hx hn
    simp only [sX]
    have hxx : x * x ≤ 200 * 200 := mul_le2 hx (by omega) hx (by omega)
    have hx0 := sq_nonneg x
    by_cases c0 : x * x ≤ absI (b * c)
    · rw [if_pos c0]
      have := specSearchY h hx (show x ≤ 200 by omega) (ih (x + 1) (by omega) (by omega)) 200 0 (by omega) (by omega)
      refine Ev.step (f := fun k => spec_l5Search.l1 k a b c x 0) (fun k => ?_) ?_
      · simp only [spec_l5Search.l0]
        rw [start, Option.bind_some, w64 (x := x * x) (by omega) (by omega), if_pos c0]
      · cases hh : sY a b c x 200 0 with
        | some v => rw [hh] at this; exact this
        | none => rw [hh] at this; exact this
    · rw [if_neg c0]
      refine Ev.step (f := fun _ => some ([], false)) (fun k => ?_) (Ev.now _)
      simp only [spec_l5Search.l0]
      rw [start, Option.bind_some, w64 (x := x * x) (by omega) (by omega), if_neg c0]
theorem specSearch_ev {a b c : Int} (h : SN a b c) : Ev (fun k => spec_l5Search.f k [a, b, c]) (resS (zs a b c)) := by
  refine Ev_eq (g := fun k => spec_l5Search.l0 k a b c 0) (fun k => ?_) (specSearchX h.bd.1 200 0 (by omega) (by omega))
  unfold spec_l5Search.f
  rw [if_pos (by simp), if_pos (by simp), if_pos (by simp)]
  rfl


/-! ### zeros -/
theorem nrm_sn {A B C : Int} {M : Nat} {s : T6} (h : Nrm A B C M s) (hM : M ≤ 27000) : SN s.1.1 s.1.2.1 s.1.2.2 := by
  obtain ⟨l, n, g1, g2, g3⟩ := h
  exact ⟨n.sa, n.sb, n.sc, by have := n.bd.2.2.1; omega, g1, g2, g3⟩
theorem sm3 {a b c : Int} (ha : Sm a) (hb : Sm b) (hc : Sm c) : ∀ x ∈ [a, b, c], Sm x := by intro x hx; simp at hx; rcases hx with rfl | rfl | rfl <;> assumption
theorem ok3 {a b c : Int} (ha : Sm a) (hb : Sm b) (hc : Sm c) : formOk [a, b, c] = true := formOk_iff.2 ⟨sm3 ha hb hc, by simp, by simp⟩
theorem implG_l {x y z u v w : Int} (h : ∀ t ∈ [u * x, v * y, w * z], t.natAbs ≤ 40000) (hn : ∃ t ∈ [u * x, v * y, w * z], t ≠ 0) :
    Ev (fun k => impl_ZeroFindG.l0 k [x, y, z] [u, v, w] 3 0) (plainF [u * x, v * y, w * z], true) := by
  have h1 := h (u * x) (by simp)
  have h2 := h (v * y) (by simp)
  have h3 := h (w * z) (by simp)
  have w1 : wrap64 (0 + 1) = 1 := by decide +kernel
  have w2 : wrap64 (1 + 1) = 2 := by decide +kernel
  have w3 : wrap64 (2 + 1) = 3 := by decide +kernel
  refine Ev.step (f := fun k => impl_ZeroFindG.l0 k [x, y, z] [u * x, v, w] 3 1) (fun k => ?_) ?_
  · simp only [impl_ZeroFindG.l0]
    rw [if_pos (by omega), if_pos (by omega), if_pos (by simp), if_pos (by simp), rd0, rd0, st0, w64 (x := u * x) (by omega) (by omega), w1]
  refine Ev.step (f := fun k => impl_ZeroFindG.l0 k [x, y, z] [u * x, v * y, w] 3 2) (fun k => ?_) ?_
  · simp only [impl_ZeroFindG.l0]
    rw [if_pos (by omega), if_pos (by omega), if_pos (by simp), if_pos (by simp), rd1, rd1, st1, w64 (x := v * y) (by omega) (by omega), w2]
  refine Ev.step (f := fun k => impl_ZeroFindG.l0 k [x, y, z] [u * x, v * y, w * z] 3 3) (fun k => ?_) ?_
  · simp only [impl_ZeroFindG.l0]
    rw [if_pos (by omega), if_pos (by omega), if_pos (by simp), if_pos (by simp), rd2, rd2, st2, w64 (x := w * z) (by omega) (by omega), w3]
  apply Ev.step
  · intro k
    simp only [impl_ZeroFindG.l0]
    rw [if_neg (by omega)]
  exact (plain_ev hn (fun t ht => by have := h t ht; omega) (by simp)).bind (Ev.now _)
theorem implG3_ev (z4 : Nat → List Int → Option (List Int × Bool)) {a b c : Int} (ha : Sm a) (hb : Sm b) (hc : Sm c) : Ev (fun k => impl_ZeroFindG.f z4 k [a, b, c]) (resS (z3 a b c)) := by
  unfold impl_ZeroFindG.f
  have hM := bd3_le ha hb hc
  have hN := nrm3_is ha.1 hb.1 hc.1 (by omega)
  refine (implFormValid_ev (xs := [a, b, c]) (fun x hx => by have := (sm3 ha hb hc x hx).2; omega) (by simp)).bind ?_
  rw [ok3 ha hb hc]
  refine Ev_eq (fun k => by rw [if_pos rfl, if_neg (by simp), if_pos (by simp)]) ?_
  refine (implNormal_ev ha hb hc).bind ?_
  have hS := implSearch_ev (nrm_sn hN hM)
  obtain ⟨l, n1, _⟩ := hN
  unfold z3
  generalize nrm3 a b c = s at *
  obtain ⟨⟨a', b', c'⟩, x, y, z⟩ := s
  simp only [outN3] at n1 hS ⊢
  refine hS.bind ?_
  cases hz : zs a' b' c' with
  | none => exact Ev_eq (g := fun _ => some ([], false)) (fun k => if_neg (by simp [resS])) (Ev.now _)
  | some t =>
    obtain ⟨u, v, w, rfl, _⟩ := zs_is hz
    obtain ⟨hne, hq, hsm⟩ := z3_pre n1 hM hz
    exact Ev_eq (fun k => if_pos rfl) (implG_l hsm hne)
theorem t4_w {a b x y : Int} (ha : Sm a) (hb : Sm b) (hx : 0 ≤ x) (hx3 : x ≤ 3) (hy : 0 ≤ y) (hy3 : y ≤ 3) : wrap64 (wrap64 (wrap64 (a * x) * x) + wrap64 (wrap64 (b * y) * y)) = t4 a b x y := by
  have h1 := ha.2
  have h2 := hb.2
  have e1 := mul_bd (a := a) (x := x) (A := 30) (X := 3) (by omega) (by omega)
  have e2 := mul_bd (a := a * x) (x := x) (A := 90) (X := 3) (by omega) (by omega)
  have e3 := mul_bd (a := b) (x := y) (A := 30) (X := 3) (by omega) (by omega)
  have e4 := mul_bd (a := b * y) (x := y) (A := 90) (X := 3) (by omega) (by omega)
  unfold t4
  rw [w64 (x := a * x) (by omega) (by omega), w64 (x := a * x * x) (by omega) (by omega), w64 (x := b * y) (by omega) (by omega), w64 (x := b * y * y) (by omega) (by omega), w64 (by omega) (by omega)]
theorem z4_plain {x y p q r h : Int} (hx : 0 ≤ x) (hx3 : x ≤ 3) (hy : 0 ≤ y) (hy3 : y ≤ 3) (hp : p.natAbs ≤ 40000) (hq : q.natAbs ≤ 40000) (hr : r.natAbs ≤ 40000) (hh : h.natAbs ≤ 540) :
    wrap64 (x * r) = x * r ∧ wrap64 (y * r) = y * r ∧ wrap64 (h * p) = h * p ∧ wrap64 (h * q) = h * q ∧ ∀ t ∈ [x * r, y * r, h * p, h * q], t.natAbs ≤ 4000000000000000000 := by
  have e1 := mul_bd (a := x) (x := r) (A := 3) (X := 40000) (by omega) (by omega)
  have e2 := mul_bd (a := y) (x := r) (A := 3) (X := 40000) (by omega) (by omega)
  have e3 := mul_bd (a := h) (x := p) (A := 540) (X := 40000) (by omega) (by omega)
  have e4 := mul_bd (a := h) (x := q) (A := 540) (X := 40000) (by omega) (by omega)
  refine ⟨w64 (by omega) (by omega), w64 (by omega) (by omega), w64 (by omega) (by omega), w64 (by omega) (by omega), ?_⟩
  intro t ht
  simp only [List.mem_cons, List.not_mem_nil, or_false] at ht
  rcases ht with rfl | rfl | rfl | rfl <;> omega
theorem z4_ne {x y p q r h : Int} (h0 : ¬ (x = 0 ∧ y = 0)) (hh : h ≠ 0) (hn : ∃ t ∈ [p, q, r], t ≠ 0) : ∃ t ∈ [x * r, y * r, h * p, h * q], t ≠ 0 := by
  by_cases hr : r = 0
  · by_cases hp : p = 0
    · refine ⟨h * q, by simp, Int.mul_ne_zero hh (fun e => ?_)⟩
      obtain ⟨t, ht, h1⟩ := hn
      simp [hr, hp, e] at ht; exact h1 ht
    · exact ⟨h * p, by simp, Int.mul_ne_zero hh hp⟩
  · by_cases hx0 : x = 0
    · exact ⟨y * r, by simp, Int.mul_ne_zero (fun e => h0 ⟨hx0, e⟩) hr⟩
    · exact ⟨x * r, by simp, Int.mul_ne_zero hx0 hr⟩
theorem plain4_ne {x y : Int} (h0 : ¬ (x = 0 ∧ y = 0)) : ∃ t ∈ [x, y, 0, 0], t ≠ 0 := by
  by_cases hx : x = 0
  · exact ⟨y, by simp, fun e => h0 ⟨hx, e⟩⟩
  · exact ⟨x, by simp, hx⟩
theorem core_small {t : Int} (h0 : t ≠ 0) (h : t.natAbs ≤ 540) : (coreF t).1 ≠ 0 ∧ (coreF t).1.natAbs ≤ 540 ∧ 1 ≤ (coreF t).2 ∧ (coreF t).2.natAbs ≤ 540 := by
  have h1 := coreF_is h0 (by omega)
  have h2 := core_le h1
  refine ⟨h1.2.2.1, by omega, h1.2.1, ?_⟩
  have := Nat.le_mul_of_pos_right (coreF t).2.natAbs (show 0 < (coreF t).2.natAbs by have := h1.2.1; omega)
  omega
theorem implFourY {a b c d x : Int} (ha : Sm a) (hb : Sm b) (hc : Sm c) (hd : Sm d) (hx : 0 ≤ x) (hx3 : x ≤ 3) {w : List Int × Bool} (hw : Ev (fun k => impl_zeroOfFour.l0 k a b c d (x + 1)) w) : ∀ (n : Nat) (y : Int), 0 ≤ y → y + n = 4 →
    Ev (fun k => impl_zeroOfFour.l1 k a b c d x y) (orS w (z4y a b c d x n y)) := by
  intro n
  induction n with
  | zero =>
    intro y hy hn
    simp only [z4y]
    refine Ev.step (fun k => ?_) hw
    simp only [impl_zeroOfFour.l1]
    rw [if_neg (by omega), w64 (x := x + 1) (by omega) (by omega)]
  | succ n ih =>
    intro y hy hn
    have hy3 : y ≤ 3 := by omega
    simp only [z4y]
    have next := ih (y + 1) (by omega) (by omega)
    by_cases c0 : x = 0 ∧ y = 0
    · have e : z4c a b c d x y = none := by unfold z4c; rw [if_pos c0]
      rw [e]
      refine Ev.step (f := fun k => impl_zeroOfFour.j2 k a b c d x y true) (fun k => ?_) ?_
      · simp only [impl_zeroOfFour.l1]
        have : (y == 0) = true := by simp [c0.2]
        rw [if_pos hy3, if_pos c0.1, this]
      refine Ev.step (fun k => ?_) next
      simp only [impl_zeroOfFour.j2]
      rw [if_pos trivial, w64 (x := y + 1) (by omega) (by omega)]
    · refine Ev.step (f := fun k => impl_zeroOfFour.j2 k a b c d x y false) (fun k => ?_) ?_
      · simp only [impl_zeroOfFour.l1]
        rw [if_pos hy3]
        by_cases x0 : x = 0
        · have : (y == 0) = false := by simpa using fun e => c0 ⟨x0, e⟩
          rw [if_pos x0, this]
        · rw [if_neg x0]
      have hT := t4_bd ha hb hx hx3 hy hy3
      have hw4 := t4_w ha hb hx hx3 hy hy3
      apply Ev.step
      · intro k
        simp only [impl_zeroOfFour.j2]
        rw [if_neg (by simp), hw4, w64 (x := y + 1) (by omega) (by omega)]
      by_cases c1 : t4 a b x y = 0
      · have e : z4c a b c d x y = some (plainF [x, y, 0, 0]) := by unfold z4c; rw [if_neg c0, if_pos c1]
        rw [e]
        refine Ev_eq (fun k => if_pos c1) ?_
        exact (plain_ev (plain4_ne c0) (by intro t ht; simp at ht; omega) (by simp)).bind (Ev.now _)
      · refine Ev_eq (fun k => if_neg c1) ?_
        obtain ⟨k1, k2, k3, k4⟩ := core_small c1 hT
        refine (implCore_ev c1 (by omega)).bind ?_
        by_cases c2 : 30 < absI (coreF (t4 a b x y)).1
        · have e : z4c a b c d x y = none := by unfold z4c; rw [if_neg c0, if_neg c1, if_pos c2]
          rw [e]
          have hf : formOk [c, d, (coreF (t4 a b x y)).1] = false := by
            rw [Bool.eq_false_iff]
            intro h
            have := (formOk_iff.1 h).1 (coreF (t4 a b x y)).1 (by simp)
            unfold absI at c2; have := this.2; omega
          have hv : Ev (fun k => impl_ZeroFindC.f k [c, d, (coreF (t4 a b x y)).1]) ([], false) := by
            unfold impl_ZeroFindC.f impl_ZeroFindG.f
            refine (implFormValid_ev (xs := [c, d, (coreF (t4 a b x y)).1]) (fun t ht => ?_) (by simp)).bind ?_
            · have := hc.2
              have := hd.2
              simp only [List.mem_cons, List.not_mem_nil, or_false] at ht
              rcases ht with rfl | rfl | rfl <;> omega
            · rw [hf]; exact Ev_eq (fun k => if_neg (by simp)) (Ev.now _)
          refine hv.bind ?_
          exact Ev_eq (fun k => if_neg (by simp)) next
        · have hs : Sm (coreF (t4 a b x y)).1 := ⟨k1, by unfold absI at c2; omega⟩
          have hv : Ev (fun k => impl_ZeroFindC.f k [c, d, (coreF (t4 a b x y)).1]) (resS (z3 c d (coreF (t4 a b x y)).1)) := implG3_ev _ hc hd hs
          refine hv.bind ?_
          cases hz : z3 c d (coreF (t4 a b x y)).1 with
          | none =>
            have e : z4c a b c d x y = none := by unfold z4c; rw [if_neg c0, if_neg c1, if_neg c2, hz]
            rw [e]
            exact Ev_eq (fun k => if_neg (by simp [resS])) next
          | some t =>
            obtain ⟨⟨p, q, r, rfl⟩, z0⟩ := z3_zero hc hd hs hz
            have e : z4c a b c d x y = some (plainF [x * r, y * r, (coreF (t4 a b x y)).2 * p, (coreF (t4 a b x y)).2 * q]) := by unfold z4c; rw [if_neg c0, if_neg c1, if_neg c2, hz]
            rw [e]
            obtain ⟨m1, m2, m3, m4, m5⟩ := z4_plain hx hx3 hy hy3 (z0.2.2.2 p (by simp)) (z0.2.2.2 q (by simp)) (z0.2.2.2 r (by simp)) k4
            refine Ev_eq (g := fun k => (impl_plain.f k [x * r, y * r, (coreF (t4 a b x y)).2 * p, (coreF (t4 a b x y)).2 * q]).bind fun t => some (t, true)) (fun k => ?_) ((plain_ev (z4_ne c0 (show (coreF (t4 a b x y)).2 ≠ 0 by omega) z0.2.2.1) m5 (by simp)).bind (Ev.now _))
            rw [show resS (some [p, q, r]) = ([p, q, r], true) from rfl, if_pos rfl, if_pos (by simp), if_pos (by simp), if_pos (by simp), rd0, rd1, rd2, m1, m2, m3, m4]
theorem implFourX {a b c d : Int} (ha : Sm a) (hb : Sm b) (hc : Sm c) (hd : Sm d) : ∀ (n : Nat) (x : Int), 0 ≤ x → x + n = 4 → Ev (fun k => impl_zeroOfFour.l0 k a b c d x) (resS (z4x a b c d n x)) := by
  intro n
  induction n with
  | zero =>
    intro x hx hn
    simp only [z4x]
    refine Ev.step (f := fun _ => some ([], false)) (fun k => ?_) (Ev.now _)
    simp only [impl_zeroOfFour.l0]
    rw [if_neg (by omega)]
  | succ n ih =>
    intro x hx hn
    simp only [z4x]
    have := implFourY ha hb hc hd hx (by omega) (ih (x + 1) (by omega) (by omega)) 4 0 (by omega) (by omega)
    refine Ev.step (f := fun k => impl_zeroOfFour.l1 k a b c d x 0) (fun k => ?_) ?_
    · simp only [impl_zeroOfFour.l0]
      rw [if_pos (by omega)]
    · cases hh : z4y a b c d x 4 0 with
      | some v => rw [hh] at this; exact this
      | none => rw [hh] at this; exact this
theorem implFour_ev {a b c d : Int} (ha : Sm a) (hb : Sm b) (hc : Sm c) (hd : Sm d) : Ev (fun k => impl_zeroOfFour.f k [a, b, c, d]) (resS (z4 a b c d)) := by
  refine Ev_eq (fun k => ?_) (implFourX ha hb hc hd 4 0 (by omega) (by omega))
  unfold impl_zeroOfFour.f
  rw [if_pos (by simp), if_pos (by simp), if_pos (by simp), if_pos (by simp)]
  rfl
theorem two_bd {a b : Int} (ha : Sm a) (hb : Sm b) : (∃ t ∈ [(coreF b).2, (coreF a).2], t ≠ 0) ∧ ∀ t ∈ [(coreF b).2, (coreF a).2], t.natAbs ≤ 4000000000000000000 := by
  have h1 := sm_core ha
  have h2 := sm_core hb
  exact ⟨⟨(coreF b).2, by simp, by omega⟩, by intro t ht; simp at ht; omega⟩
theorem implFind_ev {f : List Int} (hx : ∀ x ∈ f, x.natAbs ≤ 1000000) (hl : f.length ≤ 100) : Ev (fun k => impl_ZeroFind.f k f) (resS (zF f)) := by
  by_cases c : formOk f = true
  · have h := formOk_iff.1 c
    have c' := c
    match f, h, c, hx with
    | [a], h, c, hx =>
      have e : zF [a] = none := by unfold zF; rw [if_pos c]
      rw [e]
      unfold impl_ZeroFind.f impl_ZeroFindG.f
      refine (implFormValid_ev hx (by simp)).bind ?_
      rw [c]
      exact Ev_eq (g := fun _ => some ([], false)) (fun k => by rw [if_pos rfl, if_neg (by simp), if_neg (by simp), if_neg (by simp)]) (Ev.now _)
    | [a, b], h, c, hx =>
      have ha := h.1 a (by simp)
      have hb := h.1 b (by simp)
      unfold impl_ZeroFind.f impl_ZeroFindG.f
      refine (implFormValid_ev hx (by simp)).bind ?_
      rw [c]
      refine Ev_eq (fun k => by rw [if_pos rfl, if_pos (by simp), if_pos (by simp)]) ?_
      refine (implCore_ev ha.1 (by have := ha.2; omega)).bind ?_
      refine Ev_eq (fun k => if_pos (by simp)) ?_
      refine (implCore_ev hb.1 (by have := hb.2; omega)).bind ?_
      have k2 := sm_core hb
      rw [w64 (x := -(coreF b).1) (by omega) (by omega)]
      obtain ⟨t1, t2⟩ := two_bd ha hb
      by_cases c1 : (coreF a).1 + (coreF b).1 = 0
      · have e : zF [a, b] = some (plainF [(coreF b).2, (coreF a).2]) := by unfold zF; rw [if_pos c]; exact if_pos c1
        rw [e]
        exact Ev_eq (fun k => if_pos (show (coreF a).1 = -(coreF b).1 by omega)) ((plain_ev t1 t2 (by simp)).bind (Ev.now _))
      · have e : zF [a, b] = none := by unfold zF; rw [if_pos c]; exact if_neg c1
        rw [e]
        exact Ev_eq (fun k => if_neg (show ¬ (coreF a).1 = -(coreF b).1 by omega)) (Ev.now _)
    | [a, b, d], h, c, hx =>
      have e : zF [a, b, d] = z3 a b d := by unfold zF; rw [if_pos c]
      rw [e]
      exact implG3_ev _ (h.1 a (by simp)) (h.1 b (by simp)) (h.1 d (by simp))
    | [a, b, d, g], h, c, hx =>
      have e : zF [a, b, d, g] = z4 a b d g := by unfold zF; rw [if_pos c]
      rw [e]
      unfold impl_ZeroFind.f impl_ZeroFindG.f
      refine (implFormValid_ev hx (by simp)).bind ?_
      rw [c]
      refine Ev_eq (fun k => by rw [if_pos rfl, if_neg (by simp), if_neg (by simp), if_pos (by simp)]) ?_
      exact (implFour_ev (h.1 a (by simp)) (h.1 b (by simp)) (h.1 d (by simp)) (h.1 g (by simp))).bind (Ev.now _)
    | [], h, c, hx => simp at h
    | _ :: _ :: _ :: _ :: _ :: _, h, c, hx => simp at h
  · have e : zF f = none := by unfold zF; rw [if_neg c]
    rw [e]
    unfold impl_ZeroFind.f impl_ZeroFindG.f
    refine (implFormValid_ev hx (by omega)).bind ?_
    rw [Bool.eq_false_iff.2 c]
    exact Ev_eq (fun k => if_neg (by simp)) (Ev.now _)
theorem specThree_ev {a b c : Int} (ha : Sm a) (hb : Sm b) (hc : Sm c) : Ev (fun k => spec_l5Three.f k [a, b, c]) (resS (z3 a b c)) := by
  unfold spec_l5Three.f
  have hM := bd3_le ha hb hc
  have hN := nrm3_is ha.1 hb.1 hc.1 (by omega)
  refine (specNormal_ev ha hb hc).bind ?_
  have hS := specSearch_ev (nrm_sn hN hM)
  obtain ⟨l, n1, _⟩ := hN
  unfold z3
  generalize nrm3 a b c = s at *
  obtain ⟨⟨a', b', c'⟩, x, y, z⟩ := s
  simp only [outN] at n1 hS ⊢
  refine hS.bind ?_
  cases hz : zs a' b' c' with
  | none => exact Ev_eq (g := fun _ => some ([], false)) (fun k => if_neg (by simp [resS])) (Ev.now _)
  | some t =>
    obtain ⟨u, v, w, rfl, _⟩ := zs_is hz
    obtain ⟨hne, hq, h⟩ := z3_pre n1 hM hz
    have h1 := h (u * x) (by simp)
    have h2 := h (v * y) (by simp)
    have h3 := h (w * z) (by simp)
    refine Ev_eq (g := fun k => (spec_l5Plain.f k [u * x, v * y, w * z]).bind fun t => some (t, true)) (fun k => ?_) ((l5Plain_ev hne (fun t ht => by have := h t ht; omega) (by simp)).bind (Ev.now _))
    rw [show resS (some [u, v, w]) = ([u, v, w], true) from rfl, if_pos rfl]
    refine (if_pos (show (0 : Int) < (([x, y, z] : List Int).length : Int) by simp)).trans ?_
    refine (if_pos (show (0 : Int) < (([u, v, w] : List Int).length : Int) by simp)).trans ?_
    refine (if_pos (show (1 : Int) < (([x, y, z] : List Int).length : Int) by simp)).trans ?_
    refine (if_pos (show (1 : Int) < (([u, v, w] : List Int).length : Int) by simp)).trans ?_
    refine (if_pos (show (2 : Int) < (([x, y, z] : List Int).length : Int) by simp)).trans ?_
    refine (if_pos (show (2 : Int) < (([u, v, w] : List Int).length : Int) by simp)).trans ?_
    rw [rd0, rd1, rd2, rd0, rd1, rd2, Int.mul_comm x u, Int.mul_comm y v, Int.mul_comm z w, w64 (x := u * x) (by omega) (by omega), w64 (x := v * y) (by omega) (by omega), w64 (x := w * z) (by omega) (by omega)]
theorem rd40 (a b c d : Int) : rd [a, b, c, d] 0 = a := rfl
theorem rd41 (a b c d : Int) : rd [a, b, c, d] 1 = b := rfl
theorem rd42 (a b c d : Int) : rd [a, b, c, d] 2 = c := rfl
theorem rd43 (a b c d : Int) : rd [a, b, c, d] 3 = d := rfl
theorem specFourY {a b c d x : Int} (ha : Sm a) (hb : Sm b) (hc : Sm c) (hd : Sm d) (hx : 0 ≤ x) (hx3 : x ≤ 3) {w : List Int × Bool} (hw : Ev (fun k => spec_l5Four.l0 k [a, b, c, d] (x + 1)) w) : ∀ (n : Nat) (y : Int), 0 ≤ y → y + n = 4 →
    Ev (fun k => spec_l5Four.l1 k [a, b, c, d] x y) (orS w (z4y a b c d x n y)) := by
  intro n
  induction n with
  | zero =>
    intro y hy hn
    simp only [z4y]
    refine Ev.step (fun k => ?_) hw
    simp only [spec_l5Four.l1]
    rw [if_neg (by omega), w64 (x := x + 1) (by omega) (by omega)]
  | succ n ih =>
    intro y hy hn
    have hy3 : y ≤ 3 := by omega
    simp only [z4y]
    have next := ih (y + 1) (by omega) (by omega)
    by_cases c0 : x = 0 ∧ y = 0
    · have e : z4c a b c d x y = none := by unfold z4c; rw [if_pos c0]
      rw [e]
      refine Ev.step (f := fun k => spec_l5Four.j2 k [a, b, c, d] x y true) (fun k => ?_) ?_
      · simp only [spec_l5Four.l1]
        have : (y == 0) = true := by simp [c0.2]
        rw [if_pos hy3, if_pos c0.1, this]
      refine Ev.step (fun k => ?_) next
      simp only [spec_l5Four.j2]
      rw [if_pos trivial, w64 (x := y + 1) (by omega) (by omega)]
    · refine Ev.step (f := fun k => spec_l5Four.j2 k [a, b, c, d] x y false) (fun k => ?_) ?_
      · simp only [spec_l5Four.l1]
        rw [if_pos hy3]
        by_cases x0 : x = 0
        · have : (y == 0) = false := by simpa using fun e => c0 ⟨x0, e⟩
          rw [if_pos x0, this]
        · rw [if_neg x0]
      have hT := t4_bd ha hb hx hx3 hy hy3
      have hw4 := t4_w ha hb hx hx3 hy hy3
      apply Ev.step
      · intro k
        simp only [spec_l5Four.j2]
        rw [if_neg (by simp), if_pos (by simp), if_pos (by simp), rd40, rd41, rd42, rd43, hw4, w64 (x := y + 1) (by omega) (by omega)]
      by_cases c1 : t4 a b x y = 0
      · have e : z4c a b c d x y = some (plainF [x, y, 0, 0]) := by unfold z4c; rw [if_neg c0, if_pos c1]
        rw [e]
        refine Ev_eq (fun k => if_pos c1) ?_
        exact (l5Plain_ev (plain4_ne c0) (by intro t ht; simp at ht; omega) (by simp)).bind (Ev.now _)
      · refine Ev_eq (fun k => if_neg c1) ?_
        obtain ⟨k1, k2, k3, k4⟩ := core_small c1 hT
        refine (specCore_ev c1 (by omega)).bind ?_
        have hsz : spec_l1Size.f (coreF (t4 a b x y)).1 = some (absI (coreF (t4 a b x y)).1) := by simp only [spec_l1Size.f]; rw [size_ev (by omega) (by omega)]
        by_cases c2 : 30 < absI (coreF (t4 a b x y)).1
        · have e : z4c a b c d x y = none := by unfold z4c; rw [if_neg c0, if_neg c1, if_pos c2]
          rw [e]
          exact Ev_eq (fun k => by rw [hsz, Option.bind_some, if_pos (by omega)]) next
        · have hs : Sm (coreF (t4 a b x y)).1 := ⟨k1, by unfold absI at c2; omega⟩
          refine Ev_eq (fun k => by rw [hsz, Option.bind_some, if_neg (by omega), if_pos (by simp), if_pos (by simp)]) ?_
          refine (specThree_ev hc hd hs).bind ?_
          cases hz : z3 c d (coreF (t4 a b x y)).1 with
          | none =>
            have e : z4c a b c d x y = none := by unfold z4c; rw [if_neg c0, if_neg c1, if_neg c2, hz]
            rw [e]
            exact Ev_eq (fun k => if_neg (by simp [resS])) next
          | some t =>
            obtain ⟨⟨p, q, r, rfl⟩, z0⟩ := z3_zero hc hd hs hz
            have e : z4c a b c d x y = some (plainF [x * r, y * r, (coreF (t4 a b x y)).2 * p, (coreF (t4 a b x y)).2 * q]) := by unfold z4c; rw [if_neg c0, if_neg c1, if_neg c2, hz]
            rw [e]
            obtain ⟨m1, m2, m3, m4, m5⟩ := z4_plain hx hx3 hy hy3 (z0.2.2.2 p (by simp)) (z0.2.2.2 q (by simp)) (z0.2.2.2 r (by simp)) k4
            refine Ev_eq (g := fun k => (spec_l5Plain.f k [x * r, y * r, (coreF (t4 a b x y)).2 * p, (coreF (t4 a b x y)).2 * q]).bind fun t => some (t, true)) (fun k => ?_) ((l5Plain_ev (z4_ne c0 (show (coreF (t4 a b x y)).2 ≠ 0 by omega) z0.2.2.1) m5 (by simp)).bind (Ev.now _))
            rw [show resS (some [p, q, r]) = ([p, q, r], true) from rfl, if_pos rfl, if_pos (by simp), if_pos (by simp), if_pos (by simp), rd0, rd1, rd2, m1, m2, m3, m4]
theorem specFourX {a b c d : Int} (ha : Sm a) (hb : Sm b) (hc : Sm c) (hd : Sm d) : ∀ (n : Nat) (x : Int), 0 ≤ x → x + n = 4 → Ev (fun k => spec_l5Four.l0 k [a, b, c, d] x) (resS (z4x a b c d n x)) := by
  intro n
  induction n with
  | zero =>
    intro x hx hn
    simp only [z4x]
    refine Ev.step (f := fun _ => some ([], false)) (fun k => ?_) (Ev.now _)
    simp only [spec_l5Four.l0]
    rw [if_neg (by omega)]
  | succ n ih =>
    intro x hx hn
    simp only [z4x]
    have := specFourY ha hb hc hd hx (by omega) (ih (x + 1) (by omega) (by omega)) 4 0 (by omega) (by omega)
    refine Ev.step (f := fun k => spec_l5Four.l1 k [a, b, c, d] x 0) (fun k => ?_) ?_
    · simp only [spec_l5Four.l0]
      rw [if_pos (by omega)]
    · cases hh : z4y a b c d x 4 0 with
      | some v => rw [hh] at this; exact this
      | none => rw [hh] at this; exact this
theorem specFind_ev {f : List Int} (hx : ∀ x ∈ f, x.natAbs ≤ 1000000) (hl : f.length ≤ 100) : Ev (fun k => spec_ZeroFind.f k f) (resS (zF f)) := by
  unfold spec_ZeroFind.f
  by_cases c : formOk f = true
  · have h := formOk_iff.1 c
    match f, h, c, hx with
    | [a], h, c, hx =>
      have e : zF [a] = none := by unfold zF; rw [if_pos c]
      rw [e]
      refine (specFormValid_ev (by simp)).bind ?_
      rw [c]
      exact Ev_eq (g := fun _ => some ([], false)) (fun k => by rw [if_pos rfl, if_neg (by simp), if_neg (by simp), if_neg (by simp)]) (Ev.now _)
    | [a, b], h, c, hx =>
      have ha := h.1 a (by simp)
      have hb := h.1 b (by simp)
      refine (specFormValid_ev (by simp)).bind ?_
      rw [c]
      refine Ev_eq (fun k => by rw [if_pos rfl, if_pos (by simp), if_pos (by simp)]) ?_
      refine (specCore_ev ha.1 (by have := ha.2; omega)).bind ?_
      refine Ev_eq (fun k => if_pos (by simp)) ?_
      refine (specCore_ev hb.1 (by have := hb.2; omega)).bind ?_
      have k1 := sm_core ha
      have k2 := sm_core hb
      rw [w64 (x := (coreF a).1 + (coreF b).1) (by omega) (by omega)]
      obtain ⟨t1, t2⟩ := two_bd ha hb
      by_cases c1 : (coreF a).1 + (coreF b).1 = 0
      · have e : zF [a, b] = some (plainF [(coreF b).2, (coreF a).2]) := by unfold zF; rw [if_pos c]; exact if_pos c1
        rw [e]
        exact Ev_eq (fun k => if_pos c1) ((l5Plain_ev t1 t2 (by simp)).bind (Ev.now _))
      · have e : zF [a, b] = none := by unfold zF; rw [if_pos c]; exact if_neg c1
        rw [e]
        exact Ev_eq (fun k => if_neg c1) (Ev.now _)
    | [a, b, d], h, c, hx =>
      have e : zF [a, b, d] = z3 a b d := by unfold zF; rw [if_pos c]
      rw [e]
      refine (specFormValid_ev (by simp)).bind ?_
      rw [c]
      refine Ev_eq (fun k => by rw [if_pos rfl, if_neg (by simp), if_pos (by simp)]) ?_
      exact (specThree_ev (h.1 a (by simp)) (h.1 b (by simp)) (h.1 d (by simp))).bind (Ev.now _)
    | [a, b, d, g], h, c, hx =>
      have e : zF [a, b, d, g] = z4 a b d g := by unfold zF; rw [if_pos c]
      rw [e]
      refine (specFormValid_ev (by simp)).bind ?_
      rw [c]
      refine Ev_eq (fun k => by rw [if_pos rfl, if_neg (by simp), if_neg (by simp), if_pos (by simp)]) ?_
      exact (specFourX (h.1 a (by simp)) (h.1 b (by simp)) (h.1 d (by simp)) (h.1 g (by simp)) 4 0 (by omega) (by omega)).bind (Ev.now _)
    | [], h, c, hx => simp at h
    | _ :: _ :: _ :: _ :: _ :: _, h, c, hx => simp at h
  · have e : zF f = none := by unfold zF; rw [if_neg c]
    rw [e]
    refine (specFormValid_ev (by omega)).bind ?_
    rw [Bool.eq_false_iff.2 c]
    exact Ev_eq (fun k => if_neg (by simp)) (Ev.now _)


/-! ### values that are found -/
def resV : Option (List Int × Int) → List Int × Int × Bool
  | some o => (o.1, o.2, true)
  | none => ([], 0, false)
theorem implVF2 {g d : Int} (hg : g ≠ 0) (xs : List Int) (hx : ∀ x ∈ xs, x.natAbs ≤ 1000000000000) (hd : d.natAbs ≤ 1000000000000) (hl : xs.length ≤ 1000) : ∀ (m j : Nat) (out : List Int), j + m = xs.length → out.length ≤ 5000 + j →
    Ev (fun k => impl_ValueFind.l2 k d g out xs (xs.length : Int) j) (out ++ (xs.drop j).map (fun x => x.tdiv g), d.tdiv g, true) := by
  intro m
  induction m with
  | zero =>
    intro j out hj ho
    rw [List.drop_of_length_le (by omega)]
    refine Ev.step (f := fun _ => some (out, d.tdiv g, true)) (fun k => ?_) (by simpa using Ev.now _)
    simp only [impl_ValueFind.l2]
    rw [if_neg (by omega), if_neg hg, wr_tdiv (by omega)]
  | succ m ih =>
    intro j out hj ho
    rw [rd_drop (show j < xs.length by omega), List.map_cons]
    have hm := hx _ (rd_mem (xs := xs) (j := j) (by omega))
    have h2 := ih (j + 1) (out ++ [(rd xs (j : Int)).tdiv g]) (by omega) (by simp; omega)
    rw [List.append_assoc] at h2
    refine Ev.step (fun k => ?_) h2
    simp only [impl_ValueFind.l2]
    rw [if_pos (by omega), if_pos (by omega), if_pos (by omega), if_neg hg, if_pos (by omega), wr_tdiv (by omega), w64 (x := (j : Int) + 1) (by omega) (by omega)]
    rfl
theorem implVF3 {out : List Int} {d : Int} (hne : ∃ x ∈ out ++ [d], x ≠ 0) (hx : ∀ x ∈ out, x.natAbs ≤ 1000000000000) (hdb : d.natAbs ≤ 1000000000000) (hl : out.length ≤ 1000) :
    Ev (fun k => impl_ValueFind.j3 k out d) ((lowF out d).1, (lowF out d).2, true) := by
  have hall : ∀ x ∈ out ++ [d], x.natAbs ≤ 1000000000000 := by
    intro x h
    rcases List.mem_append.1 h with k | k
    · exact hx x k
    · simp at k; subst k; exact hdb
  have g0 := gcdF_ne hne
  have g1 := gcdF_bd hne hall
  have g2 := (gcdF_spec (out ++ [d])).1
  have hs : sgG d (gcdF (out ++ [d])) ≠ 0 := by unfold sgG; split <;> omega
  have fin := implVF2 hs out hx hdb hl out.length 0 [] (by omega) (by simp)
  rw [List.drop_zero, List.nil_append] at fin
  have fin2 : Ev (fun k => impl_ValueFind.j4 k out d (sgG d (gcdF (out ++ [d])))) ((lowF out d).1, (lowF out d).2, true) := Ev.step (fun k => by simp only [impl_ValueFind.j4]; rfl) fin
  apply Ev.step
  · intro k
    simp only [impl_ValueFind.j3]
    unfold slices_Clone_int_int.f
    rw [if_pos (by omega), Option.bind_some, if_pos (by omega)]
  refine (gcd_ev (out ++ [d]) (fun x h => by have := hall x h; omega) (by simp; omega)).bind ?_
  refine Ev_eq (fun k => ?_) fin2
  unfold sgG
  by_cases c : d < 0
  · rw [if_pos c, if_pos c, w64 (x := -gcdF (out ++ [d])) (by omega) (by omega)]
  · rw [if_neg c, if_neg c]
theorem rd_getD (v : List Int) (i : Nat) : rd v (i : Int) = v.getD i 0 := by unfold rd; simp
theorem implVF1 {t a : Int} {v : List Int} {i : Nat} {d : Int} (hv : ∀ x ∈ v, x.natAbs ≤ 1000000) (hl : v.length ≤ 1000) (hi : i < v.length) (ht : t.natAbs ≤ 100) (ha : a.natAbs ≤ 100) (hd : d ≠ 0) (hdb : d.natAbs ≤ 1000000000) :
    ∀ (m j : Nat) (out : List Int), j + m = v.length → out.length = j → (∀ x ∈ out, x.natAbs ≤ 1000000000) →
    out = (v.take j).map (fun x => x * (t - a)) →
    Ev (fun k => impl_ValueFind.l1 k t out d i a v (v.length : Int) j)
      ((lowF ((v.map fun x => x * (t - a)).set i (v.getD i 0 * (t - a) + d)) d).1, (lowF ((v.map fun x => x * (t - a)).set i (v.getD i 0 * (t - a) + d)) d).2, true) := by
  have bd : ∀ x ∈ v, (x * (t - a)).natAbs ≤ 200000000 := fun x h => by
    rw [Int.natAbs_mul]
    have := Nat.mul_le_mul (hv x h) (show (t - a).natAbs ≤ 200 by omega); omega
  intro m
  induction m with
  | zero =>
    intro j out hj ho hob he
    have hgi : (v.getD i 0).natAbs ≤ 1000000 := by rw [List.getD_eq_getElem?_getD, List.getElem?_eq_getElem hi]; exact hv _ (List.getElem_mem _)
    have hbi : (v.getD i 0 * (t - a)).natAbs ≤ 200000000 := by rw [List.getD_eq_getElem?_getD, List.getElem?_eq_getElem hi]; exact bd _ (List.getElem_mem _)
    have e : out = v.map fun x => x * (t - a) := by rw [he, List.take_of_length_le (by omega)]
    have er : rd out (i : Int) = v.getD i 0 * (t - a) := by rw [e, rd_getD, getD_map _ _ _ hi]
    refine Ev.step (fun k => ?_) (implVF3 (out := (v.map fun x => x * (t - a)).set i (v.getD i 0 * (t - a) + d)) ⟨d, by simp, hd⟩ (fun x hx => ?_) (by omega) (by simp; omega))
    · simp only [impl_ValueFind.l1]
      rw [if_neg (by omega), if_pos (by omega), if_pos (by omega), er, w64 (x := v.getD i 0 * (t - a) + d) (by omega) (by omega), e]
      rfl
    · rcases List.mem_or_eq_of_mem_set hx with k | k
      · obtain ⟨y, hy, rfl⟩ := List.mem_map.1 k
        have := bd y hy; omega
      · subst k; omega
  | succ m ih =>
    intro j out hj ho hob he
    have hm := hv _ (rd_mem (xs := v) (j := j) (by omega))
    have hb := bd _ (rd_mem (xs := v) (j := j) (by omega))
    refine Ev.step (fun k => ?_) (ih (j + 1) (out ++ [rd v (j : Int) * (t - a)]) (by omega) (by simp; omega) (fun x hx => ?_) ?_)
    · simp only [impl_ValueFind.l1]
      rw [if_pos (by omega), if_pos (by omega), if_pos (by omega), if_pos (by omega), w64 (x := t - a) (by omega) (by omega), w64 (x := rd v (j : Int) * (t - a)) (by omega) (by omega), w64 (x := (j : Int) + 1) (by omega) (by omega)]
      rfl
    · rcases List.mem_append.1 hx with k | k
      · exact hob x k
      · simp at k; subst k; omega
    · rw [List.take_add_one, List.map_append, ← he, List.getElem?_eq_getElem (show j < v.length by omega)]
      congr 1
      simp only [Option.toList, List.map_cons, List.map_nil]
      rw [rd_getD, List.getD_eq_getElem?_getD, List.getElem?_eq_getElem (show j < v.length by omega)]
      rfl
theorem ax_low {v : List Int} {i : Nat} (h : i < axF v) : v.getD i 0 = 0 := by
  have h2 := List.not_of_lt_findIdx (p := fun x : Int => decide (x ≠ 0)) (xs := v) h
  have hl : i < v.length := Nat.lt_of_lt_of_le h List.findIdx_le_length
  rw [List.getD_eq_getElem?_getD, List.getElem?_eq_getElem hl]
  simpa using h2
theorem implVF0 {f v : List Int} {t : Int} (hf : ∀ x ∈ f, x.natAbs ≤ 100) (hl : v.length = f.length) (hl2 : v.length ≤ 100) (hv : ∀ x ∈ v, x.natAbs ≤ 1000000) (hn : ∃ x ∈ v, x ≠ 0) (hf0 : ∀ x ∈ f, x ≠ 0) (ht : t.natAbs ≤ 100) :
    ∀ (m j : Nat), j + m = axF v → Ev (fun k => impl_ValueFind.l0 k f t [] v j) ((lowF (outF f v t).1 (outF f v t).2).1, (lowF (outF f v t).1 (outF f v t).2).2, true) := by
  obtain ⟨a1, a2⟩ := axF_spec hn
  have hfi : (f.getD (axF v) 0).natAbs ≤ 100 ∧ f.getD (axF v) 0 ≠ 0 := by
    rw [List.getD_eq_getElem?_getD, List.getElem?_eq_getElem (by omega : axF v < f.length)]
    exact ⟨hf _ (List.getElem_mem _), hf0 _ (List.getElem_mem _)⟩
  have hvi : (v.getD (axF v) 0).natAbs ≤ 1000000 := by
    rw [List.getD_eq_getElem?_getD, List.getElem?_eq_getElem a1]
    exact hv _ (List.getElem_mem _)
  have hd : (2 * f.getD (axF v) 0 * v.getD (axF v) 0).natAbs ≤ 200000000 := by
    rw [Int.natAbs_mul]
    have := Nat.mul_le_mul (show (2 * f.getD (axF v) 0).natAbs ≤ 200 by omega) hvi; omega
  have hd0 : 2 * f.getD (axF v) 0 * v.getD (axF v) 0 ≠ 0 := Int.mul_ne_zero (Int.mul_ne_zero (by omega) hfi.2) a2
  intro m
  induction m with
  | zero =>
    intro j hj
    obtain rfl : j = axF v := by omega
    refine Ev.step (fun k => ?_) (implVF1 (t := t) (a := f.getD (axF v) 0) (i := axF v) hv (by omega) a1 ht hfi.1 hd0 (by omega) v.length 0 [] (by omega) rfl (by simp) (by simp))
    simp only [impl_ValueFind.l0]
    rw [if_pos (by omega), if_pos (by omega), rd_getD, if_neg a2, if_pos (by omega), rd_getD, w64 (x := 2 * f.getD (axF v) 0) (by omega) (by omega), w64 (x := 2 * f.getD (axF v) 0 * v.getD (axF v) 0) (by omega) (by omega)]
    rfl
  | succ m ih =>
    intro j hj
    refine Ev.step (fun k => ?_) (ih (j + 1) (by omega))
    simp only [impl_ValueFind.l0]
    rw [if_pos (by omega), if_pos (by omega), rd_getD, if_pos (ax_low (by omega)), w64 (x := (j : Int) + 1) (by omega) (by omega)]
    rfl
theorem vF_bad {f : List Int} {t : Int} (h : (formOk f && decide (f.length ≤ 3) && tOk t) = false) : vF f t = none := by unfold vF; rw [if_neg (by simp [h])]
theorem vF_good {f : List Int} {t : Int} (h : (formOk f && decide (f.length ≤ 3) && tOk t) = true) : vF f t = match zF f with
    | some v => some (lowF (outF f v t).1 (outF f v t).2)
    | none => match zF (f ++ [-t]) with
      | some w => some (lowF (w.take f.length) (w.getD f.length 0))
      | none => none := by
  unfold vF
  rw [if_pos h]
  cases zF f with
  | some v => rfl
  | none => cases zF (f ++ [-t]) <;> rfl
theorem implVF_ev {f : List Int} {t : Int} (hf : ∀ x ∈ f, x.natAbs ≤ 100) (hl : f.length ≤ 100) : Ev (fun k => impl_ValueFind.f k f t) (resV (vF f t)) := by
  have stop : vF f t = none → Ev (fun k => impl_ValueFind.j0 k f t true) (resV (vF f t)) := by
    intro e
    rw [e]
    refine Ev.step (f := fun _ => some ([], 0, false)) (fun k => ?_) (Ev.now _)
    simp only [impl_ValueFind.j0]
    rw [if_pos trivial]
  unfold impl_ValueFind.f
  refine (implFormValid_ev (fun x h => by have := hf x h; omega) (by omega)).bind ?_
  by_cases c1 : formOk f = true
  · by_cases c2 : f.length ≤ 3
    · refine Ev_eq (g := fun k => impl_ValueFind.j0 k f t (!(tOk t))) (fun k => by rw [if_pos c1, if_neg (by omega), implValueOk_eq, Option.bind_some]) ?_
      by_cases c3 : tOk t = true
      · rw [c3]
        have hall : (formOk f && decide (f.length ≤ 3) && tOk t) = true := by rw [c1, c3]; simp [c2]
        have hs := (formOk_iff.1 c1).1
        have ht' := (tOk_iff.1 c3).2
        have ht : t.natAbs ≤ 100 := by omega
        have e := vF_good hall
        apply Ev.step
        · intro k
          simp only [impl_ValueFind.j0]
          rw [if_neg (by simp)]
        refine (implFind_ev (fun x h => by have := hf x h; omega) hl).bind ?_
        cases hz : zF f with
        | some v =>
          rw [hz] at e
          simp only at e
          rw [e]
          obtain ⟨_, l2, l4, z1, z2, z3', z4'⟩ := zF_is hz
          exact Ev_eq (fun k => if_pos rfl) (implVF0 hf z1 (by omega) z4' z3' (fun x h => (hs x h).1) ht (axF v) 0 (by omega))
        | none =>
          rw [hz] at e
          simp only at e
          refine Ev_eq (g := fun k => (impl_ZeroFind.f k (f ++ [-t])).bind fun bt297 => (if bt297.2 = true then (if 0 ≤ (f.length : Int) then (if (f.length : Int) ≤ (bt297.1.length : Int) then (if (f.length : Int) < (bt297.1.length : Int) then (impl_ValueFind.j3 k (bt297.1.take ((f.length : Int) : Int).toNat) (rd bt297.1 (f.length : Int))) else (none)) else (none)) else (none)) else (some (([] : List Int), 0, false)))) (fun k => ?_) ?_
          · rw [if_neg (by simp [resS])]
            unfold slices_Clone_int_int.f
            rw [if_pos (by omega), Option.bind_some, if_pos (by omega), w64 (x := -t) (by omega) (by omega)]
          refine (implFind_ev (f := f ++ [-t]) (fun x h => ?_) (by simp; omega)).bind ?_
          · rcases List.mem_append.1 h with k | k
            · have := hf x k; omega
            · simp at k; subst k; omega
          cases hw : zF (f ++ [-t]) with
          | none =>
            rw [hw] at e
            simp only at e
            rw [e]
            exact Ev_eq (fun k => if_neg (by simp [resS])) (Ev.now _)
          | some w =>
            rw [hw] at e
            simp only at e
            rw [e]
            obtain ⟨w0, w1, w2⟩ := vF_w hw
            refine Ev_eq (fun k => ?_) (implVF3 (out := w.take f.length) (d := w.getD f.length 0) w0 (fun x h => by have := w2 x (List.mem_of_mem_take h); omega) ?_ (by simp; omega))
            · rw [show resS (some w) = (w, true) from rfl, if_pos rfl]
              dsimp only
              rw [if_pos (by omega), if_pos (by omega), if_pos (by omega), rd_getD, Int.toNat_natCast]
            · rw [List.getD_eq_getElem?_getD, List.getElem?_eq_getElem (by omega : f.length < w.length)]
              have := w2 _ (List.getElem_mem (by omega : f.length < w.length))
              simp only [Option.getD_some]; omega
      · rw [Bool.eq_false_iff.2 c3]
        exact stop (vF_bad (by rw [Bool.eq_false_iff.2 c3]; simp))
    · exact Ev_eq (fun k => by rw [if_pos c1, if_pos (by omega)]) (stop (vF_bad (by simp [c2])))
  · exact Ev_eq (fun k => by rw [if_neg c1]) (stop (vF_bad (by rw [Bool.eq_false_iff.2 c1]; simp)))


theorem l7col {xs : List Int} (hx : ∀ x ∈ xs, x.natAbs ≤ 1000000000000) (hl : xs.length ≤ 1000) {d : Int} {v : List (List Int) × Int} : ∀ (m j : Nat) (g : Int), j + m = xs.length → g.natAbs ≤ 1000000000000 → (1 ≤ j → 0 ≤ g) → 
    Ev (fun k => spec_l7Low.l0 k [xs] d (if j = xs.length then g else gcdL (xs.drop j) g) 1) v → (1 ≤ xs.length) → Ev (fun k => spec_l7Low.l1 k [xs] d g 0 j) v := by
  have w1 : wrap64 (0 + 1) = 1 := by decide +kernel
  have r0 : rd_L3 [xs] 0 = xs := rfl
  intro m
  induction m with
  | zero =>
    intro j g hj hg h0 hv h1
    rw [if_pos (by omega)] at hv
    refine Ev.step (fun k => ?_) hv
    simp only [spec_l7Low.l1]
    rw [if_pos (by omega), if_pos (by simp), r0, if_neg (by omega), w1]
  | succ m ih =>
    intro j g hj hg h0 hv h1
    have hm := hx _ (rd_mem (xs := xs) (j := j) (by omega))
    have hb : (gI g (rd xs (j : Int))).natAbs ≤ 1000000000000 := by
      have k0 := gI_nonneg g (rd xs (j : Int))
      by_cases c : g = 0
      · by_cases c2 : rd xs (j : Int) = 0
        · rw [c, c2]; unfold gI; simp
        · have := gI_le (b := g) c2; rw [gI_comm] at this; omega
      · have := gI_le (b := rd xs (j : Int)) c; omega
    apply Ev.step
    · intro k
      simp only [spec_l7Low.l1]
      rw [if_pos (by omega), if_pos (by simp), r0, if_pos (by omega), if_pos (by omega)]
    refine (l1Gcd_ev (a := g) (b := rd xs (j : Int)) (by omega) (by omega)).bind ?_
    rw [w64 (x := (j : Int) + 1) (by omega) (by omega)]
    refine ih (j + 1) (gI g (rd xs (j : Int))) (by omega) hb (fun _ => gI_nonneg _ _) ?_ h1
    rw [if_neg (by omega), rd_drop (show j < xs.length by omega)] at hv
    simp only [gcdL] at hv
    by_cases c : j + 1 = xs.length
    · rw [if_pos c]
      rw [List.drop_of_length_le (by omega)] at hv
      exact hv
    · rw [if_neg c]; exact hv
theorem l7out {xs : List Int} (hx : ∀ x ∈ xs, x.natAbs ≤ 1000000000000) (hl : xs.length ≤ 1000) {s e : Int} (hs : s ≠ 0) : ∀ (m j : Nat) (out : List Int), j + m = xs.length → out.length = j →
    Ev (fun k => spec_l7Low.l3 k [xs] s 0 out j [] e) ([out ++ (xs.drop j).map fun x => x.tdiv s], e) := by
  have w1 : wrap64 (0 + 1) = 1 := by decide +kernel
  have r0 : rd_L3 [xs] 0 = xs := rfl
  intro m
  induction m with
  | zero =>
    intro j out hj ho
    rw [List.drop_of_length_le (by omega)]
    refine Ev.step (f := fun k => spec_l7Low.l2 k [xs] s 1 [out] e) (fun k => ?_) ?_
    · simp only [spec_l7Low.l3]
      rw [if_pos (by omega), if_pos (by simp), r0, if_neg (by omega), if_pos (by simp), w1]
      rfl
    · refine Ev.step (f := fun _ => some ([out], e)) (fun k => ?_) (by simpa using Ev.now _)
      simp only [spec_l7Low.l2]
      rw [if_neg (by simp)]
  | succ m ih =>
    intro j out hj ho
    rw [rd_drop (show j < xs.length by omega), List.map_cons]
    have hm := hx _ (rd_mem (xs := xs) (j := j) (by omega))
    have h2 := ih (j + 1) (out ++ [(rd xs (j : Int)).tdiv s]) (by omega) (by simp; omega)
    rw [List.append_assoc] at h2
    refine Ev.step (fun k => ?_) h2
    simp only [spec_l7Low.l3]
    rw [if_pos (by omega), if_pos (by simp), r0, if_pos (by omega), if_pos (by omega), if_neg hs, if_pos (by omega), wr_tdiv (by omega), w64 (x := (j : Int) + 1) (by omega) (by omega)]
    rfl
theorem gcd_row {xs : List Int} {d : Int} (h1 : 1 ≤ xs.length) : gcdL xs d = gcdF (xs ++ [d]) := by
  match xs, h1 with
  | x :: xs, _ =>
    have e : gcdL (x :: xs) d = gcdF (d :: x :: xs) := by
      unfold gcdF
      simp only [gcdL]
      have : gI 0 d = absI d := by unfold gI absI; rw [Int.gcd_zero_left]
      rw [this, gI_abs2]
    rw [e]
    exact gcdF_same (fun y => by simp [or_comm, or_assoc, or_left_comm])
theorem l9Low_ev {xs : List Int} {d : Int} (hx : ∀ x ∈ xs, x.natAbs ≤ 1000000000000) (hl : xs.length ≤ 1000) (h1 : 1 ≤ xs.length) (hne : ∃ x ∈ xs ++ [d], x ≠ 0) (hdb : d.natAbs ≤ 1000000000000) : Ev (fun k => spec_l9Low.f k xs d) (lowF xs d) := by
  unfold spec_l9Low.f
  have hall : ∀ x ∈ xs ++ [d], x.natAbs ≤ 1000000000000 := by
    intro x h
    rcases List.mem_append.1 h with k | k
    · exact hx x k
    · simp at k; subst k; exact hdb
  have g0 := gcdF_ne hne
  have g1 := gcdF_bd hne hall
  have g2 := (gcdF_spec (xs ++ [d])).1
  have hs : sgG d (gcdF (xs ++ [d])) ≠ 0 := by unfold sgG; split <;> omega
  have fin : Ev (fun k => spec_l7Low.f k [xs] d) ([(lowF xs d).1], (lowF xs d).2) := by
    unfold spec_l7Low.f
    refine Ev.step (f := fun k => spec_l7Low.l1 k [xs] d d 0 (0 : Nat)) (fun k => ?_) ?_
    · simp only [spec_l7Low.l0]
      rw [if_pos (by simp)]
      rfl
    refine l7col hx hl xs.length 0 d (by omega) (by omega) (by omega) ?_ h1
    rw [if_neg (by omega), List.drop_zero, gcd_row h1]
    refine Ev.step (f := fun k => spec_l7Low.j2 k [xs] d (sgG d (gcdF (xs ++ [d])))) (fun k => ?_) ?_
    · simp only [spec_l7Low.l0]
      rw [if_neg (by simp)]
      unfold sgG
      by_cases c : d < 0
      · rw [if_pos c, if_pos c, w64 (x := -gcdF (xs ++ [d])) (by omega) (by omega)]
      · rw [if_neg c, if_neg c]
    refine Ev.step (f := fun k => spec_l7Low.l2 k [xs] (sgG d (gcdF (xs ++ [d]))) 0 [] (d.tdiv (sgG d (gcdF (xs ++ [d]))))) (fun k => ?_) ?_
    · simp only [spec_l7Low.j2]
      rw [if_neg hs, wr_tdiv (by omega)]
    refine Ev.step (f := fun k => spec_l7Low.l3 k [xs] (sgG d (gcdF (xs ++ [d]))) 0 [] (0 : Nat) [] (d.tdiv (sgG d (gcdF (xs ++ [d]))))) (fun k => ?_) ?_
    · simp only [spec_l7Low.l2]
      rw [if_pos (by simp)]
      rfl
    have := l7out hx hl (e := d.tdiv (sgG d (gcdF (xs ++ [d])))) hs xs.length 0 [] (by omega) rfl
    rw [List.drop_zero, List.nil_append] at this
    exact this
  refine fin.bind ?_
  exact Ev_eq (fun k => if_pos (by simp)) (Ev.now _)
theorem axis_ev {v : List Int} (hl : v.length ≤ 100) (hn : ∃ x ∈ v, x ≠ 0) : Ev (fun k => spec_l6kAxis.f k v) (axF v : Int) := by
  obtain ⟨a1, a2⟩ := axF_spec hn
  unfold spec_l6kAxis.f
  have : ∀ (m j : Nat), j + m = axF v → Ev (fun k => spec_l6kAxis.l0 k v j) (axF v : Int) := by
    intro m
    induction m with
    | zero =>
      intro j hj
      obtain rfl : j = axF v := by omega
      refine Ev.step (f := fun _ => some (axF v : Int)) (fun k => ?_) (Ev.now _)
      simp only [spec_l6kAxis.l0]
      rw [if_pos (by omega), if_pos (by omega), rd_getD, if_neg a2]
    | succ m ih =>
      intro j hj
      refine Ev.step (fun k => ?_) (ih (j + 1) (by omega))
      simp only [spec_l6kAxis.l0]
      rw [if_pos (by omega), if_pos (by omega), rd_getD, if_pos (ax_low (by omega)), w64 (x := (j : Int) + 1) (by omega) (by omega)]
      rfl
  exact this (axF v) 0 (by omega)
theorem outF_at {f v : List Int} {t : Int} {j : Nat} (hj : j < v.length) : (outF f v t).1.getD j 0 = if j = axF v then v.getD j 0 * (t - f.getD (axF v) 0) + (outF f v t).2 else v.getD j 0 * (t - f.getD (axF v) 0) := by
  unfold outF
  simp only
  by_cases c : j = axF v
  · rw [if_pos c, ← c, List.getD_eq_getElem?_getD, List.getElem?_set_self (by simpa using hj)]; rfl
  · rw [if_neg c, List.getD_eq_getElem?_getD, List.getElem?_set_ne (fun e => c e.symm), ← List.getD_eq_getElem?_getD, getD_map _ _ _ hj]
theorem specVF0 {f v : List Int} {t : Int} (hf : ∀ x ∈ f, x.natAbs ≤ 100) (hl : v.length = f.length) (hl2 : v.length ≤ 100) (hv : ∀ x ∈ v, x.natAbs ≤ 1000000) (hn : ∃ x ∈ v, x ≠ 0) (hf0 : ∀ x ∈ f, x ≠ 0) (ht : t.natAbs ≤ 100) :
    ∀ (m j : Nat) (out : List Int), j + m = v.length → out = (outF f v t).1.take j →
    Ev (fun k => spec_ValueFind.l0 k f t v (axF v : Int) (outF f v t).2 out j) ((lowF (outF f v t).1 (outF f v t).2).1, (lowF (outF f v t).1 (outF f v t).2).2, true) := by
  obtain ⟨a1, a2⟩ := axF_spec hn
  have hfi : (f.getD (axF v) 0).natAbs ≤ 100 ∧ f.getD (axF v) 0 ≠ 0 := by
    rw [List.getD_eq_getElem?_getD, List.getElem?_eq_getElem (by omega : axF v < f.length)]
    exact ⟨hf _ (List.getElem_mem _), hf0 _ (List.getElem_mem _)⟩
  have hvj : ∀ j, j < v.length → (v.getD j 0).natAbs ≤ 1000000 := fun j hj => by
    rw [List.getD_eq_getElem?_getD, List.getElem?_eq_getElem hj]
    exact hv _ (List.getElem_mem _)
  have hd : (outF f v t).2.natAbs ≤ 200000000 := by
    unfold outF
    simp only
    rw [Int.natAbs_mul]
    have := Nat.mul_le_mul (show (2 * f.getD (axF v) 0).natAbs ≤ 200 by omega) (hvj _ a1); omega
  have hd0 : (outF f v t).2 ≠ 0 := by unfold outF; exact Int.mul_ne_zero (Int.mul_ne_zero (by omega) hfi.2) a2
  have hol : (outF f v t).1.length = v.length := by unfold outF; simp
  have bd : ∀ j, j < v.length → (v.getD j 0 * (t - f.getD (axF v) 0)).natAbs ≤ 200000000 := fun j hj => by
    rw [Int.natAbs_mul]
    have := Nat.mul_le_mul (hvj j hj) (show (t - f.getD (axF v) 0).natAbs ≤ 200 by omega); omega
  have hob : ∀ x ∈ (outF f v t).1, x.natAbs ≤ 1000000000 := by
    intro x hx
    obtain ⟨j, hj, rfl⟩ := List.mem_iff_getElem.1 hx
    have e := outF_at (f := f) (t := t) (v := v) (j := j) (by omega)
    rw [List.getD_eq_getElem?_getD, List.getElem?_eq_getElem hj] at e
    simp only [Option.getD_some] at e
    rw [e]
    have := bd j (by omega)
    split <;> omega
  intro m
  induction m with
  | zero =>
    intro j out hj ho
    rw [List.take_of_length_le (by omega)] at ho
    subst ho
    apply Ev.step
    · intro k
      simp only [spec_ValueFind.l0]
      rw [if_neg (by omega)]
    refine (l9Low_ev (fun x h => by have := hob x h; omega) (by omega) (by omega) ⟨_, List.mem_append_right _ (List.mem_singleton.2 rfl), hd0⟩ (by omega)).bind (Ev.now _)
  | succ m ih =>
    intro j out hj ho
    have e := outF_at (f := f) (t := t) (v := v) (j := j) (by omega)
    have hb := bd j (by omega)
    have hlen : out.length ≤ 1000 := by rw [ho, List.length_take]; omega
    have nx : out ++ [(outF f v t).1.getD j 0] = (outF f v t).1.take (j + 1) := by
      rw [List.take_add_one, ← ho, List.getD_eq_getElem?_getD, List.getElem?_eq_getElem (show j < (outF f v t).1.length by omega)]; rfl
    refine Ev.step (fun k => ?_) (ih (j + 1) _ (by omega) nx)
    simp only [spec_ValueFind.l0]
    rw [if_pos (by omega), if_pos (by omega), if_pos (by omega), if_pos (by omega), rd_getD, rd_getD, w64 (x := t - f.getD (axF v) 0) (by omega) (by omega), w64 (x := v.getD j 0 * (t - f.getD (axF v) 0)) (by omega) (by omega), w64 (x := (j : Int) + 1) (by omega) (by omega)]
    by_cases c : j = axF v
    · rw [if_pos c] at e
      rw [if_pos (by omega), if_pos (by omega), e, w64 (x := v.getD j 0 * (t - f.getD (axF v) 0) + (outF f v t).2) (by omega) (by omega)]
      rfl
    · rw [if_neg c] at e
      rw [if_neg (by omega), if_pos (by omega), e]
      rfl
theorem specVF_ev {f : List Int} {t : Int} (hf : ∀ x ∈ f, x.natAbs ≤ 100) (hl : f.length ≤ 100) : Ev (fun k => spec_ValueFind.f k f t) (resV (vF f t)) := by
  have stop : vF f t = none → Ev (fun k => spec_ValueFind.j0 k f t true) (resV (vF f t)) := by
    intro e
    rw [e]
    refine Ev.step (f := fun _ => some ([], 0, false)) (fun k => ?_) (Ev.now _)
    simp only [spec_ValueFind.j0]
    rw [if_pos trivial]
  unfold spec_ValueFind.f spec_l7Form.f
  have hform : Ev (fun k => (spec_FormValid.f k f).bind fun t320 => (if t320 = true then (some (decide ((f.length : Int) ≤ 3))) else (some false))) (formOk f && decide (f.length ≤ 3)) := by
    refine (specFormValid_ev (by omega)).bind ?_
    by_cases c : formOk f = true
    · refine Ev_eq (g := fun _ => some (decide ((f.length : Int) ≤ 3))) (fun k => if_pos c) ?_
      have : (formOk f && decide (f.length ≤ 3)) = decide ((f.length : Int) ≤ 3) := by rw [c, Bool.true_and]; exact decide_eq_decide.2 (by omega)
      rw [this]; exact Ev.now _
    · rw [Bool.eq_false_iff.2 c]
      exact Ev_eq (fun k => if_neg (by simp)) (Ev.now _)
  refine hform.bind ?_
  by_cases c12 : (formOk f && decide (f.length ≤ 3)) = true
  · refine Ev_eq (g := fun k => spec_ValueFind.j0 k f t (!(tOk t))) (fun k => by rw [if_pos c12, specNumber_eq, Option.bind_some]) ?_
    by_cases c3 : tOk t = true
    · rw [c3]
      have hall : (formOk f && decide (f.length ≤ 3) && tOk t) = true := by rw [c12, c3]; rfl
      have c1 : formOk f = true := (Bool.and_eq_true_iff.1 c12).1
      obtain ⟨hs, hl1, _⟩ := formOk_iff.1 c1
      have c2 : f.length ≤ 3 := by simpa using (Bool.and_eq_true_iff.1 c12).2
      have ht' := (tOk_iff.1 c3).2
      have ht : t.natAbs ≤ 100 := by omega
      have e := vF_good hall
      apply Ev.step
      · intro k
        simp only [spec_ValueFind.j0]
        rw [if_neg (by simp)]
      refine (specFind_ev (fun x h => by have := hf x h; omega) hl).bind ?_
      cases hz : zF f with
      | some v =>
        rw [hz] at e
        simp only at e
        rw [e]
        obtain ⟨_, l2, l4, z1, z2, z3', z4'⟩ := zF_is hz
        obtain ⟨a1, a2⟩ := axF_spec z3'
        refine Ev_eq (fun k => if_pos rfl) ?_
        refine (axis_ev (v := v) (by omega) z3').bind ?_
        have hfi : (f.getD (axF v) 0).natAbs ≤ 100 := by
          rw [List.getD_eq_getElem?_getD, List.getElem?_eq_getElem (by omega : axF v < f.length)]
          exact hf _ (List.getElem_mem _)
        have hvi : (v.getD (axF v) 0).natAbs ≤ 1000000 := by
          rw [List.getD_eq_getElem?_getD, List.getElem?_eq_getElem a1]
          exact z4' _ (List.getElem_mem _)
        have hd : (2 * f.getD (axF v) 0 * v.getD (axF v) 0).natAbs ≤ 200000000 := by
          rw [Int.natAbs_mul]
          have := Nat.mul_le_mul (show (2 * f.getD (axF v) 0).natAbs ≤ 200 by omega) hvi; omega
        refine Ev_eq (fun k => ?_) (specVF0 hf z1 (by omega) z4' z3' (fun x h => (hs x h).1) ht v.length 0 [] (by omega) (by simp))
        rw [show resS (some v) = (v, true) from rfl]
        dsimp only
        rw [if_pos (by omega), if_pos (by omega), if_pos (by omega), rd_getD, rd_getD, w64 (x := 2 * f.getD (axF v) 0) (by omega) (by omega), w64 (x := 2 * f.getD (axF v) 0 * v.getD (axF v) 0) (by omega) (by omega)]
        rfl
      | none =>
        rw [hz] at e
        simp only at e
        refine Ev_eq (g := fun k => (spec_ZeroFind.f k (f ++ [-t])).bind fun bt544 => (if bt544.2 = true then (if 0 ≤ (f.length : Int) then (if (f.length : Int) ≤ (bt544.1.length : Int) then (if (f.length : Int) < (bt544.1.length : Int) then ((spec_l9Low.f k (bt544.1.take ((f.length : Int) : Int).toNat) (rd bt544.1 (f.length : Int))).bind fun bt553 => (some (bt553.1, bt553.2, true))) else (none)) else (none)) else (none)) else (some ((([] : List Int)), 0, false)))) (fun k => ?_) ?_
        · rw [if_neg (by simp [resS]), Option.bind_some, if_pos (by simp; omega), Option.bind_some, List.nil_append, if_pos (by omega), w64 (x := -t) (by omega) (by omega)]
        refine (specFind_ev (f := f ++ [-t]) (fun x h => ?_) (by simp; omega)).bind ?_
        · rcases List.mem_append.1 h with k | k
          · have := hf x k; omega
          · simp at k; subst k; omega
        cases hw : zF (f ++ [-t]) with
        | none =>
          rw [hw] at e
          simp only at e
          rw [e]
          exact Ev_eq (fun k => if_neg (by simp [resS])) (Ev.now _)
        | some w =>
          rw [hw] at e
          simp only at e
          rw [e]
          obtain ⟨w0, w1, w2⟩ := vF_w hw
          have hlow : Ev (fun k => spec_l9Low.f k (w.take f.length) (w.getD f.length 0)) (lowF (w.take f.length) (w.getD f.length 0)) := by
            refine l9Low_ev (fun x h => by have := w2 x (List.mem_of_mem_take h); omega) (by rw [List.length_take]; omega) (by rw [List.length_take]; omega) w0 ?_
            rw [List.getD_eq_getElem?_getD, List.getElem?_eq_getElem (by omega : f.length < w.length)]
            have := w2 _ (List.getElem_mem (by omega : f.length < w.length))
            simp only [Option.getD_some]; omega
          refine Ev_eq (g := fun k => (spec_l9Low.f k (w.take f.length) (w.getD f.length 0)).bind fun b => some (b.1, b.2, true)) (fun k => ?_) (hlow.bind (Ev.now _))
          rw [show resS (some w) = (w, true) from rfl, if_pos rfl]
          dsimp only
          rw [if_pos (by omega), if_pos (by omega), if_pos (by omega), rd_getD, Int.toNat_natCast]
    · rw [Bool.eq_false_iff.2 c3]
      exact stop (vF_bad (by rw [Bool.eq_false_iff.2 c3]; simp))
  · rw [Bool.eq_false_iff.2 c12]
    exact Ev_eq (fun k => if_neg (by simp)) (stop (vF_bad (by rw [Bool.eq_false_iff.2 c12]; rfl)))


/-! ### texts as lists of bytes -/
def tx (l : List UInt8) : ByteArray := ⟨l.toArray⟩
theorem tx_data (l : List UInt8) : (tx l).data.toList = l := by simp [tx]
theorem tx_size (l : List UInt8) : (tx l).size = l.length := by simp [tx, ByteArray.size]
theorem tx_append (a b : List UInt8) : tx a ++ tx b = tx (a ++ b) := by
  apply ByteArray.ext
  apply Array.ext'
  simp [tx]
theorem tx_toList (l : List UInt8) : (tx l).toList = l := by simp [tx]
theorem tx_extract (l : List UInt8) (a b : Nat) : (tx l).extract a b = tx ((l.drop a).take (b - a)) := by
  rw [Lib.extract_eq, tx_data]; rfl
theorem tx_inj {a b : List UInt8} (h : tx a = tx b) : a = b := by rw [← tx_data a, h, tx_data]
theorem index_mid {c : UInt8} : ∀ (a b : List UInt8), c ∉ a → Lib.index (a ++ c :: b) [c] = a.length
  | [], b, _ => by simp [Lib.index]
  | x :: a, b, h => by
    have hx : c ≠ x := fun e => h (by simp [e])
    have := index_mid a b (fun (m : c ∈ a) => h (List.mem_cons_of_mem _ m))
    simp only [List.cons_append, Lib.index, this, List.isPrefixOf, Bool.and_true, List.length_cons]
    rw [if_neg (by simpa using hx), if_neg (by simp)]
    omega
theorem index_not {c : UInt8} : ∀ (a : List UInt8), c ∉ a → Lib.index a [c] = -1
  | [], _ => by simp [Lib.index]
  | x :: a, h => by
    have hx : c ≠ x := fun e => h (by simp [e])
    have := index_not a (fun (m : c ∈ a) => h (List.mem_cons_of_mem _ m))
    simp only [Lib.index, this, List.isPrefixOf, Bool.and_true]
    rw [if_neg (by simpa using hx), if_pos (by simp)]
theorem split_not {c : UInt8} {a : List UInt8} (h : c ∉ a) : Lib.split a [c] = [a] := by
  unfold Lib.split
  rw [Lib.count_miss (index_not a h)]
  rfl
theorem split_mid {c : UInt8} {a : List UInt8} (b : List UInt8) (h : c ∉ a) : Lib.split (a ++ c :: b) [c] = a :: Lib.split b [c] := by
  unfold Lib.split
  have hi := index_mid a b h
  rw [Lib.count_hit (by simp) hi, Nat.add_comm 1]
  have hk : Lib.splitK [c] 0 (Lib.count b [c] + 1) (a ++ c :: b) = if Lib.index (a ++ c :: b) [c] == -1 then [a ++ c :: b] else (a ++ c :: b).take ((Lib.index (a ++ c :: b) [c]).toNat + 0) :: Lib.splitK [c] 0 (Lib.count b [c]) ((a ++ c :: b).drop ((Lib.index (a ++ c :: b) [c]).toNat + [c].length)) := rfl
  have e : (a ++ c :: b).drop (a.length + [c].length) = b := by simp
  have e2 : ((a.length : Int)).toNat = a.length := by omega
  rw [e, hk, hi, if_neg (by simp), e2, e, Nat.add_zero, List.take_left]
theorem split_tx {s : List UInt8} {c : UInt8} (hs : s.length < 4294967281) : strings_Split.f (tx s) (tx [c]) = some ((Lib.split s [c]).map tx) := by
  unfold strings_Split.f
  rw [if_pos ⟨by rw [tx_size]; exact hs, by rw [tx_size]; simp⟩]
  have h := Lib.splitB_data (tx [c]) 0 (Lib.countB (tx s) (tx [c])) (tx s)
  rw [tx_data, tx_data] at h
  have e : Lib.countB (tx s) (tx [c]) = Lib.count s [c] := by unfold Lib.countB; rw [tx_data, tx_data]
  rw [e] at h ⊢
  show _ = some ((Lib.splitK [c] 0 (Lib.count s [c]) s).map tx)
  rw [← h, List.map_map]
  have e2 : ∀ l : List ByteArray, l.map (tx ∘ fun x => x.data.toList) = l := by
    intro l
    induction l with
    | nil => rfl
    | cons x l ih => simp only [List.map_cons, ih]; rfl
  rw [e2]
/-! ### numbers as texts -/
theorem dec_step {n : Nat} (h : ¬ n < 10) : Lib.decDigits n = Lib.decDigits (n / 10) ++ [UInt8.ofNat (48 + n % 10)] := by
  rw [Lib.decDigits, dif_neg h]
theorem dec_bytes : ∀ (n : Nat), ∀ b ∈ Lib.decDigits n, 48 ≤ b.toNat ∧ b.toNat ≤ 57 := by
  intro n
  induction n using Nat.strongRecOn with
  | _ n ih =>
    by_cases c : n < 10
    · rw [Lib.decDigits_one c]
      intro b hb
      obtain rfl := List.mem_singleton.1 hb
      rw [UInt8.toNat_ofNat']
      omega
    · rw [dec_step c]
      intro b hb
      rcases List.mem_append.1 hb with hb | hb
      · exact ih _ (by omega) b hb
      · obtain rfl := List.mem_singleton.1 hb
        rw [UInt8.toNat_ofNat']
        omega
/-- The number that digits tell. -/
def valD (l : List UInt8) (n : Int) : Int := l.foldl (fun n b => n * 10 + ((b.toNat : Int) - 48)) n
theorem dec_val : ∀ (n : Nat), valD (Lib.decDigits n) 0 = n := by
  intro n
  induction n using Nat.strongRecOn with
  | _ n ih =>
    by_cases c : n < 10
    · rw [Lib.decDigits_one c]
      simp only [valD, List.foldl_cons, List.foldl_nil, UInt8.toNat_ofNat']
      omega
    · rw [dec_step c]
      have := ih (n / 10) (by omega)
      unfold valD at this ⊢
      rw [List.foldl_append, this]
      simp only [List.foldl_cons, List.foldl_nil, UInt8.toNat_ofNat']
      omega
theorem dec_ne (n : Nat) : 1 ≤ (Lib.decDigits n).length := by
  rw [Lib.decDigits_length]; exact Lib.nDigits_pos n
theorem dec_len4 {n : Nat} (h : n < 10000) : (Lib.decDigits n).length ≤ 4 := by
  rw [Lib.decDigits_length]
  by_cases c0 : n < 10
  · rw [Lib.nDigits_small c0]; omega
  rw [Lib.nDigits_big c0]
  by_cases c1 : n / 10 < 10
  · rw [Lib.nDigits_small c1]; omega
  rw [Lib.nDigits_big c1]
  by_cases c2 : n / 10 / 10 < 10
  · rw [Lib.nDigits_small c2]; omega
  rw [Lib.nDigits_big c2]
  rw [Lib.nDigits_small (by omega)]; omega
theorem digits_nat : ∀ (n : Nat), n ≤ 4611686018427387904 → Ev (fun k => laws_digits.f k (n : Int)) (tx (Lib.decDigits n)) := by
  intro n
  induction n using Nat.strongRecOn with
  | _ n ih =>
    intro hn
    by_cases c : n < 10
    · rw [Lib.decDigits_one c]
      refine Ev.step (f := fun _ => some (tx [UInt8.ofNat (48 + n)])) (fun k => ?_) (Ev.now _)
      simp only [laws_digits.f]
      rw [if_neg (by omega), if_pos (by omega), w64 (by omega) (by omega)]
      congr 1
      have e : ((48 + (n : Int)) % 256).toNat = 48 + n := by omega
      simp [strOfNums, tx, e]
    · rw [dec_step c]
      have e1 : Int.tdiv (n : Int) 10 = ((n / 10 : Nat) : Int) := rfl
      have e2 : Int.tmod (n : Int) 10 = ((n % 10 : Nat) : Int) := rfl
      have hl := Lib.nDigits_le20 (n / 10) (by omega)
      refine Ev.step (f := fun k => (laws_digits.f k ((n / 10 : Nat) : Int)).bind fun t160 => ((some (([(wrap64 (48 + ((n % 10 : Nat) : Int))) % 256] : List Int) : List Int)).bind fun y161 => (if t160.size + (strOfNums y161).size ≤ 9223372036854775807 then (some (t160 ++ (strOfNums y161))) else (none)))) (fun k => ?_) ?_
      · simp only [laws_digits.f]
        rw [if_neg (by omega), if_neg (by omega), e1, e2, w64 (x := ((n / 10 : Nat) : Int)) (by omega) (by omega)]
      refine (ih (n / 10) (by omega) (by omega)).bind ?_
      have e3 : strOfNums [(wrap64 (48 + ((n % 10 : Nat) : Int))) % 256] = tx [UInt8.ofNat (48 + n % 10)] := by
        rw [w64 (by omega) (by omega)]
        have e : ((48 + ((n % 10 : Nat) : Int)) % 256).toNat = 48 + n % 10 := by omega
        simp only [strOfNums, tx, List.map_cons, List.map_nil, e]
      simp only [Option.bind_some, e3, tx_size, tx_append, Lib.decDigits_length, List.length_singleton]
      rw [if_pos (by omega)]
      exact Ev.now _
theorem itoa_of {n : Int} (h : 0 ≤ n) : Lib.itoa n = Lib.decDigits n.toNat := by unfold Lib.itoa; rw [if_neg (by omega)]
theorem digits_ev {n : Int} (h0 : -4611686018427387904 ≤ n) (h1 : n ≤ 4611686018427387904) : Ev (fun k => laws_digits.f k n) (tx (Lib.itoa n)) := by
  by_cases c : n < 0
  · have d := digits_nat n.natAbs (by omega)
    have e : Lib.itoa n = 45 :: Lib.decDigits n.natAbs := by unfold Lib.itoa; rw [if_pos c]
    rw [e]
    refine Ev.step (f := fun k => (laws_digits.f k ((n.natAbs : Nat) : Int)).bind fun t156 => (if 1 + t156.size ≤ 9223372036854775807 then (some ((⟨#[45]⟩ : ByteArray) ++ t156)) else (none))) (fun k => ?_) (d.bind ?_)
    · simp only [laws_digits.f]
      rw [if_pos c, w64 (by omega) (by omega), show -n = ((n.natAbs : Nat) : Int) by omega]
    · have hl := Lib.nDigits_le20 n.natAbs (by omega)
      rw [tx_size, Lib.decDigits_length, if_pos (by omega), show (⟨#[45]⟩ : ByteArray) = tx [45] from rfl, tx_append]
      exact Ev.now _
  · rw [itoa_of (by omega)]
    have := digits_nat n.toNat (by omega)
    rwa [Int.toNat_of_nonneg (by omega)] at this
/-! ### lists of numbers as texts -/
/-- Numbers with a space ahead of each. -/
def spc (xs : List Int) : List UInt8 := xs.flatMap fun x => 32 :: Lib.itoa x
/-- Numbers with spaces between. -/
def jn (xs : List Int) : List UInt8 := Lib.join (xs.map Lib.itoa) [32]
def Mid (xs : List Int) : Prop := ∀ x ∈ xs, -4611686018427387904 ≤ x ∧ x ≤ 4611686018427387904
theorem spc_len {xs : List Int} (h : Mid xs) : (spc xs).length ≤ 22 * xs.length := by
  induction xs with
  | nil => simp [spc]
  | cons x xs ih =>
    have h1 := h x (by simp)
    have := ih (fun y hy => h y (by simp [hy]))
    have hl := Lib.itoa_length_le x (by omega) (by omega)
    simp only [spc, List.flatMap_cons, List.length_append, List.length_cons] at this ⊢
    omega
theorem jn_cons (x : Int) (xs : List Int) : jn (x :: xs) = Lib.itoa x ++ spc xs := by
  induction xs generalizing x with
  | nil => simp [jn, Lib.join, spc, List.intercalate]
  | cons y xs ih =>
    have := ih y
    simp only [jn, Lib.join, List.map_cons, List.intercalate, spc, List.flatMap_cons] at this ⊢
    rw [List.intersperse_cons_cons, List.flatten_cons, List.flatten_cons, this]
    simp
theorem jn_spc (xs : List Int) : (spc xs).drop 1 = jn xs := by
  cases xs with
  | nil => simp [spc, jn, Lib.join, List.intercalate]
  | cons x xs => rw [jn_cons]; simp [spc]
theorem jn_len {xs : List Int} (h : Mid xs) : (jn xs).length ≤ 22 * xs.length := by
  rw [← jn_spc, List.length_drop]
  have := spc_len h
  omega
theorem spaced_l (xs : List Int) (hx : Mid xs) (hl : xs.length ≤ 1000000) : ∀ (d j : Nat) (out : List UInt8), j + d = xs.length → out.length ≤ 22 * j →
    Ev (fun k => laws_spaced.l0 k xs (tx out) (j : Int)) (tx (out ++ spc (xs.drop j))) := by
  intro d
  induction d with
  | zero =>
    intro j out hj _
    rw [List.drop_of_length_le (by omega)]
    refine Ev.step (f := fun _ => some (tx out)) (fun k => ?_) (by simpa [spc] using Ev.now (tx out))
    simp only [laws_spaced.l0]
    rw [if_neg (by omega)]
  | succ d ih =>
    intro j out hj ho
    have hm := hx _ (rd_mem (show j < xs.length by omega))
    have hlen := Lib.itoa_length_le (rd xs (j : Int)) (by omega) (by omega)
    have := ih (j + 1) (out ++ (32 :: Lib.itoa (rd xs (j : Int)))) (by omega) (by simp; omega)
    rw [rd_drop (show j < xs.length by omega)]
    refine Ev.step (f := fun k => (laws_digits.f k (rd xs (j : Int))).bind fun t165 => (if ((tx out) ++ (⟨#[32]⟩ : ByteArray)).size + t165.size ≤ 9223372036854775807 then (laws_spaced.l0 k xs (((tx out) ++ (⟨#[32]⟩ : ByteArray)) ++ t165) ((j + 1 : Nat) : Int)) else (none))) (fun k => ?_) ((digits_ev hm.1 hm.2).bind ?_)
    · simp only [laws_spaced.l0]
      rw [if_pos (by omega), tx_size, if_pos (by omega), if_pos (by omega), w64 (x := (j : Int) + 1) (by omega) (by omega)]
      rfl
    · rw [show (⟨#[32]⟩ : ByteArray) = tx [32] from rfl, tx_append, tx_append, tx_size, tx_size]
      simp only [List.length_append, List.length_singleton]
      simp only [if_pos (show out.length + 1 + (Lib.itoa (rd xs (j : Int))).length ≤ 9223372036854775807 by omega)]
      simpa [spc] using this
theorem spaced_ev {xs : List Int} (hx : Mid xs) (hl : xs.length ≤ 1000000) : Ev (fun k => laws_spaced.f k xs) (tx (spc xs)) := by
  have := spaced_l xs hx hl xs.length 0 [] (by omega) (by simp)
  rw [List.nil_append, List.drop_zero] at this
  exact this
theorem tail_eq (l : List UInt8) : laws_tail.f (tx l) = some (tx (l.drop 1)) := by
  unfold laws_tail.f
  rw [tx_toList]
  cases l with
  | nil => rfl
  | cons x l =>
    rw [if_neg (by simp), if_pos (by rw [tx_size, List.length_cons]; omega), tx_extract, tx_size]
    simp
theorem endLine_ev {n : Int} (h0 : -4611686018427387904 ≤ n) (h1 : n ≤ 4611686018427387904) : Ev (fun k => laws_endLine.f k n) (tx ([116, 101, 114, 109, 115, 32] ++ Lib.itoa n ++ [10])) := by
  have hlen := Lib.itoa_length_le n (by omega) (by omega)
  unfold laws_endLine.f
  refine (digits_ev h0 h1).bind ?_
  rw [show (⟨#[116, 101, 114, 109, 115, 32]⟩ : ByteArray) = tx [116, 101, 114, 109, 115, 32] from rfl, show (⟨#[10]⟩ : ByteArray) = tx [10] from rfl, tx_append, tx_append, tx_size, tx_size, if_pos (by omega), if_pos (by simp; omega)]
  exact Ev.now _
theorem itoa_eq {n : Int} (h0 : -4611686018427387904 ≤ n) (h1 : n ≤ 4611686018427387904) : strconv_Itoa.f n = some (tx (Lib.itoa n)) := by
  unfold strconv_Itoa.f
  rw [if_pos (by omega)]; rfl
theorem join_eq {xs : List Int} (hx : Mid xs) (hl : xs.length ≤ 1000000) : strings_Join.f (xs.map fun x => tx (Lib.itoa x)) (tx [32]) = some (tx (jn xs)) := by
  unfold strings_Join.f
  have e : (xs.map fun x => tx (Lib.itoa x)).map (fun b => b.data.toList) = xs.map Lib.itoa := by
    rw [List.map_map]; congr 1
  have hj := jn_len hx
  rw [e, tx_data, List.length_map, if_pos ⟨by omega, by unfold jn at hj; omega⟩]
  rfl
theorem listText_l (xs : List Int) (hx : Mid xs) (hl : xs.length ≤ 1000000) : ∀ (d j : Nat), j + d = xs.length →
    Ev (fun k => impl_listText.l0 k ((xs.take j).map fun x => tx (Lib.itoa x)) xs (xs.length : Int) (j : Int)) (tx (jn xs)) := by
  intro d
  induction d with
  | zero =>
    intro j hj
    rw [List.take_of_length_le (by omega)]
    refine Ev.step (f := fun _ => some (tx (jn xs))) (fun k => ?_) (Ev.now _)
    simp only [impl_listText.l0]
    rw [if_neg (by omega), show (⟨#[32]⟩ : ByteArray) = tx [32] from rfl, join_eq hx hl]
    rfl
  | succ d ih =>
    intro j hj
    have hm := hx _ (rd_mem (show j < xs.length by omega))
    have := ih (j + 1) (by omega)
    have e : (xs.take (j + 1)).map (fun x => tx (Lib.itoa x)) = (xs.take j).map (fun x => tx (Lib.itoa x)) ++ [tx (Lib.itoa (rd xs (j : Int)))] := by
      have e9 : xs.take (j + 1) = xs.take j ++ [rd xs (j : Int)] := by
        have h9 := rd_drop (show j < xs.length by omega)
        rw [List.take_add_one, ← List.head?_drop, h9]
        simp
      rw [e9]; simp
    rw [e] at this
    refine Ev.step (fun k => ?_) this
    simp only [impl_listText.l0]
    rw [if_pos (by omega), if_pos (by omega), if_pos (by omega), itoa_eq hm.1 hm.2]
    simp only [Option.bind_some]
    rw [if_pos (by simp; omega), w64 (x := (j : Int) + 1) (by omega) (by omega)]
    rfl
theorem listText_ev {xs : List Int} (hx : Mid xs) (hl : xs.length ≤ 1000000) : Ev (fun k => impl_listText.f k xs) (tx (jn xs)) := by
  have := listText_l xs hx hl xs.length 0 (by omega)
  rw [List.take_zero, List.map_nil] at this
  exact this
/-! ### a number read from its text -/
theorem bt_tx (l : List UInt8) (j : Nat) (h : j < l.length) : bt (tx l) (j : Int) = (l[j].toNat : Int) := by
  unfold bt
  rw [dif_pos (by rw [tx_size]; simpa using h)]
  simp [tx, ByteArray.getElem_eq_getElem_data]
theorem numberOf_l (l : List UInt8) (hl : l.length ≤ 4) (hb : ∀ b ∈ l, 48 ≤ b.toNat ∧ b.toNat ≤ 57) (m : Bool) : ∀ (d j : Nat) (n : Int), j + d = l.length → 0 ≤ n → n < 10 ^ j →
    Ev (fun k => impl_numberOf.l0 k (tx l) m n (l.length : Int) (j : Int)) (if m = true then wrap64 (-(valD (l.drop j) n)) else valD (l.drop j) n) := by
  intro d
  induction d with
  | zero =>
    intro j n hj h0 h1
    rw [List.drop_of_length_le (by omega)]
    refine Ev.step (f := fun _ => some (if m = true then wrap64 (-n) else n)) (fun k => ?_) (Ev.now _)
    simp only [impl_numberOf.l0]
    rw [if_neg (by omega)]
    cases m <;> rfl
  | succ d ih =>
    intro j n hj h0 h1
    have hjl : j < l.length := by omega
    have hp : (10 : Int) ^ j ≤ 1000 := by
      have : j = 0 ∨ j = 1 ∨ j = 2 ∨ j = 3 := by omega
      rcases this with rfl | rfl | rfl | rfl <;> decide
    have hbj := hb l[j] (List.getElem_mem hjl)
    have := ih (j + 1) (n * 10 + ((l[j].toNat : Int) - 48)) (by omega) (by omega) (by rw [Int.pow_succ]; omega)
    rw [List.drop_eq_getElem_cons hjl]
    refine Ev.step (fun k => ?_) this
    simp only [impl_numberOf.l0]
    rw [if_pos (by omega), if_pos (by omega), if_pos (by rw [tx_size]; omega), bt_tx l j hjl, if_neg (by omega), if_neg (by omega), w64 (x := n * 10) (by omega) (by omega), w64 (x := (j : Int) + 1) (by omega) (by omega),
      show ((l[j].toNat : Int) - 48) % 256 = (l[j].toNat : Int) - 48 by omega, w64 (by omega) (by omega)]
    rfl
theorem cutPrefix_not (l : List UInt8) (h : l.head? ≠ some 45) : strings_CutPrefix.f (tx l) (⟨#[45]⟩ : ByteArray) = some (tx l, false) := by
  rw [show (⟨#[45]⟩ : ByteArray) = tx [45] from rfl]
  unfold strings_CutPrefix.f stringslite_CutPrefix.f stringslite_HasPrefix.f
  cases l with
  | nil => simp [tx_size]
  | cons x l =>
    have hx : x ≠ 45 := fun e => h (by simp [e])
    simp only [tx_size, tx_extract, tx_toList, List.length_cons, List.length_nil]
    rw [if_pos (by omega), if_pos (by omega), if_pos (by omega)]
    simp [hx]
theorem cutPrefix_less (l : List UInt8) : strings_CutPrefix.f (tx (45 :: l)) (⟨#[45]⟩ : ByteArray) = some (tx l, true) := by
  rw [show (⟨#[45]⟩ : ByteArray) = tx [45] from rfl]
  unfold strings_CutPrefix.f stringslite_CutPrefix.f stringslite_HasPrefix.f
  simp only [tx_size, tx_extract, tx_toList, List.length_cons, List.length_nil]
  rw [if_pos (by omega), if_pos (by omega), if_pos (by omega)]
  simp only [List.drop_zero, List.take_succ_cons, List.drop_succ_cons]
  simp
  rw [if_pos (by omega)]
  rfl
theorem numberOf_ev {n : Int} (h0 : -10000 < n) (h1 : n < 10000) : Ev (fun k => impl_numberOf.f k (tx (Lib.itoa n))) n := by
  unfold impl_numberOf.f
  by_cases c : n < 0
  · have e : Lib.itoa n = 45 :: Lib.decDigits n.natAbs := by unfold Lib.itoa; rw [if_pos c]
    have h4 := dec_len4 (n := n.natAbs) (by omega)
    have h5 := dec_ne n.natAbs
    rw [e, cutPrefix_less]
    simp only [Option.bind_some, tx_size]
    simp only [if_neg (show ¬ ((Lib.decDigits n.natAbs).length : Int) < 1 by omega), show decide (((Lib.decDigits n.natAbs).length : Int) > 4) = false from decide_eq_false (by omega)]
    have := numberOf_l (Lib.decDigits n.natAbs) h4 (dec_bytes _) true (Lib.decDigits n.natAbs).length 0 0 (by omega) (by omega) (by decide)
    rw [if_pos rfl, List.drop_zero, dec_val, w64 (by omega) (by omega), show -((n.natAbs : Nat) : Int) = n by omega] at this
    refine Ev.step (fun k => ?_) this
    simp only [impl_numberOf.j0, tx_size]
    rfl
  · rw [itoa_of (by omega)]
    have h4 := dec_len4 (n := n.toNat) (by omega)
    have h5 := dec_ne n.toNat
    rw [cutPrefix_not _ (fun e => by
      have := dec_bytes n.toNat 45 (List.mem_of_mem_head? e)
      revert this; decide)]
    simp only [Option.bind_some, tx_size]
    simp only [if_neg (show ¬ ((Lib.decDigits n.toNat).length : Int) < 1 by omega), show decide (((Lib.decDigits n.toNat).length : Int) > 4) = false from decide_eq_false (by omega)]
    have := numberOf_l (Lib.decDigits n.toNat) h4 (dec_bytes _) false (Lib.decDigits n.toNat).length 0 0 (by omega) (by omega) (by decide)
    rw [if_neg (by simp), List.drop_zero, dec_val, Int.toNat_of_nonneg (by omega)] at this
    refine Ev.step (fun k => ?_) this
    simp only [impl_numberOf.j0, tx_size]
    rfl
/-! ### a script -/
theorem runL_one {line : List UInt8} {ls : List ByteArray} {form form' : List Int} {out r : List UInt8} {x : List Int × List UInt8} (hs : line.length ≤ 1000) (hr : r.length ≤ 1000000) (ho : out.length ≤ 1000000000)
    (hc : Ev (fun k => impl_command.f k form ((Lib.split line [32]).map tx)) (form', tx r)) (hn : Ev (fun k => runL k ls form' (out ++ (r ++ [10]))) x) : Ev (fun k => runL k (tx line :: ls) form out) x := by
  simp only [runL]
  rw [show (⟨#[32]⟩ : ByteArray) = tx [32] from rfl, split_tx (by omega)]
  simp only [Option.bind_some]
  refine hc.bind ?_
  rw [tx_size]
  simp only [if_pos (And.intro hr ho)]
  rw [show (⟨#[10]⟩ : ByteArray) = tx [10] from rfl, tx_append, tx_data]
  exact hn
theorem runL_nil (form : List Int) (out : List UInt8) : Ev (fun k => runL k [] form out) (form, out) := by
  simp only [runL]; exact Ev.now _
theorem execute_ev {s out : List UInt8} {ls : List (List UInt8)} {form : List Int} (h5 : s.length ≤ 500) (hs : Lib.split s [10] = ls ++ [[]]) (hr : Ev (fun k => runL k (ls.map tx) [1] []) (form, out)) (hf : form.length ≤ 1000000) (ho : out.length ≤ 1000000000) :
    Ev (fun k => impl_Execute.f k (tx s)) (tx (out ++ ([116, 101, 114, 109, 115, 32] ++ Lib.itoa (form.length : Int) ++ [10]))) := by
  have hl := Lib.itoa_length_le (form.length : Int) (by omega) (by omega)
  unfold impl_Execute.f
  simp only [tx_size, if_neg (show ¬ s.length > 500 by omega), show (⟨#[10]⟩ : ByteArray) = tx [10] from rfl, split_tx (s := s) (c := 10) (by omega), hs]
  simp only [Option.bind_some, List.map_append, List.map_cons, List.map_nil, List.dropLast_concat]
  refine hr.bind ?_
  dsimp only
  rw [itoa_eq (n := (form.length : Int)) (by omega) (by omega)]
  simp only [Option.bind_some]
  rw [if_pos ⟨by rw [tx_size]; omega, ho, hf⟩, show (⟨#[116, 101, 114, 109, 115, 32]⟩ : ByteArray) = tx [116, 101, 114, 109, 115, 32] from rfl, tx_append, tx_append, tx_data]
  exact Ev.now _
/-- The bytes of a number's text are no blank and no end of a line. -/
theorem itoa_no (n : Int) {c : UInt8} (hc : c.toNat < 45) : c ∉ Lib.itoa n := by
  unfold Lib.itoa
  by_cases h : n < 0
  · rw [if_pos h]
    intro m
    rcases List.mem_cons.1 m with e | m
    · subst e; revert hc; decide
    · have := dec_bytes _ _ m; omega
  · rw [if_neg h]
    intro m
    have := dec_bytes _ _ m; omega


/-! ### two numbers and a place are drawn -/
/-! ### the symbol of two numbers -/
def okN (a b : Int) : Prop := a ≠ 0 ∧ b ≠ 0 ∧ a.natAbs ≤ 5000 ∧ b.natAbs ≤ 5000
instance (a b : Int) : Decidable (okN a b) := by unfold okN; infer_instance
/-! ### the line 'form' -/
def foW : List UInt8 := [102, 111, 114, 109]
theorem split_spc {a : List UInt8} (ha : (32 : UInt8) ∉ a) (xs : List Int) : Lib.split (a ++ spc xs) [32] = a :: xs.map Lib.itoa := by
  induction xs generalizing a with
  | nil => rw [show a ++ spc [] = a by simp [spc], split_not ha]; rfl
  | cons x xs ih =>
    have e : a ++ spc (x :: xs) = a ++ 32 :: (Lib.itoa x ++ spc xs) := by simp [spc]
    rw [e, split_mid _ ha, ih (itoa_no x (by decide))]
    rfl
theorem spc_no {c : UInt8} (hc : c.toNat < 45) (h32 : c ≠ 32) (xs : List Int) : c ∉ spc xs := by
  induction xs with
  | nil => simp [spc]
  | cons x xs ih =>
    have e : spc (x :: xs) = 32 :: (Lib.itoa x ++ spc xs) := by simp [spc]
    rw [e]
    intro m
    rcases List.mem_cons.1 m with m | m
    · exact h32 m
    · rcases List.mem_append.1 m with m | m
      · exact itoa_no x hc m
      · exact ih m
theorem numsOf_ev (xs : List Int) (h : ∀ x ∈ xs, x.natAbs < 10000) : Ev (fun k => numsOf k (xs.map fun x => tx (Lib.itoa x))) xs := by
  induction xs with
  | nil => exact Ev.now _
  | cons x xs ih =>
    have hx := h x (by simp)
    have := ih (fun y hy => h y (by simp [hy]))
    simp only [List.map_cons, numsOf]
    exact (numberOf_ev (n := x) (by omega) (by omega)).bind (this.bind (Ev.now _))
theorem lineForm_ev {xs : List Int} (h : ∀ x ∈ xs, x.natAbs < 10000) (h1 : 1 ≤ xs.length) (hl : xs.length ≤ 100) (form : List Int) {b : Bool} (hv : Ev (fun k => impl_FormValid.f k xs) b) :
    Ev (fun k => lineForm k form (xs.map fun x => tx (Lib.itoa x))) (if b = true then xs else form, if b = true then tx [111, 107] else tx [110, 111]) := by
  unfold lineForm
  simp only [List.length_map, if_pos (show 1 ≤ xs.length ∧ xs.length ≤ 1000000 from ⟨h1, by omega⟩)]
  exact (numsOf_ev xs h).bind (hv.bind (Ev.now _))
theorem formCmd_ev {xs : List Int} (h : ∀ x ∈ xs, x.natAbs < 10000) (h1 : 1 ≤ xs.length) (hl : xs.length ≤ 100) (form : List Int) (hv : Ev (fun k => impl_FormValid.f k xs) true) :
    Ev (fun k => impl_command.f k form ((Lib.split (foW ++ spc xs) [32]).map tx)) (xs, tx [111, 107]) := by
  rw [split_spc (by decide)]
  simp only [List.map_cons, List.map_map, impl_command.f]
  rw [show tx foW = kForm from rfl]
  simp only [if_true]
  exact lineForm_ev h h1 hl form hv
theorem split_two {a b : List UInt8} (ha : (10 : UInt8) ∉ a) (hb : (10 : UInt8) ∉ b) : Lib.split (a ++ 10 :: (b ++ [10])) [10] = [a, b] ++ [[]] := by
  rw [split_mid _ ha, show b ++ [10] = b ++ 10 :: [] from rfl, split_mid _ hb, split_not (a := []) (by simp)]
  rfl


/-! ### the line 'value' -/
def vaW : List UInt8 := [118, 97, 108, 117, 101]
theorem valueCmd_ev {xs ys : List Int} {n d : Int} (h0 : -10000 < n) (h1 : n < 10000) (hm : Mid ys) (hl : ys.length ≤ 100) (d0 : -4611686018427387904 ≤ d) (d1 : d ≤ 4611686018427387904) (hf : Ev (fun k => impl_ValueFind.f k xs n) (ys, d, true)) :
    Ev (fun k => impl_command.f k xs ((Lib.split (vaW ++ 32 :: Lib.itoa n) [32]).map tx)) (xs, tx (jn ys ++ [32, 47, 32] ++ Lib.itoa d)) := by
  rw [split_mid (a := vaW) _ (by decide), split_not (itoa_no n (by decide))]
  simp only [List.map_cons, List.map_nil, impl_command.f]
  simp only [if_neg (show ¬ tx vaW = kForm by intro e; exact absurd (tx_inj (b := foW) e) (by decide)), if_pos (show tx vaW = kValue from rfl)]
  unfold lineValue
  have hj := jn_len hm
  have hi := Lib.itoa_length_le d (by omega) (by omega)
  refine (numberOf_ev h0 h1).bind (hf.bind ?_)
  simp only [if_true]
  refine (listText_ev hm (by omega)).bind ?_
  rw [itoa_eq d0 d1]
  simp only [Option.bind_some, tx_size, if_pos (show (jn ys).length ≤ 1000000 ∧ (Lib.itoa d).length ≤ 1000000 from ⟨by omega, by omega⟩)]
  unfold valText
  rw [show (⟨#[32, 47, 32]⟩ : ByteArray) = tx [32, 47, 32] from rfl, tx_append, tx_append]
  exact Ev.now _
theorem script_ev {xs ys : List Int} {n d : Int} (h : ∀ x ∈ xs, x.natAbs ≤ 31) (h1 : 1 ≤ xs.length) (hl : xs.length ≤ 5) (hn0 : -10000 < n) (hn1 : n < 10000) (hm2 : Mid ys) (hl2 : ys.length ≤ 5) (d0 : -4611686018427387904 ≤ d) (d1 : d ≤ 4611686018427387904)
    (hf : Ev (fun k => impl_FormValid.f k xs) true) (ht : Ev (fun k => impl_ValueFind.f k xs n) (ys, d, true)) :
    Ev (fun k => impl_Execute.f k (tx ((foW ++ spc xs) ++ 10 :: ((vaW ++ 32 :: Lib.itoa n) ++ [10])))) (tx (([111, 107, 10] ++ ((jn ys ++ [32, 47, 32] ++ Lib.itoa d) ++ [10])) ++ ([116, 101, 114, 109, 115, 32] ++ Lib.itoa (xs.length : Int) ++ [10]))) := by
  have hm : Mid xs := fun x hx => by have := h x hx; omega
  have hs := spc_len hm
  have hj := jn_len hm2
  have hq := Lib.itoa_length_le n (by omega) (by omega)
  have hq2 := Lib.itoa_length_le d (by omega) (by omega)
  have e4 : foW.length = 4 := rfl
  have e6 : vaW.length = 5 := rfl
  have hn1' : (10 : UInt8) ∉ foW ++ spc xs := by
    intro m
    rcases List.mem_append.1 m with m | m
    · revert m; decide
    · exact spc_no (by decide) (by decide) xs m
  have hn2 : (10 : UInt8) ∉ vaW ++ 32 :: Lib.itoa n := by
    simp only [List.mem_append, List.mem_cons, not_or]
    exact ⟨by decide, by decide, itoa_no n (by decide)⟩
  refine execute_ev (form := xs) (by simp; omega) (split_two hn1' hn2) ?_ (by omega) (by simp; omega)
  simp only [List.map_cons, List.map_nil]
  refine runL_one (by simp; omega) (r := [111, 107]) (by simp) (by simp) (formCmd_ev (fun x hx => by have := h x hx; omega) h1 (by omega) [1] hf) ?_
  refine runL_one (by simp; omega) (r := jn ys ++ [32, 47, 32] ++ Lib.itoa d) (by simp only [List.length_append, List.length_cons, List.length_nil]; omega) (by simp) (valueCmd_ev hn0 hn1 hm2 (by omega) d0 d1 ht) ?_
  have e : ∀ {a b : List UInt8}, a = b → Ev (fun k => runL k [] xs a) (xs, b) := fun h => h ▸ runL_nil xs _
  exact e (by simp)
/-! ### a form and a number are drawn -/
theorem vfDraw_ev {l : List Int} (h : ∀ x ∈ l, (Lit.int .u8 x).wf = true) : ∃ xs t, Good92 4 xs ∧ t.natAbs ≤ 31 ∧ Ev (fun k => spec_DrawValueFind.f k l) (xs, t) := by
  obtain ⟨b, hb, ho⟩ := open_ev h
  obtain ⟨v1, h1, g1, e1⟩ := pick_ev hb (p := 0) (by omega) (by omega) (n := 3) (by omega)
  obtain ⟨v2, h2, g2, e2⟩ := pick_ev hb (p := 0 + 1) (by omega) (by omega) (n := 16) (by omega)
  have ht : 0 ≤ v2.tdiv 15 ∧ v2.tdiv 15 ≤ 1 := by rw [Int.tdiv_eq_ediv_of_nonneg (by omega)]; omega
  obtain ⟨n, hn⟩ : ∃ n : Nat, 1 + v1 + v2.tdiv 15 = (n : Int) := ⟨(1 + v1 + v2.tdiv 15).toNat, by omega⟩
  obtain ⟨xs, q', hg, h3, h4, e3⟩ := form92_draw hb (q := 0 + 1 + 1) (by omega) n (by omega) (by omega) (by omega)
  obtain ⟨t, q2, htt, e4⟩ := target_draw hb (q := q') (by omega) (by omega)
  refine ⟨xs, t, ⟨by have := hg.1; omega, hg.2⟩, htt, ?_⟩
  simp only [spec_DrawValueFind.f, ho, Option.bind_some]
  refine e1.bind (e2.bind ?_)
  have w1 : wrap64 (1 + v1) = 1 + v1 := w64 (by omega) (by omega)
  have w2 : wrap64 (v2.tdiv 15) = v2.tdiv 15 := w64 (by omega) (by omega)
  simp only [w1, w2, hn, w64 (x := (n : Int)) (by omega) (by omega)]
  exact e3.bind (e4.bind (Ev.now _))
theorem holds : laws_FnExecuteValue.Pure := by
  intro l0 _ _ hw
  refine Ev.rounds ?_
  unfold laws_FnExecuteValue.f
  by_cases big : (l0.length : Int) > 1048576
  · simp only [if_pos big]; exact Ev.now _
  obtain ⟨xs, n, hg, hn, hd⟩ := vfDraw_ev hw
  have hl := hg.1
  simp only [if_neg big]
  refine hd.bind ?_
  have h6 : ∀ x ∈ xs, x.natAbs ≤ 1000000 := fun x h => by have := hg.2.1 x h; omega
  have h3 : ∀ x ∈ xs, x.natAbs ≤ 100 := fun x h => by have := hg.2.1 x h; omega
  have hi := implVF_ev (t := n) h3 (by omega)
  refine hi.bind ((specVF_ev (t := n) h3 (by omega)).bind ?_)
  cases hz : vF xs n with
  | some o =>
    obtain ⟨ys, d⟩ := o
    rw [hz] at hi
    simp only [resV] at hi ⊢
    obtain ⟨l4, z1, z2⟩ := vF_small hz
    simp only at l4 z1 z2
    have c1 : formOk xs = true := by
      by_cases c : formOk xs = true
      · exact c
      · rw [vF_bad (by rw [Bool.eq_false_iff.2 c]; simp)] at hz; cases hz
    have hk := formOk_iff.1 c1
    simp only [bne_self_eq_false, Bool.false_eq_true, if_false, Bool.not_true]
    have gs := sameInts_ev (xs := ys) (ys := ys) (by omega)
    simp only [decide_true] at gs
    refine gs.bind ?_
    simp only [if_true]
    have hf := implFormValid_ev (xs := xs) h6 (by omega)
    rw [c1] at hf
    have hm : Mid xs := fun x hx => by have := hg.2.1 x hx; omega
    have hm2 : Mid ys := fun x hx => by have := z1 x hx; omega
    have he := script_ev (d := d) hg.2.1 (by omega) (by omega) (by omega) (by omega) hm2 (by omega) (by omega) (by omega) hf hi
    have hs := spc_len hm
    have hj := jn_len hm2
    have hq := Lib.itoa_length_le n (by omega) (by omega)
    have hq2 := Lib.itoa_length_le d (by omega) (by omega)
    have e4 : foW.length = 4 := rfl
    have h1 := Lib.itoa_length_le (xs.length : Int) (by omega) (by omega)
    apply Ev.step
    · intro k
      simp only [laws_FnExecuteValue.j0, Bool.false_eq_true, if_false]
      exact rfl
    refine (spaced_ev hm (by omega)).bind ?_
    rw [show (⟨#[102, 111, 114, 109]⟩ : ByteArray) = tx foW from rfl, show (⟨#[10, 118, 97, 108, 117, 101, 32]⟩ : ByteArray) = tx [10, 118, 97, 108, 117, 101, 32] from rfl, show (⟨#[10]⟩ : ByteArray) = tx [10] from rfl, show (⟨#[111, 107, 10]⟩ : ByteArray) = tx [111, 107, 10] from rfl, show (⟨#[32, 47, 32]⟩ : ByteArray) = tx [32, 47, 32] from rfl]
    simp only [tx_append, tx_size, List.length_append, List.length_cons, List.length_nil]
    simp only [if_pos (show 4 + (spc xs).length ≤ 9223372036854775807 by omega), if_pos (show foW.length + (spc xs).length + 7 ≤ 9223372036854775807 by omega)]
    refine (digits_ev (n := n) (by omega) (by omega)).bind ?_
    simp only [tx_append, tx_size, List.length_append, List.length_cons, List.length_nil]
    simp only [if_pos (show foW.length + (spc xs).length + (0 + 1 + 1 + 1 + 1 + 1 + 1 + 1) + (Lib.itoa n).length ≤ 9223372036854775807 by omega), if_pos (show foW.length + (spc xs).length + (0 + 1 + 1 + 1 + 1 + 1 + 1 + 1) + (Lib.itoa n).length + 1 ≤ 9223372036854775807 by omega)]
    rw [show foW ++ spc xs ++ 10 :: (vaW ++ 32 :: Lib.itoa n ++ [10]) = foW ++ spc xs ++ [10, 118, 97, 108, 117, 101, 32] ++ Lib.itoa n ++ [10] by simp [vaW]] at he
    refine he.bind ((spaced_ev hm2 (by omega)).bind ?_)
    rw [tail_eq, jn_spc]
    simp only [Option.bind_some, tx_append, tx_size, List.length_append, List.length_cons, List.length_nil]
    simp only [if_pos (show 3 + (jn ys).length ≤ 9223372036854775807 by omega), if_pos (show 0 + 1 + 1 + 1 + (jn ys).length + 3 ≤ 9223372036854775807 by omega)]
    refine (digits_ev (n := d) (by omega) (by omega)).bind ?_
    simp only [tx_append, tx_size, List.length_append, List.length_cons, List.length_nil]
    simp only [if_pos (show 0 + 1 + 1 + 1 + (jn ys).length + (0 + 1 + 1 + 1) + (Lib.itoa d).length ≤ 9223372036854775807 by omega), if_pos (show 0 + 1 + 1 + 1 + (jn ys).length + (0 + 1 + 1 + 1) + (Lib.itoa d).length + 1 ≤ 9223372036854775807 by omega)]
    refine (endLine_ev (n := (xs.length : Int)) (by omega) (by omega)).bind ?_
    rw [tx_append, tx_size, tx_toList, tx_toList]
    rw [if_pos (by simp only [List.length_append, List.length_cons, List.length_nil]; omega)]
    rw [show ([111, 107, 10] ++ ((jn ys ++ [32, 47, 32] ++ Lib.itoa d) ++ [10]) ++ ([116, 101, 114, 109, 115, 32] ++ Lib.itoa (xs.length : Int) ++ [10])) = ([111, 107, 10] ++ jn ys ++ [32, 47, 32] ++ Lib.itoa d ++ [10] ++ ([116, 101, 114, 109, 115, 32] ++ Lib.itoa (xs.length : Int) ++ [10])) by simp, beq_self_eq_true]
    exact Ev.now _
  | none =>
    simp only [resV, bne_self_eq_false, Bool.false_eq_true, if_false, Bool.not_false]
    have gs := sameInts_ev (xs := []) (ys := []) (by simp)
    simp only [decide_true] at gs
    refine gs.bind ?_
    simp only [if_true]
    refine Ev.step (f := fun k => (laws_sameInts.f k [] []).bind fun t => if t = true then some true else some false) (fun k => by simp [laws_FnExecuteValue.j0]) (gs.bind (Ev.now _))

end Go.Proofs.YtacfcoilmdhgnaaGreatDoor.QFnExecuteValue
