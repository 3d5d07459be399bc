/- A script that asks whether a form vanishes. -/
import Derived.Lib.ItoaLen
import Derived.Lib.SplitLaws
import Derived.Test.YtacfcoilmdhgnaaGreatDoorTPFnExecuteAtx7
import Derived.Test.YtacfcoilmdhgnaaGreatDoorTPlain
set_option linter.unusedVariables false
set_option linter.unusedSimpArgs false
namespace Go.Proofs.YtacfcoilmdhgnaaGreatDoor.QFnExecuteAt
open Go.RowKit Go.Proofs.YtacfcoilmdhgnaaGreatDoor.PFnExecuteAt Go.Proofs.YtacfcoilmdhgnaaGreatDoorW.PrintWords Go.Proofs.YtacfcoilmdhgnaaGreatDoorW.PrintLast Go.Proofs.YtacfcoilmdhgnaaGreatDoorW.PrintMore Locg

/-! ### draws -/
theorem xor_i64_nat (a b : Nat) (ha : a < 9223372036854775808) (hb : b < 9223372036854775808) : Go.bits .xor .i64 (a : Int) (b : Int) = ((a ^^^ b : Nat) : Int) := by
  have hx : a ^^^ b < 2 ^ 63 := Nat.xor_lt_two_pow (by omega) (by omega)
  have h1 : (BitVec.ofInt 64 (a : Int)).toNat = a := by
    rw [BitVec.ofInt_natCast, BitVec.toNat_ofNat]; exact Nat.mod_eq_of_lt (by omega)
  have h2 : (BitVec.ofInt 64 (b : Int)).toNat = b := by
    rw [BitVec.ofInt_natCast, BitVec.toNat_ofNat]; exact Nat.mod_eq_of_lt (by omega)
  show IntKind.i64.wrap ((BitVec.ofInt 64 (a : Int) ^^^ BitVec.ofInt 64 (b : Int)).toNat : Int) = _
  rw [BitVec.toNat_xor, h1, h2]
  have hw : ∀ n : Int, IntKind.i64.wrap n = wrap64 n := fun n => by simp [IntKind.wrap, wrap64, IntKind.bits, IntKind.signed]; omega
  rw [hw]
  exact w64' (by omega) (by omega)
theorem xor_nonneg (a b : Int) (ha : 0 ≤ a) (hA : a < 9223372036854775808) (hb : 0 ≤ b) (hB : b < 9223372036854775808) : 0 ≤ Go.bits .xor .i64 a b := by
  obtain ⟨a, rfl⟩ := Int.eq_ofNat_of_zero_le ha
  obtain ⟨b, rfl⟩ := Int.eq_ofNat_of_zero_le hb
  rw [xor_i64_nat a b (by omega) (by omega)]
  exact Int.natCast_nonneg _
theorem tmod_range {x n : Int} (hx : 0 ≤ x) (hn : 1 ≤ n) : 0 ≤ x.tmod n ∧ x.tmod n < n := by
  rw [Int.tmod_eq_emod_of_nonneg hx]; exact ⟨Int.emod_nonneg _ (by omega), Int.emod_lt_of_pos _ (by omega)⟩
def BytesB (b : List Int) : Prop := (∀ x ∈ b, 0 ≤ x ∧ x ≤ 255) ∧ b.length ≤ 2000
theorem BytesB.rd_ {b : List Int} (h : BytesB b) (i : Int) : 0 ≤ rd b i ∧ rd b i ≤ 255 := by
  unfold rd
  by_cases c : i.toNat < b.length
  · have := h.1 (b[i.toNat]) (by simp)
    simpa [List.getElem?_eq_getElem c] using this
  · simp [List.getElem?_eq_none (show b.length ≤ i.toNat by omega)]
/-- What the reader mixes at a place. -/
def pv (b : List Int) (p : Int) : Int := if b.length = 0 then 0 else if p < (b.length : Int) then rd b p else
  Go.bits .xor .i64 (rd b (p.tmod b.length) * 131 + rd b ((p * 7 + 3).tmod b.length) * 1117 + p * 29 + p.tdiv b.length * 53) ((rd b (p.tmod b.length) * 131 + rd b ((p * 7 + 3).tmod b.length) * 1117 + p * 29 + p.tdiv b.length * 53).tdiv 64)
theorem pick_at {b : List Int} (hb : BytesB b) {p : Int} (hp : 0 ≤ p) (hP : p ≤ 1000000000000000) {n : Int} (hn : 1 ≤ n) :
    0 ≤ pv b p ∧ Ev (fun k => spec_l6Rd_pick.f k b p n) ((pv b p).tmod n, p + 1) := by
  have hl := hb.2
  unfold pv
  rcases Nat.eq_zero_or_pos b.length with h0 | h0
  · rw [if_pos h0, Int.zero_tmod]
    refine ⟨by omega, Ev.step (f := fun _ => some (0, p + 1)) (fun k => ?_) (Ev.now _)⟩
    simp only [spec_l6Rd_pick.f, spec_l6Rd_pick.j0]
    rw [if_neg (by omega), w64 (x := p + 1) (by omega) (by omega), if_pos (by simp [h0])]
  · have e : ∀ k, spec_l6Rd_pick.f (k + 1) b p n = spec_l6Rd_pick.j0 (k + 1) n false b (p + 1) := by
      intro k
      simp only [spec_l6Rd_pick.f]
      rw [if_neg (by omega), w64 (x := p + 1) (by omega) (by omega)]
      congr 1
      simp; intro h; rw [h] at h0; simp at h0
    have hq : wrap64 (p + 1 - 1) = p := by rw [w64 (by omega) (by omega)]; omega
    rw [if_neg (by omega)]
    by_cases c : p < b.length
    · rw [if_pos c]
      refine ⟨(hb.rd_ p).1, Ev.step (f := fun _ => some ((rd b p).tmod n, p + 1)) (fun k => ?_) (Ev.now _)⟩
      have := hb.rd_ p
      rw [e]
      simp only [spec_l6Rd_pick.j0, hq]
      rw [if_neg (by simp), if_pos c, if_pos hp, if_neg (by omega), w64 (x := rd b p) (by omega) (by omega)]
    · rw [if_neg c]
      have hm := tmod_range hp (n := b.length) (by omega)
      have e7 : wrap64 (p * 7) = p * 7 := w64 (by omega) (by omega)
      have e73 : wrap64 (p * 7 + 3) = p * 7 + 3 := w64 (by omega) (by omega)
      have e29 : wrap64 (p * 29) = p * 29 := w64 (by omega) (by omega)
      have hm2 := tmod_range (x := p * 7 + 3) (by omega) (n := b.length) (by omega)
      have hA := hb.rd_ (p.tmod b.length)
      have hB := hb.rd_ ((p * 7 + 3).tmod b.length)
      have hd : 0 ≤ p.tdiv b.length ∧ p.tdiv b.length ≤ p := by
        rw [Int.tdiv_eq_ediv_of_nonneg hp]; exact ⟨Int.ediv_nonneg hp (by omega), Int.ediv_le_self _ hp⟩
      generalize hAe : rd b (p.tmod b.length) = A at hA
      generalize hBe : rd b ((p * 7 + 3).tmod b.length) = B at hB
      generalize hDe : p.tdiv b.length = D at hd
      have hx64 : 0 ≤ (A * 131 + B * 1117 + p * 29 + D * 53).tdiv 64 ∧ (A * 131 + B * 1117 + p * 29 + D * 53).tdiv 64 ≤ A * 131 + B * 1117 + p * 29 + D * 53 := by
        rw [Int.tdiv_eq_ediv_of_nonneg (by omega)]; omega
      have hx := xor_nonneg (A * 131 + B * 1117 + p * 29 + D * 53) ((A * 131 + B * 1117 + p * 29 + D * 53).tdiv 64) (by omega) (by omega) (by omega) (by omega)
      refine ⟨hx, Ev.step (f := fun _ => some (_, p + 1)) (fun k => ?_) (Ev.now _)⟩
      rw [e]
      simp only [spec_l6Rd_pick.j0, hq, e7, e73, hAe, hBe, hDe, e29]
      rw [if_neg (by simp), if_neg c, if_neg (by omega), if_pos hm.1, if_pos hm.2, if_pos hm2.1, if_pos hm2.2, if_neg (by omega)]
      rw [w64 (x := A) (by omega) (by omega), w64 (x := B) (by omega) (by omega), w64 (x := D) (by omega) (by omega), w64 (x := A * 131) (by omega) (by omega), w64 (x := B * 1117) (by omega) (by omega),
        w64 (x := A * 131 + B * 1117) (by omega) (by omega), w64 (x := A * 131 + B * 1117 + p * 29) (by omega) (by omega), w64 (x := D * 53) (by omega) (by omega),
        w64 (x := A * 131 + B * 1117 + p * 29 + D * 53) (by omega) (by omega), w64 (x := (A * 131 + B * 1117 + p * 29 + D * 53).tdiv 64) (by omega) (by omega)]
theorem pick_ev {b : List Int} (hb : BytesB b) {p : Int} (hp : 0 ≤ p) (hP : p ≤ 1000000000000000) {n : Int} (hn : 1 ≤ n) :
    ∃ v, 0 ≤ v ∧ v < n ∧ Ev (fun k => spec_l6Rd_pick.f k b p n) (v, p + 1) := by
  obtain ⟨h, e⟩ := pick_at hb hp hP hn
  exact ⟨_, (tmod_range h hn).1, (tmod_range h hn).2, e⟩
theorem open_ev {l : List Int} (h : ∀ x ∈ l, (Lit.int .u8 x).wf = true) : ∃ b, BytesB b ∧ spec_l6Open.f l = some (b, 0) := by
  have h' : ∀ x ∈ l, 0 ≤ x ∧ x ≤ 255 := fun x hx => by
    have := h x hx
    simp only [Lit.wf, Bool.and_eq_true, decide_eq_true_eq] at this
    have e1 : IntKind.u8.min = 0 := by decide
    have e2 : IntKind.u8.max = 255 := by decide
    omega
  unfold spec_l6Open.f
  by_cases c : (l.length : Int) > 2000
  · refine ⟨l.take 2000, ⟨fun x hx => h' x (List.mem_of_mem_take hx), by simp; omega⟩, ?_⟩
    rw [if_pos c, if_pos (by omega)]
  · exact ⟨l, ⟨h', by omega⟩, by rw [if_neg c]⟩


/-! ### split -/
theorem split_l {p : Int} (hp : 2 ≤ p) : ∀ (d : Nat) (n j : Int), n ≠ 0 → n.natAbs < 2 ^ d → d ≤ 63 → 0 ≤ j → j + d ≤ 1000 →
    ∀ k, d < k → impl_split.l0 k n p j = some (j + (spl p d n).1, (spl p d n).2) := by
  intro d
  induction d with
  | zero => intro n j hn h; simp at h; omega
  | succ d ih =>
    intro n j hn h hd hj hJ k hk
    obtain ⟨k, rfl⟩ : ∃ m, k = m + 1 := ⟨k - 1, by omega⟩
    simp only [impl_split.l0]
    rw [if_neg (by omega)]
    by_cases c : n.tmod p = 0
    · obtain ⟨h0, h1, h2, h3, _⟩ := tdiv_abs hp hn c
      have hlt : n.natAbs < 2 ^ 63 := Nat.lt_of_lt_of_le h (Nat.pow_le_pow_right (by omega) hd)
      rw [if_pos c, w64 (x := n.tdiv p) (by omega) (by omega), spl_dvd d c, w64 (x := j + 1) (by omega) (by omega),
        ih (n.tdiv p) (j + 1) h0 (by rw [Nat.pow_succ] at h; omega) (by omega) (by omega) (by omega) k (by omega)]
      simp only [Option.some.injEq, Prod.mk.injEq, and_true]; omega
    · rw [if_neg c, spl_not d c]
      simp
theorem split_at {n p : Int} (hp : 2 ≤ p) (hn : n ≠ 0) (h : n.natAbs < 2 ^ 63) (k : Nat) (hk : 63 < k) : impl_split.f k n p = some (val p n, unit p n) := by
  unfold impl_split.f val unit
  rw [split_l hp 63 n 0 hn h (by omega) (by omega) (by omega) k hk, ← spl_more hp 63 n hn h]
  simp
theorem split_ev {n p : Int} (hp : 2 ≤ p) (hn : n ≠ 0) (h : n.natAbs < 2 ^ 63) : Ev (fun k => impl_split.f k n p) (val p n, unit p n) := ⟨64, fun k hk => split_at hp hn h k (by omega)⟩


/-! ### valuations -/
theorem valuation_l {p : Int} (hp : 2 ≤ p) : ∀ (d : Nat) (n j : Int), n ≠ 0 → n.natAbs < 2 ^ d → d ≤ 63 → 0 ≤ j → j + d ≤ 1000 →
    ∀ k, d < k → spec_l1Valuation.l0 k n p j = some (j + (spl p d n).1, (spl p d n).2) := by
  intro d
  induction d with
  | zero => intro n j hn h; simp at h; omega
  | succ d ih =>
    intro n j hn h hd hj hJ k hk
    obtain ⟨k, rfl⟩ : ∃ m, k = m + 1 := ⟨k - 1, by omega⟩
    simp only [spec_l1Valuation.l0]
    rw [if_neg (by omega)]
    by_cases c : n.tmod p = 0
    · obtain ⟨h0, h1, h2, h3, _⟩ := tdiv_abs hp hn c
      have hlt : n.natAbs < 2 ^ 63 := Nat.lt_of_lt_of_le h (Nat.pow_le_pow_right (by omega) hd)
      rw [if_pos c, w64 (x := n.tdiv p) (by omega) (by omega), spl_dvd d c, w64 (x := j + 1) (by omega) (by omega),
        ih (n.tdiv p) (j + 1) h0 (by rw [Nat.pow_succ] at h; omega) (by omega) (by omega) (by omega) k (by omega)]
      simp only [Option.some.injEq, Prod.mk.injEq, and_true]; omega
    · rw [if_neg c, spl_not d c]
      simp
theorem valuation_at {n p : Int} (hp : 2 ≤ p) (hn : n ≠ 0) (h : n.natAbs < 2 ^ 63) (k : Nat) (hk : 63 < k) : spec_l1Valuation.f k n p = some (val p n, unit p n) := by
  unfold spec_l1Valuation.f val unit
  rw [valuation_l hp 63 n 0 hn h (by omega) (by omega) (by omega) k hk, ← spl_more hp 63 n hn h]
  simp
theorem valuation_ev {n p : Int} (hp : 2 ≤ p) (hn : n ≠ 0) (h : n.natAbs < 2 ^ 63) : Ev (fun k => spec_l1Valuation.f k n p) (val p n, unit p n) := ⟨64, fun k hk => valuation_at hp hn h k (by omega)⟩


/-! ### primes -/

/-! ### primes, of the reference -/
theorem l1Primes_in (p : Int) (hp : 2 ≤ p) (hP : p ≤ 1000001) (out : List Int) : ∀ (d : Nat) (n : Int), 0 < n → n.natAbs < 2 ^ d → d ≤ 63 →
    ∀ k, spec_l1Primes.l1 (k + d) n out p = (match k + d - (spl p d n).1.toNat with | 0 => none | m + 1 => spec_l1Primes.l0 m (spl p d n).2 out (p + 1)) := by
  intro d
  induction d with
  | zero => intro n hn h; simp at h; omega
  | succ d ih =>
    intro n hn h hd k
    have hs := spl_spec hp (d + 1) n (by omega) h
    rw [show k + (d + 1) = (k + d) + 1 from by omega]
    simp only [spec_l1Primes.l1]
    rw [if_neg (by omega)]
    by_cases c : n.tmod p = 0
    · obtain ⟨h0, h1, h2, h3, _⟩ := tdiv_abs hp (show n ≠ 0 by omega) c
      have hlt : n.natAbs < 2 ^ 63 := Nat.lt_of_lt_of_le h (Nat.pow_le_pow_right (by omega) hd)
      have h4 : (n.tdiv p).natAbs < 2 ^ d := by rw [Nat.pow_succ] at h; omega
      have hs' := spl_spec hp d (n.tdiv p) h0 h4
      rw [if_pos c, w64 (x := n.tdiv p) (by omega) (by omega), spl_dvd d c, ih (n.tdiv p) (h3 hn) h4 (by omega) k]
      simp only
      rw [show k + d + 1 - ((spl p d (n.tdiv p)).1 + 1).toNat = k + d - (spl p d (n.tdiv p)).1.toNat from by omega]
    · rw [if_neg c, spl_not d c, w64 (x := p + 1) (by omega) (by omega)]
      simp
theorem l1Primes_l : ∀ (d : Nat) (n p : Int) (out : List Int), 0 < n → n ≤ 1000000000000 → 2 ≤ p → p ≤ 1000002 → n + 2 - p ≤ d → 1 ≤ d → out.length + d ≤ 17000000000000 →
    Ev (fun k => spec_l1Primes.l0 k n out p) (out ++ pl d n p) := by
  intro d
  induction d with
  | zero => intro n p out hn hN hp hP hd h1; omega
  | succ d ih =>
    intro n p out hn hN hp hP hd h1 hl
    by_cases c : p * p ≤ n
    · have hpn : 2 * p ≤ n := by have := Int.mul_le_mul_of_nonneg_right hp (show 0 ≤ p by omega); omega
      have hp6 : p ≤ 1000000 := le_of_sq (by omega) (by omega)
      have hv := val_spec hp (show n ≠ 0 by omega) (by omega)
      have inner : ∀ o : List Int, Ev (fun k => spec_l1Primes.l0 k (unit p n) o (p + 1)) (o ++ pl d (unit p n) (p + 1)) → Ev (fun k => spec_l1Primes.j1 k n o p) (o ++ pl d (unit p n) (p + 1)) := by
        intro o ho
        obtain ⟨K, hK⟩ := ho
        refine ⟨K + 200, fun k hk => ?_⟩
        obtain ⟨k, rfl⟩ : ∃ m, k = m + 64 + 1 := ⟨k - 65, by omega⟩
        simp only [spec_l1Primes.j1]
        have e := l1Primes_in p hp (by omega) o 63 n hn (by omega) (by omega) (k + 1)
        rw [show k + 64 = k + 1 + 63 from by omega, e, ← spl_more hp 63 n (by omega) (by omega)]
        change (match k + 1 + 63 - (val p n).toNat with | 0 => none | m + 1 => spec_l1Primes.l0 m (unit p n) o (p + 1)) = _
        have hb := hv.2.2.2.1
        obtain ⟨m, hm⟩ : ∃ m, k + 1 + 63 - (val p n).toNat = m + 1 := ⟨k + 63 - (val p n).toNat, by omega⟩
        rw [hm]
        exact hK m (by omega)
      by_cases c2 : n.tmod p = 0
      · refine Ev.step (f := fun k => spec_l1Primes.j1 k n (out ++ [p]) p) (fun k => ?_) ?_
        · simp only [spec_l1Primes.l0]
          rw [wmul (a := p) (b := p) (by omega) (by omega) (by omega) (by omega), if_pos c, if_neg (by omega), if_pos c2, if_pos (by omega)]
        · have := inner (out ++ [p]) (ih (unit p n) (p + 1) (out ++ [p]) (hv.2.2.2.2.2.2 hn) (by omega) (by omega) (by omega) (by omega) (by omega) (by simp; omega))
          simp only [pl, if_pos c, if_pos c2]
          simpa using this
      · refine Ev.step (f := fun k => spec_l1Primes.j1 k n out p) (fun k => ?_) ?_
        · simp only [spec_l1Primes.l0]
          rw [wmul (a := p) (b := p) (by omega) (by omega) (by omega) (by omega), if_pos c, if_neg (by omega), if_neg c2]
        · have hu := (val_of_not c2).2
          have := inner out (by rw [hu]; exact ih n (p + 1) out hn hN (by omega) (by omega) (by omega) (by omega) (by omega))
          rw [hu] at this
          simp only [pl, if_pos c, if_neg c2]
          exact this
    · refine Ev.step (f := fun _ => some (out ++ pl (d + 1) n p)) (fun k => ?_) (Ev.now _)
      simp only [spec_l1Primes.l0, pl]
      rw [wmul (a := p) (b := p) (by omega) (by omega) (by omega) (by omega), if_neg c, if_neg c]
      by_cases c2 : n > 1
      · rw [if_pos c2, if_pos c2, if_pos (by omega)]
      · rw [if_neg c2, if_neg c2]; simp
theorem l1Primes_ev {n : Int} (hn : n ≠ 0) (h : n.natAbs ≤ 1000000000000) : Ev (fun k => spec_l1Primes.f k n) (primes n) := by
  simp only [spec_l1Primes.f, spec_l1Size.f, Option.bind_some]
  rw [size_ev (by omega) (by omega)]
  have := l1Primes_l (n.natAbs + 2) (absI n) 2 [] (by unfold absI; omega) (by unfold absI; omega) (by omega) (by omega) (by unfold absI; omega) (by omega) (by simp; omega)
  simpa [primes] using this


/-! ### residues, squares and symbols at a place -/
theorem implRest_eq {a m : Int} (h : 0 < m) (hm : m ≤ 5000) (ha : a.natAbs < 2 ^ 63) : impl_rest.f a m = some (a % m) := by
  unfold impl_rest.f
  have h1 := Int.tmod_lt_of_pos a h
  have h2 : -m < Int.tmod a m := by
    have := Int.tmod_lt_of_pos (-a) h; rw [Int.neg_tmod] at this; omega
  rw [if_neg (by omega), w64 (by omega) (by omega), rest_eq a h]
theorem specMod_eq {a m : Int} (h : 0 < m) (hm : m ≤ 5000) (ha : a.natAbs < 2 ^ 63) : spec_l1Mod.f a m = some (a % m) := by
  unfold spec_l1Mod.f
  have h1 := Int.tmod_lt_of_pos a h
  have h2 : -m < Int.tmod a m := by
    have := Int.tmod_lt_of_pos (-a) h; rw [Int.neg_tmod] at this; omega
  rw [if_neg (by omega), w64 (by omega) (by omega), rest_eq a h]
theorem implResidue_l {p r : Int} (hp : 3 ≤ p) (hP : p ≤ 5000) : ∀ (d : Nat) (x : Int), 1 ≤ x → p.tdiv 2 + 2 ≤ x + d → x ≤ 5001 →
    Ev (fun k => impl_residue.l0 k p r x) (resS p r d x) := by
  have e2 : p.tdiv 2 = p / 2 := tdiv2 (by omega)
  intro d
  induction d with
  | zero =>
    intro x h1 h2 h3
    refine Ev.step (f := fun _ => some (-1)) (fun k => ?_) (Ev.now _)
    simp only [impl_residue.l0]
    rw [w64 (x := p.tdiv 2) (by omega) (by omega), if_neg (by omega)]
  | succ d ih =>
    intro x h1 h2 h3
    by_cases c : x ≤ p.tdiv 2
    · have hxx := wmul (a := x) (b := x) (by omega) (by omega) (by omega) (by omega)
      by_cases c2 : (x * x).tmod p = r
      · refine Ev.step (f := fun _ => some 1) (fun k => ?_) (by simp only [resS, if_pos c, if_pos c2]; exact Ev.now _)
        simp only [impl_residue.l0]
        rw [w64 (x := p.tdiv 2) (by omega) (by omega), if_pos c, if_neg (by omega), hxx, if_pos c2]
      · refine Ev.step (fun k => ?_) (by simp only [resS, if_pos c, if_neg c2]; exact ih (x + 1) (by omega) (by omega) (by omega))
        simp only [impl_residue.l0]
        rw [w64 (x := p.tdiv 2) (by omega) (by omega), if_pos c, if_neg (by omega), hxx, if_neg c2, w64 (x := x + 1) (by omega) (by omega)]
    · refine Ev.step (f := fun _ => some (-1)) (fun k => ?_) (by simp only [resS, if_neg c]; exact Ev.now _)
      simp only [impl_residue.l0]
      rw [w64 (x := p.tdiv 2) (by omega) (by omega), if_neg c]
theorem implResidue_ev {p u : Int} (h : OddP p) (hu : u.natAbs < 2 ^ 63) : Ev (fun k => impl_residue.f k u p) (res p u) := by
  have hp := h.2
  unfold impl_residue.f
  simp only [implRest_eq (show 0 < p by omega) (by omega) hu, Option.bind_some]
  unfold res resR
  by_cases c : u % p = 0
  · simp only [if_pos c]; exact Ev.now _
  · simp only [if_neg c]
    exact implResidue_l (by omega) (by omega) _ 1 (by omega) (by rw [tdiv2 (by omega)]; omega) (by omega)
theorem specPower_l {m : Int} (hm : 3 ≤ m) (hM : m ≤ 5000) : ∀ (d : Nat) (b e acc : Int), 0 ≤ b → b < m → 0 ≤ acc → acc < m → 0 ≤ e → e < 2 ^ d → e ≤ 5000 →
    Ev (fun k => spec_l1Power.l0 k b e m acc) (powS m d b e acc) := by
  intro d
  induction d with
  | zero =>
    intro b e acc h1 h2 h3 h4 h5 h6 h7
    refine Ev.step (f := fun _ => some acc) (fun k => ?_) (Ev.now _)
    simp only [spec_l1Power.l0]
    rw [if_neg (by simp at h6; omega)]
  | succ d ih =>
    intro b e acc h1 h2 h3 h4 h5 h6 h7
    by_cases c : e > 0
    · have hbb := wmul (a := b) (b := b) (by omega) (by omega) (by omega) (by omega)
      have hab := wmul (a := acc) (b := b) (by omega) (by omega) (by omega) (by omega)
      have ht := tdiv2 (n := e) (by omega)
      have hb2 := tmod_range (x := b * b) (n := m) (sq_nonneg b) (by omega)
      have ha2 := tmod_range (x := acc * b) (n := m) (Int.mul_nonneg h3 h1) (by omega)
      have he2 : e.tdiv 2 < 2 ^ d := by rw [ht]; rw [Int.pow_succ] at h6; omega
      by_cases c2 : e.tmod 2 = 1
      · refine Ev.step (fun k => ?_) (by simp only [powS, if_pos c, if_pos c2]; exact ih ((b * b).tmod m) (e.tdiv 2) ((acc * b).tmod m) hb2.1 hb2.2 ha2.1 ha2.2 (by omega) he2 (by omega))
        simp only [spec_l1Power.l0]
        rw [if_pos c, if_pos c2, if_neg (by omega), hbb, hab, w64 (x := e.tdiv 2) (by omega) (by omega)]
      · refine Ev.step (fun k => ?_) (by simp only [powS, if_pos c, if_neg c2]; exact ih ((b * b).tmod m) (e.tdiv 2) acc hb2.1 hb2.2 h3 h4 (by omega) he2 (by omega))
        simp only [spec_l1Power.l0]
        rw [if_pos c, if_neg c2, if_neg (by omega), hbb, w64 (x := e.tdiv 2) (by omega) (by omega)]
    · refine Ev.step (f := fun _ => some acc) (fun k => ?_) (by simp only [powS, if_neg c]; exact Ev.now _)
      simp only [spec_l1Power.l0]
      rw [if_neg c]
theorem specResidue_ev {p u : Int} (h : OddP p) (hu : u.natAbs < 2 ^ 63) : Ev (fun k => spec_l1Residue.f k u p) (res p u) := by
  have hp := h.2
  rw [res_pow h]
  unfold spec_l1Residue.f spec_l1Power.f
  have hr := Int.emod_nonneg u (show p ≠ 0 by omega)
  have hr2 := Int.emod_lt_of_pos u (show 0 < p by omega)
  have h1 := Int.emod_nonneg 1 (show p ≠ 0 by omega)
  have h12 := Int.emod_lt_of_pos 1 (show 0 < p by omega)
  have ht := tdiv2 (n := p - 1) (by omega)
  simp only [if_neg (show ¬ p = 0 by omega), specMod_eq (show 0 < p by omega) (by omega) hu, Option.bind_some, w64 (x := p - 1) (by omega) (by omega), w64 (x := (p - 1).tdiv 2) (by omega) (by omega)]
  refine (specPower_l (by omega) (by omega) 13 (u % p) ((p - 1).tdiv 2) (1 % p) hr hr2 h1 h12 (by omega) (by omega) (by omega)).bind ?_
  unfold resPR powR
  split <;> exact Ev.now _
theorem implSq_ev {n p : Int} (h : Plc p) (hn : n ≠ 0) (hN : n.natAbs < 2 ^ 63) : Ev (fun k => impl_localSquare.f k n p) (sqAt n p) := by
  unfold impl_localSquare.f
  rcases h with rfl | h
  · simp only [if_true, code_zero hn]; exact Ev.now _
  · have hp := P7_bd h
    obtain ⟨_, v2, v3, v4, v5, v6, _⟩ := val_spec hp hn hN
    simp only [if_neg (show ¬ p = 0 by omega)]
    refine (split_ev hp hn hN).bind ?_
    simp only
    have hpar := par_cases (val p n)
    have hm : (val p n).tmod 2 = val p n % 2 := Int.tmod_eq_emod_of_nonneg v3
    by_cases c : (val p n).tmod 2 = 0
    · simp only [if_pos c]
      rcases h with rfl | h6
      · simp only [if_true, implRest_eq (a := unit 2 n) (m := 8) (by omega) (by omega) (by omega), Option.bind_some]
        have := unit2 hn hN
        have e : sqAt n 2 = (unit 2 n % 8 == 1) := by
          unfold sqAt code
          simp only [show ¬ (2 : Int) = 0 from by omega, if_false, if_true, show par (val 2 n) = 0 from by omega]
          rcases this with h | h | h | h <;> rw [h] <;> rfl
        rw [e]; exact Ev.now _
      · have h2 := h6.2
        simp only [if_neg (show ¬ p = 2 by omega)]
        refine (implResidue_ev h6 (by omega)).bind ?_
        have e : sqAt n p = (res p (unit p n) == 1) := by
          unfold sqAt code
          simp only [if_neg (show ¬ p = 0 by omega), if_neg (show ¬ p = 2 by omega), show par (val p n) = 0 from by omega]
          by_cases c : res p (unit p n) = 1
          · simp [c]
          · simp [c]
        rw [e]; exact Ev.now _
    · simp only [if_neg c]
      have e : sqAt n p = false := by
        unfold sqAt code
        simp only [if_neg (show ¬ p = 0 by omega), show par (val p n) = 1 from by omega]
        split
        · rename_i h2; subst h2; rw [show par (val 2 n) = 1 from by omega]; simp
        · simp
      rw [e]; exact Ev.now _
theorem specSq_ev {n p : Int} (h : Plc p) (hn : n ≠ 0) (hN : n.natAbs < 2 ^ 63) : Ev (fun k => spec_l2Square.f k n p) (sqAt n p) := by
  unfold spec_l2Square.f
  rcases h with rfl | h
  · simp only [if_true, code_zero hn]; exact Ev.now _
  · have hp := P7_bd h
    obtain ⟨_, v2, v3, v4, v5, v6, _⟩ := val_spec hp hn hN
    simp only [if_neg (show ¬ p = 0 by omega)]
    refine (valuation_ev hp hn hN).bind ?_
    simp only
    have hpar := par_cases (val p n)
    have hm : (val p n).tmod 2 = val p n % 2 := Int.tmod_eq_emod_of_nonneg v3
    by_cases c : (val p n).tmod 2 = 0
    · simp only [if_pos c]
      rcases h with rfl | h6
      · simp only [if_true, specMod_eq (a := unit 2 n) (m := 8) (by omega) (by omega) (by omega), Option.bind_some]
        have := unit2 hn hN
        have e : sqAt n 2 = (unit 2 n % 8 == 1) := by
          unfold sqAt code
          simp only [show ¬ (2 : Int) = 0 from by omega, if_false, if_true, show par (val 2 n) = 0 from by omega]
          rcases this with h | h | h | h <;> rw [h] <;> rfl
        rw [e]; exact Ev.now _
      · have h2 := h6.2
        simp only [if_neg (show ¬ p = 2 by omega)]
        refine (specResidue_ev h6 (by omega)).bind ?_
        have e : sqAt n p = (res p (unit p n) == 1) := by
          unfold sqAt code
          simp only [if_neg (show ¬ p = 0 by omega), if_neg (show ¬ p = 2 by omega), show par (val p n) = 0 from by omega]
          by_cases c : res p (unit p n) = 1
          · simp [c]
          · simp [c]
        rw [e]; exact Ev.now _
    · simp only [if_neg c]
      have e : sqAt n p = false := by
        unfold sqAt code
        simp only [if_neg (show ¬ p = 0 by omega), show par (val p n) = 1 from by omega]
        split
        · rename_i h2; subst h2; rw [show par (val 2 n) = 1 from by omega]; simp
        · simp
      rw [e]
      split <;> exact Ev.now _


/-! ### symbols -/
theorem power_ev {t e : Int} (he : e = 0 ∨ e = 1) (ht : t = 1 ∨ t = -1) : Ev (fun k => impl_power.f k t e) (if e = 1 then t else 1) := by
  refine ⟨2, fun k hk => ?_⟩
  obtain ⟨m, rfl⟩ : ∃ m, k = m + 2 := ⟨k - 2, by omega⟩
  rcases he with rfl | rfl <;> rcases ht with rfl | rfl <;> simp [impl_power.f, impl_power.l0, wrap64]
theorem symOdd {p a b : Int} (h : OddP p) (ha : a ≠ 0) (hb : b ≠ 0) (hA : a.natAbs < 2 ^ 63) (hB : b.natAbs < 2 ^ 63) :
    sym a b p = (if (val p a * val p b) % 2 = 1 ∧ p % 4 = 3 then -1 else 1) * (if val p b % 2 = 1 then res p (unit p a) else 1) * (if val p a % 2 = 1 then res p (unit p b) else 1) := by
  have hp := h.2
  obtain ⟨_, a2, a3, _⟩ := val_spec (p := p) (by omega) ha hA
  obtain ⟨_, b2, b3, _⟩ := val_spec (p := p) (by omega) hb hB
  have ra := res_pm h (tmod_ne a2)
  have rb := res_pm h (tmod_ne b2)
  have pa := par_cases (val p a)
  have pb := par_cases (val p b)
  unfold sym symC code
  simp only [if_neg (show ¬ p = 0 by omega), if_neg (show ¬ p = 2 by omega), Int.mul_emod (val p a) (val p b) 2]
  rcases ra with r | r <;> rcases rb with s | s <;> rcases pa with ⟨q, q'⟩ | ⟨q, q'⟩ <;> rcases pb with ⟨t, t'⟩ | ⟨t, t'⟩ <;> rw [r, s, q, q', t, t'] <;> simp
theorem half_odd {p m : Int} (h : OddP p) (hm : 0 ≤ m) : ((m * (p - 1)).tdiv 2).tmod 2 = (if m % 2 = 1 ∧ p % 4 = 3 then 1 else 0) ∧ (m * ((p - 1).tdiv 2)).tmod 2 = (if m % 2 = 1 ∧ p % 4 = 3 then 1 else 0) := by
  have hp := h.2
  have ho := prime_odd h.1 hp.1
  have e1 : (p - 1).tdiv 2 = (p - 1) / 2 := tdiv2 (by omega)
  have e2 : m * (p - 1) = 2 * (m * ((p - 1) / 2)) := by
    rw [Int.mul_left_comm]; congr 1; omega
  have h1 : 0 ≤ m * ((p - 1) / 2) := Int.mul_nonneg hm (by omega)
  have e3 : (m * (p - 1)).tdiv 2 = m * ((p - 1) / 2) := by rw [e2]; exact Int.mul_tdiv_cancel_left _ (by omega)
  rw [e3, e1, Int.tmod_eq_emod_of_nonneg h1]
  have key : m * ((p - 1) / 2) % 2 = (if m % 2 = 1 ∧ p % 4 = 3 then 1 else 0) := by
    rw [Int.mul_emod]
    have hm2 : m % 2 = 0 ∨ m % 2 = 1 := by omega
    have hq : (p % 4 = 3 ∧ (p - 1) / 2 % 2 = 1) ∨ (p % 4 = 1 ∧ (p - 1) / 2 % 2 = 0) := by omega
    rcases hm2 with e | e <;> rcases hq with ⟨f, g⟩ | ⟨f, g⟩ <;> rw [e, f, g] <;> rfl
  exact ⟨key, key⟩
theorem two8 {x : Int} (h : x = 1 ∨ x = 3 ∨ x = 5 ∨ x = 7) : wrap64 (Int.tdiv (wrap64 (x - 1)) 2) = (x - 1) / 2 ∧ wrap64 (wrap64 (x * x) - 1) = 8 * ((x * x - 1) / 8) ∧ 0 ≤ (x - 1) / 2 ∧ (x - 1) / 2 ≤ 3 ∧ 0 ≤ (x * x - 1) / 8 ∧ (x * x - 1) / 8 ≤ 6 := by
  rcases h with rfl | rfl | rfl | rfl <;> decide +kernel
theorem two16 {u : Int} (h : u % 8 = 1 ∨ u % 8 = 3 ∨ u % 8 = 5 ∨ u % 8 = 7) : ∃ X1 X2, wrap64 (Int.tdiv (wrap64 (u % 16 - 1)) 2) = X1 ∧ wrap64 (Int.tdiv (wrap64 (wrap64 (u % 16 * (u % 16)) - 1)) 8) = X2 ∧
    0 ≤ X1 ∧ X1 ≤ 7 ∧ 0 ≤ X2 ∧ X2 ≤ 28 ∧ X1 % 2 = (u % 8 - 1) / 2 % 2 ∧ X2 % 2 = (u % 8 * (u % 8) - 1) / 8 % 2 := by
  have h2 : u % 16 = u % 8 ∨ u % 16 = u % 8 + 8 := by omega
  rcases h with h | h | h | h <;> rcases h2 with h2 | h2 <;> rw [h2, h] <;> exact ⟨_, _, rfl, rfl, by decide +kernel⟩
theorem par3 (X1 Y1 X2 Y2 i j : Int) : (X1 * Y1 + i * Y2 + j * X2) % 2 = ((X1 % 2) * (Y1 % 2) + i * (Y2 % 2) + j * (X2 % 2)) % 2 := by
  have h1 : (X1 * Y1) % 2 = ((X1 % 2) * (Y1 % 2)) % 2 := Int.mul_emod _ _ _
  have h2 : (i * Y2) % 2 = (i * (Y2 % 2)) % 2 := by rw [Int.mul_emod, Int.mul_emod i (Y2 % 2)]; simp
  have h3 : (j * X2) % 2 = (j * (X2 % 2)) % 2 := by rw [Int.mul_emod, Int.mul_emod j (X2 % 2)]; simp
  omega
theorem symTwo {a b : Int} (ha : a ≠ 0) (hb : b ≠ 0) (hA : a.natAbs < 2 ^ 63) (hB : b.natAbs < 2 ^ 63) :
    sym a b 2 = (if ((unit 2 a % 8 - 1) / 2 * ((unit 2 b % 8 - 1) / 2) + val 2 a * ((unit 2 b % 8 * (unit 2 b % 8) - 1) / 8) + val 2 b * ((unit 2 a % 8 * (unit 2 a % 8) - 1) / 8)) % 2 = 1 then -1 else 1) := by
  have ua := unit2 ha hA
  have ub := unit2 hb hB
  have pa := par_cases (val 2 a)
  have pb := par_cases (val 2 b)
  unfold sym code
  simp only [show ¬ (2 : Int) = 0 from by omega, if_false, if_true]
  rcases ua with h | h | h | h <;> rcases ub with h' | h' | h' | h' <;> rw [h, h'] <;>
    rcases pa with ⟨q, q'⟩ | ⟨q, q'⟩ <;> rcases pb with ⟨t, t'⟩ | ⟨t, t'⟩ <;> rw [q, t] <;>
    first
    | (rw [if_pos (by omega)]; decide)
    | (rw [if_neg (by omega)]; decide)
theorem implSymbol_ev {p a b : Int} (h : Plc p) (ha : a ≠ 0) (hb : b ≠ 0) (hA : a.natAbs < 2 ^ 63) (hB : b.natAbs < 2 ^ 63) : Ev (fun k => impl_symbol.f k a b p) (sym a b p) := by
  unfold impl_symbol.f
  rcases h with rfl | h
  · simp only [if_true]
    unfold sym symC code
    by_cases c1 : a < 0
    · by_cases c2 : b < 0
      · simp only [if_pos c1, if_pos c2]; exact Ev.now _
      · simp only [if_pos c1, if_neg c2]; exact Ev.now _
    · simp only [if_neg c1]
      by_cases c2 : b < 0
      · simp only [if_pos c2]; exact Ev.now _
      · simp only [if_neg c2]; exact Ev.now _
  · have hp := P7_bd h
    obtain ⟨_, a2, a3, a4, a5, a6, _⟩ := val_spec hp ha hA
    obtain ⟨_, b2, b3, b4, b5, b6, _⟩ := val_spec hp hb hB
    simp only [if_neg (show ¬ p = 0 by omega)]
    refine (split_ev hp ha hA).bind ((split_ev hp hb hB).bind ?_)
    simp only
    rcases h with rfl | h6
    · simp only [if_true, implRest_eq (a := unit 2 a) (m := 8) (by omega) (by omega) (by omega), implRest_eq (a := unit 2 b) (m := 8) (by omega) (by omega) (by omega), Option.bind_some]
      have ta := two8 (unit2 ha hA)
      have tb := two8 (unit2 hb hB)
      rw [symTwo ha hb hA hB]
      generalize unit 2 a % 8 = x at ta
      generalize unit 2 b % 8 = y at tb
      generalize val 2 a = i at a3 a4
      generalize val 2 b = j at b3 b4
      simp only [ta.1, tb.1, ta.2.1, tb.2.1]
      obtain ⟨_, _, x1, x2, x3, x4⟩ := ta
      obtain ⟨_, _, y1, y2, y3, y4⟩ := tb
      generalize (x - 1) / 2 = X1 at x1 x2
      generalize (y - 1) / 2 = Y1 at y1 y2
      generalize (x * x - 1) / 8 = X2 at x3 x4
      generalize (y * y - 1) / 8 = Y2 at y3 y4
      have m0 := Int.mul_nonneg x1 y1
      have M0 := mul_le2 x1 x2 y1 y2
      have m1 := Int.mul_nonneg a3 y3
      have M1 := mul_le2 a3 (show i ≤ 63 by omega) y3 y4
      have m2 := Int.mul_nonneg b3 x3
      have M2 := mul_le2 b3 (show j ≤ 63 by omega) x3 x4
      have d1 : i * (8 * Y2) = 8 * (i * Y2) := by rw [Int.mul_left_comm]
      have d2 : j * (8 * X2) = 8 * (j * X2) := by rw [Int.mul_left_comm]
      rw [d1, d2]
      generalize X1 * Y1 = A at m0 M0
      generalize i * Y2 = B at m1 M1
      generalize j * X2 = C at m2 M2
      have e1 : (8 * B).tdiv 8 = B := Int.mul_tdiv_cancel_left _ (by omega)
      have e2 : (8 * C).tdiv 8 = C := Int.mul_tdiv_cancel_left _ (by omega)
      simp only [w64 (x := A) (by omega) (by omega), w64 (x := 8 * B) (by omega) (by omega), w64 (x := 8 * C) (by omega) (by omega), e1, e2, w64 (x := B) (by omega) (by omega), w64 (x := C) (by omega) (by omega),
        w64 (x := A + B) (by omega) (by omega), w64 (x := A + B + C) (by omega) (by omega), Int.tmod_eq_emod_of_nonneg (show 0 ≤ A + B + C by omega)]
      refine (power_ev (t := -1) (e := (A + B + C) % 2) (by omega) (by omega)).bind ?_
      exact Ev.now _
    · have h2 := h6.2
      simp only [if_neg (show ¬ p = 2 by omega)]
      have ra := res_pm h6 (tmod_ne a2)
      have rb := res_pm h6 (tmod_ne b2)
      have ea := implResidue_ev h6 (u := unit p a) (by omega)
      have eb := implResidue_ev h6 (u := unit p b) (by omega)
      rw [symOdd h6 ha hb hA hB]
      generalize res p (unit p a) = r at ra ea
      generalize res p (unit p b) = s at rb eb
      have m1 := Int.mul_nonneg a3 b3
      have M1 := mul_le2 a3 (show val p a ≤ 63 by omega) b3 (show val p b ≤ 63 by omega)
      have m2 := Int.mul_nonneg m1 (show 0 ≤ p - 1 by omega)
      have M2 := mul_le2 m1 (show val p a * val p b ≤ 4000 by omega) (show 0 ≤ p - 1 by omega) (show p - 1 ≤ 4999 by omega)
      have hh := (half_odd h6 m1).1
      have e1 : (val p b).tmod 2 = val p b % 2 := Int.tmod_eq_emod_of_nonneg b3
      have e2 : (val p a).tmod 2 = val p a % 2 := Int.tmod_eq_emod_of_nonneg a3
      have ht := tdiv2 m2
      simp only [w64 (x := val p a * val p b) (by omega) (by omega), w64 (x := p - 1) (by omega) (by omega), w64 (x := val p a * val p b * (p - 1)) (by omega) (by omega), w64 (x := (val p a * val p b * (p - 1)).tdiv 2) (by omega) (by omega), hh, e1, e2]
      refine (power_ev (t := -1) (by split <;> simp) (by omega)).bind (ea.bind ((power_ev (t := r) (e := val p b % 2) (by omega) (by omega)).bind (eb.bind ((power_ev (t := s) (e := val p a % 2) (by omega) (by omega)).bind ?_))))
      have w1 : ∀ x : Int, x = 1 ∨ x = -1 → wrap64 x = x := fun x hx => w64 (by omega) (by omega)
      have f1 : ∀ c : Prop, ∀ _ : Decidable c, (if (if c then (1 : Int) else 0) = 1 then (-1 : Int) else 1) = if c then -1 else 1 := by intro c _; split <;> simp
      rw [f1]
      generalize hX : (if (val p a * val p b) % 2 = 1 ∧ p % 4 = 3 then (-1 : Int) else 1) = X
      generalize hY : (if val p b % 2 = 1 then r else 1) = Y
      generalize hZ : (if val p a % 2 = 1 then s else 1) = Z
      have gX : X = 1 ∨ X = -1 := by rw [← hX]; split <;> simp
      have gY : Y = 1 ∨ Y = -1 := by rw [← hY]; split <;> omega
      have gZ : Z = 1 ∨ Z = -1 := by rw [← hZ]; split <;> omega
      have e3 : wrap64 (wrap64 (X * Y) * Z) = X * Y * Z := by rcases gX with rfl | rfl <;> rcases gY with rfl | rfl <;> rcases gZ with rfl | rfl <;> decide +kernel
      rw [e3]; exact Ev.now _
theorem specHalf_eq (e : Int) (h : 0 ≤ e) : spec_l3Half.f e = some (if e % 2 = 1 then -1 else 1) := by
  unfold spec_l3Half.f
  rw [Int.tmod_eq_emod_of_nonneg h]
  by_cases c : e % 2 = 0
  · rw [if_pos c, if_neg (by omega)]
  · rw [if_neg c, if_pos (by omega)]
theorem specSymbol_ev {p a b : Int} (h : Plc p) (ha : a ≠ 0) (hb : b ≠ 0) (hA : a.natAbs < 2 ^ 63) (hB : b.natAbs < 2 ^ 63) : Ev (fun k => spec_l3Symbol.f k a b p) (sym a b p) := by
  unfold spec_l3Symbol.f
  rcases h with rfl | h
  · simp only [if_true]
    unfold sym symC code
    by_cases c1 : a < 0
    · by_cases c2 : b < 0
      · simp only [if_pos c1, if_pos c2]; exact Ev.now _
      · simp only [if_pos c1, if_neg c2]; exact Ev.now _
    · simp only [if_neg c1]
      by_cases c2 : b < 0
      · simp only [if_pos c2]; exact Ev.now _
      · simp only [if_neg c2]; exact Ev.now _
  · have hp := P7_bd h
    obtain ⟨_, a2, a3, a4, a5, a6, _⟩ := val_spec hp ha hA
    obtain ⟨_, b2, b3, b4, b5, b6, _⟩ := val_spec hp hb hB
    simp only [if_neg (show ¬ p = 0 by omega)]
    refine (valuation_ev hp ha hA).bind ((valuation_ev hp hb hB).bind ?_)
    simp only
    rcases h with rfl | h6
    · simp only [if_true, specMod_eq (a := unit 2 a) (m := 16) (by omega) (by omega) (by omega), specMod_eq (a := unit 2 b) (m := 16) (by omega) (by omega) (by omega), Option.bind_some]
      obtain ⟨X1, X2, f1, f2, x1, x2, x3, x4, x5, x6⟩ := two16 (unit2 ha hA)
      obtain ⟨Y1, Y2, g1, g2, y1, y2, y3, y4, y5, y6⟩ := two16 (unit2 hb hB)
      rw [symTwo ha hb hA hB, par3, ← x5, ← x6, ← y5, ← y6, ← par3]
      simp only [f1, f2, g1, g2]
      generalize val 2 a = i at a3 a4
      generalize val 2 b = j at b3 b4
      have m0 := Int.mul_nonneg x1 y1
      have M0 := mul_le2 x1 x2 y1 y2
      have m1 := Int.mul_nonneg a3 y3
      have M1 := mul_le2 a3 (show i ≤ 63 by omega) y3 y4
      have m2 := Int.mul_nonneg b3 x3
      have M2 := mul_le2 b3 (show j ≤ 63 by omega) x3 x4
      simp only [w64 (x := X1 * Y1) (by omega) (by omega), w64 (x := i * Y2) (by omega) (by omega), w64 (x := j * X2) (by omega) (by omega), w64 (x := X1 * Y1 + i * Y2) (by omega) (by omega), w64 (x := X1 * Y1 + i * Y2 + j * X2) (by omega) (by omega),
        specHalf_eq (X1 * Y1 + i * Y2 + j * X2) (by omega), Option.bind_some]
      exact Ev.now _
    · have h2 := h6.2
      simp only [if_neg (show ¬ p = 2 by omega)]
      have ra := res_pm h6 (tmod_ne a2)
      have rb := res_pm h6 (tmod_ne b2)
      have ea := specResidue_ev h6 (u := unit p a) (by omega)
      have eb := specResidue_ev h6 (u := unit p b) (by omega)
      rw [symOdd h6 ha hb hA hB]
      generalize res p (unit p a) = r at ra ea
      generalize res p (unit p b) = s at rb eb
      have m1 := Int.mul_nonneg a3 b3
      have M1 := mul_le2 a3 (show val p a ≤ 63 by omega) b3 (show val p b ≤ 63 by omega)
      have h3 := tdiv2 (n := p - 1) (by omega)
      have m2 := Int.mul_nonneg m1 (show 0 ≤ (p - 1).tdiv 2 by omega)
      have M2 := mul_le2 m1 (show val p a * val p b ≤ 4000 by omega) (show 0 ≤ (p - 1).tdiv 2 by omega) (show (p - 1).tdiv 2 ≤ 2500 by omega)
      have hh := (half_odd h6 m1).2
      rw [Int.tmod_eq_emod_of_nonneg m2] at hh
      have e1 : (val p b).tmod 2 = val p b % 2 := Int.tmod_eq_emod_of_nonneg b3
      have e2 : (val p a).tmod 2 = val p a % 2 := Int.tmod_eq_emod_of_nonneg a3
      simp only [w64 (x := val p a * val p b) (by omega) (by omega), w64 (x := p - 1) (by omega) (by omega), w64 (x := (p - 1).tdiv 2) (by omega) (by omega), w64 (x := val p a * val p b * (p - 1).tdiv 2) (by omega) (by omega), specHalf_eq _ m2, hh, e1, e2, Option.bind_some]
      have f1 : ∀ c : Prop, ∀ _ : Decidable c, (if (if c then (1 : Int) else 0) = 1 then (-1 : Int) else 1) = if c then -1 else 1 := by intro c _; split <;> simp
      rw [f1]
      generalize hX : (if (val p a * val p b) % 2 = 1 ∧ p % 4 = 3 then (-1 : Int) else 1) = X
      have gX : X = 1 ∨ X = -1 := by rw [← hX]; split <;> simp
      have w2 : ∀ x y : Int, x = 1 ∨ x = -1 → y = 1 ∨ y = -1 → wrap64 (x * y) = x * y ∧ (x * y = 1 ∨ x * y = -1) := by
        intro x y hx hy; rcases hx with rfl | rfl <;> rcases hy with rfl | rfl <;> decide +kernel
      by_cases c1 : val p b % 2 = 1
      · simp only [if_pos c1]
        refine ea.bind ?_
        by_cases c2 : val p a % 2 = 1
        · simp only [if_pos c2]
          refine eb.bind ?_
          rw [(w2 X r gX ra).1, (w2 (X * r) s (w2 X r gX ra).2 rb).1]
          exact Ev.now _
        · simp only [if_neg c2, (w2 X r gX ra).1, Int.mul_one]; exact Ev.now _
      · simp only [if_neg c1]
        by_cases c2 : val p a % 2 = 1
        · simp only [if_pos c2]
          refine eb.bind ?_
          rw [(w2 X s gX rb).1, Int.mul_one]; exact Ev.now _
        · simp only [if_neg c2, Int.mul_one]; exact Ev.now _


/-! ### forms -/
theorem implFormValid_l (xs : List Int) (hx : ∀ x ∈ xs, x.natAbs ≤ 1000000) (hl : xs.length ≤ 100) : ∀ (d j : Nat), j + d = xs.length →
    Ev (fun k => impl_FormValid.l0 k xs xs (xs.length : Int) j) ((xs.drop j).all (fun x => decide (x ≠ 0) && decide (x.natAbs ≤ 30)) && (decide (1 ≤ xs.length) && decide (xs.length ≤ 4))) := by
  intro d
  induction d with
  | zero =>
    intro j hj
    rw [List.drop_of_length_le (by omega)]
    refine Ev.step (f := fun _ => some (decide (1 ≤ xs.length) && decide (xs.length ≤ 4))) (fun k => ?_) (by simpa using Ev.now _)
    simp only [impl_FormValid.l0]
    rw [if_neg (by omega)]
    by_cases c : 1 ≤ xs.length
    · rw [if_pos (by omega), decide_eq_true c, Bool.true_and]; congr 1; exact decide_eq_decide.2 (by omega)
    · rw [if_neg (by omega), decide_eq_false c, Bool.false_and]
  | succ d ih =>
    intro j hj
    have hm := hx _ (rd_mem (xs := xs) (j := j) (by omega))
    rw [rd_drop (show j < xs.length by omega)]
    have := ih (j + 1) (by omega)
    generalize hp : rd xs (j : Int) = p at hm
    rw [List.all_cons]
    by_cases c0 : p = 0
    · rw [decide_eq_false (by omega : ¬ p ≠ 0), Bool.false_and, Bool.false_and, Bool.false_and]
      refine Ev.step (f := fun _ => some false) (fun k => ?_) (Ev.now _)
      simp only [impl_FormValid.l0]
      rw [if_pos (by omega), if_pos (by omega), if_pos (by omega), hp, if_pos c0]
    · have hs : impl_size.f p = some (absI p) := by simp only [impl_size.f]; rw [size_ev (by omega) (by omega)]
      by_cases c : p.natAbs ≤ 30
      · rw [decide_eq_true c0, decide_eq_true c, Bool.true_and, Bool.true_and]
        refine Ev.step (fun k => ?_) this
        simp only [impl_FormValid.l0]
        rw [if_pos (by omega), if_pos (by omega), if_pos (by omega), hp, if_neg c0, hs, Option.bind_some, if_neg (by unfold absI; omega), w64 (x := (j : Int) + 1) (by omega) (by omega)]
        rfl
      · rw [decide_eq_false c, Bool.and_false, Bool.false_and, Bool.false_and]
        refine Ev.step (f := fun _ => some false) (fun k => ?_) (Ev.now _)
        simp only [impl_FormValid.l0]
        rw [if_pos (by omega), if_pos (by omega), if_pos (by omega), hp, if_neg c0, hs, Option.bind_some, if_pos (by unfold absI; omega)]
theorem implFormValid_ev {xs : List Int} (hx : ∀ x ∈ xs, x.natAbs ≤ 1000000) (hl : xs.length ≤ 100) : Ev (fun k => impl_FormValid.f k xs) (formOk xs) :=
  implFormValid_l xs hx hl xs.length 0 (by omega)
theorem specIn_eq (x a b : Int) : spec_l6In.f x a b = some (decide (a ≤ x) && decide (x ≤ b)) := by
  unfold spec_l6In.f
  by_cases c : x ≥ a
  · simp [c, show a ≤ x from c]
  · simp [c, show ¬ a ≤ x from c]
theorem specFormValid_l (xs : List Int) (hl : xs.length ≤ 100) : ∀ (d j : Nat), j + d = xs.length →
    Ev (fun k => spec_FormValid.l0 k xs j) ((xs.drop j).all (fun x => decide (x ≠ 0) && decide (x.natAbs ≤ 30)) && (decide (1 ≤ xs.length) && decide (xs.length ≤ 4))) := by
  intro d
  induction d with
  | zero =>
    intro j hj
    rw [List.drop_of_length_le (by omega)]
    refine Ev.step (f := fun _ => some (decide (1 ≤ xs.length) && decide (xs.length ≤ 4))) (fun k => ?_) (by simpa using Ev.now _)
    simp only [spec_FormValid.l0, specIn_eq, Option.bind_some]
    rw [if_neg (by omega), show decide ((1 : Int) ≤ (xs.length : Int)) = decide (1 ≤ xs.length) from decide_eq_decide.2 (by omega), show decide ((xs.length : Int) ≤ 4) = decide (xs.length ≤ 4) from decide_eq_decide.2 (by omega)]
  | succ d ih =>
    intro j hj
    rw [rd_drop (show j < xs.length by omega)]
    have := ih (j + 1) (by omega)
    generalize hp : rd xs (j : Int) = p
    rw [List.all_cons]
    by_cases c0 : p = 0
    · rw [decide_eq_false (by omega : ¬ p ≠ 0), Bool.false_and, Bool.false_and, Bool.false_and]
      refine Ev.step (f := fun _ => some false) (fun k => ?_) (Ev.now _)
      simp only [spec_FormValid.l0]
      rw [if_pos (by omega), if_pos (by omega), hp, if_pos c0]
    · have hb : (decide (-30 ≤ p) && decide (p ≤ 30)) = decide (p.natAbs ≤ 30) := by
        rw [← Bool.decide_and]; exact decide_eq_decide.2 (by omega)
      by_cases c : p.natAbs ≤ 30
      · rw [decide_eq_true c0, decide_eq_true c, Bool.true_and, Bool.true_and]
        refine Ev.step (fun k => ?_) this
        simp only [spec_FormValid.l0, specIn_eq, Option.bind_some]
        rw [if_pos (by omega), if_pos (by omega), hp, if_neg c0, hb, if_pos (decide_eq_true c), w64 (x := (j : Int) + 1) (by omega) (by omega)]
        rfl
      · rw [decide_eq_false c, Bool.and_false, Bool.false_and, Bool.false_and]
        refine Ev.step (f := fun _ => some false) (fun k => ?_) (Ev.now _)
        simp only [spec_FormValid.l0, specIn_eq, Option.bind_some]
        rw [if_pos (by omega), if_pos (by omega), hp, if_neg c0, hb, decide_eq_false c]
        simp
theorem specFormValid_ev {xs : List Int} (hl : xs.length ≤ 100) : Ev (fun k => spec_FormValid.f k xs) (formOk xs) :=
  specFormValid_l xs hl xs.length 0 (by omega)
theorem pow30 {j : Nat} (h : j ≤ 5) : 30 ^ j ≤ 24300000 := by
  have : 30 ^ j ≤ 30 ^ 5 := Nat.pow_le_pow_right (by omega) h
  omega
theorem implProduct_l (xs : List Int) (hx : ∀ x ∈ xs, Sm x) (hl : xs.length ≤ 5) : ∀ (d j : Nat) (acc : Int), j + d = xs.length → acc.natAbs ≤ 30 ^ j →
    Ev (fun k => impl_product.l0 k acc xs (xs.length : Int) j) (prodF (xs.drop j) acc) := by
  intro d
  induction d with
  | zero =>
    intro j acc hj hA
    rw [List.drop_of_length_le (by omega)]
    refine Ev.step (f := fun _ => some acc) (fun k => ?_) (Ev.now _)
    simp only [impl_product.l0]
    rw [if_neg (by omega)]
  | succ d ih =>
    intro j acc hj hA
    have hm := hx _ (rd_mem (xs := xs) (j := j) (by omega))
    rw [rd_drop (show j < xs.length by omega)]
    have h2 : (acc * rd xs j).natAbs ≤ 30 ^ (j + 1) := by rw [Int.natAbs_mul, Nat.pow_succ]; exact Nat.mul_le_mul hA hm.2
    have h3 := pow30 (show j + 1 ≤ 5 by omega)
    refine Ev.step (fun k => ?_) (ih (j + 1) (acc * rd xs j) (by omega) h2)
    simp only [impl_product.l0]
    rw [if_pos (by omega), if_pos (by omega), if_pos (by omega), w64 (x := acc * rd xs j) (by omega) (by omega), w64 (x := (j : Int) + 1) (by omega) (by omega)]
    rfl
theorem implProduct_ev {xs : List Int} (hx : ∀ x ∈ xs, Sm x) (hl : xs.length ≤ 5) : Ev (fun k => impl_product.f k xs) (prod xs) :=
  implProduct_l xs hx hl xs.length 0 1 (by omega) (by simp)
theorem specProduct_l (xs : List Int) (hx : ∀ x ∈ xs, Sm x) (hl : xs.length ≤ 5) : ∀ (d j : Nat) (acc : Int), j + d = xs.length → acc.natAbs ≤ 30 ^ j →
    Ev (fun k => spec_l4Product.l0 k xs acc j) (prodF (xs.drop j) acc) := by
  intro d
  induction d with
  | zero =>
    intro j acc hj hA
    rw [List.drop_of_length_le (by omega)]
    refine Ev.step (f := fun _ => some acc) (fun k => ?_) (Ev.now _)
    simp only [spec_l4Product.l0]
    rw [if_neg (by omega)]
  | succ d ih =>
    intro j acc hj hA
    have hm := hx _ (rd_mem (xs := xs) (j := j) (by omega))
    rw [rd_drop (show j < xs.length by omega)]
    have h2 : (acc * rd xs j).natAbs ≤ 30 ^ (j + 1) := by rw [Int.natAbs_mul, Nat.pow_succ]; exact Nat.mul_le_mul hA hm.2
    have h3 := pow30 (show j + 1 ≤ 5 by omega)
    refine Ev.step (fun k => ?_) (ih (j + 1) (acc * rd xs j) (by omega) h2)
    simp only [spec_l4Product.l0]
    rw [if_pos (by omega), if_pos (by omega), w64 (x := acc * rd xs j) (by omega) (by omega), w64 (x := (j : Int) + 1) (by omega) (by omega)]
    rfl
theorem specProduct_ev {xs : List Int} (hx : ∀ x ∈ xs, Sm x) (hl : xs.length ≤ 5) : Ev (fun k => spec_l4Product.f k xs) (prod xs) :=
  specProduct_l xs hx hl xs.length 0 1 (by omega) (by simp)
theorem implLess_l (xs : List Int) (hl : xs.length ≤ 100) : ∀ (d j : Nat) (acc : Int), j + d = xs.length → 0 ≤ acc → acc ≤ j →
    Ev (fun k => impl_lessTerms.l0 k acc xs (xs.length : Int) j) (lessF (xs.drop j) acc) := by
  intro d
  induction d with
  | zero =>
    intro j acc hj h0 hA
    rw [List.drop_of_length_le (by omega)]
    refine Ev.step (f := fun _ => some acc) (fun k => ?_) (Ev.now _)
    simp only [impl_lessTerms.l0]
    rw [if_neg (by omega)]
  | succ d ih =>
    intro j acc hj h0 hA
    rw [rd_drop (show j < xs.length by omega)]
    simp only [lessF]
    by_cases c : rd xs j < 0
    · simp only [if_pos c]
      refine Ev.step (fun k => ?_) (ih (j + 1) (acc + 1) (by omega) (by omega) (by omega))
      simp only [impl_lessTerms.l0]
      rw [if_pos (by omega), if_pos (by omega), if_pos (by omega), if_pos c, w64 (x := acc + 1) (by omega) (by omega), w64 (x := (j : Int) + 1) (by omega) (by omega)]
      rfl
    · simp only [if_neg c]
      refine Ev.step (fun k => ?_) (ih (j + 1) acc (by omega) (by omega) (by omega))
      simp only [impl_lessTerms.l0]
      rw [if_pos (by omega), if_pos (by omega), if_pos (by omega), if_neg c, w64 (x := (j : Int) + 1) (by omega) (by omega)]
      rfl
theorem implLess_ev {xs : List Int} (hl : xs.length ≤ 100) : Ev (fun k => impl_lessTerms.f k xs) (less xs) := implLess_l xs hl xs.length 0 0 (by omega) (by omega) (by omega)
theorem specLess_l (xs : List Int) (hl : xs.length ≤ 100) : ∀ (d j : Nat) (acc : Int), j + d = xs.length → 0 ≤ acc → acc ≤ j →
    Ev (fun k => spec_l4Less.l0 k xs acc j) (lessF (xs.drop j) acc) := by
  intro d
  induction d with
  | zero =>
    intro j acc hj h0 hA
    rw [List.drop_of_length_le (by omega)]
    refine Ev.step (f := fun _ => some acc) (fun k => ?_) (Ev.now _)
    simp only [spec_l4Less.l0]
    rw [if_neg (by omega)]
  | succ d ih =>
    intro j acc hj h0 hA
    rw [rd_drop (show j < xs.length by omega)]
    simp only [lessF]
    by_cases c : rd xs j < 0
    · simp only [if_pos c]
      refine Ev.step (fun k => ?_) (ih (j + 1) (acc + 1) (by omega) (by omega) (by omega))
      simp only [spec_l4Less.l0]
      rw [if_pos (by omega), if_pos (by omega), if_pos c, w64 (x := acc + 1) (by omega) (by omega), w64 (x := (j : Int) + 1) (by omega) (by omega)]
      rfl
    · simp only [if_neg c]
      refine Ev.step (fun k => ?_) (ih (j + 1) acc (by omega) (by omega) (by omega))
      simp only [spec_l4Less.l0]
      rw [if_pos (by omega), if_pos (by omega), if_neg c, w64 (x := (j : Int) + 1) (by omega) (by omega)]
      rfl
theorem specLess_ev {xs : List Int} (hl : xs.length ≤ 100) : Ev (fun k => spec_l4Less.f k xs) (less xs) := specLess_l xs hl xs.length 0 0 (by omega) (by omega) (by omega)
theorem rd_take {xs : List Int} {i j : Nat} (h : j < i) : rd (xs.take i) (j : Int) = rd xs (j : Int) := by
  simp [rd, List.getElem?_take, h]
theorem implInn_l {p : Int} (hp : Plc p) (xs : List Int) (hx : ∀ x ∈ xs, Sm x) (hl : xs.length ≤ 5) (i : Nat) (hi : i < xs.length) (v : Int) : ∀ (d j : Nat) (acc : Int), j + d = i → (acc = 1 ∨ acc = -1) →
    Ev (fun k => impl_invariant.l0 k xs p (inn p (rd xs i) ((xs.take i).drop j) acc) xs (xs.length : Int) ((i + 1 : Nat) : Int)) v →
    Ev (fun k => impl_invariant.l1 k xs p acc (rd xs i) xs (xs.length : Int) i (xs.take ((i : Nat) : Int).toNat) ((xs.take ((i : Nat) : Int).toNat).length : Int) j) v := by
  have hlen : (xs.take ((i : Nat) : Int).toNat).length = i := by simp; omega
  intro d
  induction d with
  | zero =>
    intro j acc hj hA hv
    rw [List.drop_of_length_le (by simp; omega)] at hv
    refine Ev.step (fun k => ?_) hv
    simp only [impl_invariant.l1]
    rw [if_neg (by omega), w64 (x := (i : Int) + 1) (by omega) (by omega)]
    rfl
  | succ d ih =>
    intro j acc hj hA hv
    rw [rd_drop (show j < (xs.take i).length by simp; omega), rd_take (by omega)] at hv
    have hm := hx _ (rd_mem (xs := xs) (j := j) (by omega))
    have hm2 := hx _ (rd_mem (xs := xs) (j := i) (by omega))
    have hs := implSymbol_ev hp hm2.1 hm.1 (by have := hm2.2; omega) (by have := hm.2; omega)
    have hpm := pm_mul hA (sym_pm (rd xs i) (rd xs j) p)
    have := ih (j + 1) (acc * sym (rd xs i) (rd xs j) p) (by omega) hpm.1 hv
    refine Ev.step (f := fun k => (impl_symbol.f k (rd xs i) (rd xs j) p).bind fun t127 => (impl_invariant.l1 k xs p (wrap64 (acc * t127)) (rd xs i) xs (xs.length : Int) i (xs.take ((i : Nat) : Int).toNat) ((xs.take ((i : Nat) : Int).toNat).length : Int) ((j + 1 : Nat) : Int))) (fun k => ?_) ?_
    · simp only [impl_invariant.l1]
      rw [if_pos (by omega), if_pos (by omega), if_pos (by omega), show rd (xs.take ((i : Nat) : Int).toNat) (j : Int) = rd xs (j : Int) from rd_take (by omega), w64 (x := (j : Int) + 1) (by omega) (by omega)]
      rfl
    · refine hs.bind ?_
      rw [hpm.2]
      exact this
theorem take_rd {xs : List Int} {i : Nat} (h : i < xs.length) : xs.take (i + 1) = xs.take i ++ [rd xs (i : Int)] := by
  rw [List.take_add_one]; simp [rd, List.getElem?_eq_getElem h]
theorem implInv_l {p : Int} (hp : Plc p) (xs : List Int) (hx : ∀ x ∈ xs, Sm x) (hl : xs.length ≤ 5) : ∀ (d i : Nat) (acc : Int), i + d = xs.length → (acc = 1 ∨ acc = -1) →
    Ev (fun k => impl_invariant.l0 k xs p acc xs (xs.length : Int) i) (outr p (xs.take i) (xs.drop i) acc) := by
  intro d
  induction d with
  | zero =>
    intro i acc hi hA
    rw [List.drop_of_length_le (by omega)]
    refine Ev.step (f := fun _ => some acc) (fun k => ?_) (Ev.now _)
    simp only [impl_invariant.l0]
    rw [if_neg (by omega)]
  | succ d ih =>
    intro i acc hi hA
    rw [rd_drop (show i < xs.length by omega)]
    simp only [outr]
    rw [← take_rd (by omega)]
    have h1 := ih (i + 1) (inn p (rd xs i) (xs.take i) acc) (by omega) (inn_pm _ _ _ _ hA)
    have h2 := implInn_l hp xs hx hl i (by omega) _ i 0 acc (by omega) hA h1
    refine Ev.step (fun k => ?_) h2
    simp only [impl_invariant.l0]
    rw [if_pos (by omega), if_pos (by omega), if_pos (by omega), if_pos (by omega)]
    rfl
theorem implInv_ev {p : Int} (hp : Plc p) {xs : List Int} (hx : ∀ x ∈ xs, Sm x) (hl : xs.length ≤ 5) : Ev (fun k => impl_invariant.f k xs p) (inv xs p) :=
  implInv_l hp xs hx hl xs.length 0 1 (by omega) (by omega)
theorem specInn_l {p : Int} (hp : Plc p) (xs : List Int) (hx : ∀ x ∈ xs, Sm x) (hl : xs.length ≤ 5) (i : Nat) (hi : i < xs.length) (v : Int) : ∀ (d j : Nat) (acc : Int), j + d = i → (acc = 1 ∨ acc = -1) →
    Ev (fun k => spec_l4Invariant.l0 k xs p (inn p (rd xs i) ((xs.take i).drop j) acc) ((i + 1 : Nat) : Int)) v →
    Ev (fun k => spec_l4Invariant.l1 k xs p acc i j) v := by
  intro d
  induction d with
  | zero =>
    intro j acc hj hA hv
    rw [List.drop_of_length_le (by simp; omega)] at hv
    refine Ev.step (fun k => ?_) hv
    simp only [spec_l4Invariant.l1]
    rw [if_neg (by omega), w64 (x := (i : Int) + 1) (by omega) (by omega)]
    rfl
  | succ d ih =>
    intro j acc hj hA hv
    rw [rd_drop (show j < (xs.take i).length by simp; omega), rd_take (by omega)] at hv
    have hm := hx _ (rd_mem (xs := xs) (j := j) (by omega))
    have hm2 := hx _ (rd_mem (xs := xs) (j := i) (by omega))
    have hs := specSymbol_ev hp hm.1 hm2.1 (by have := hm.2; omega) (by have := hm2.2; omega)
    rw [sym_comm] at hs
    have hpm := pm_mul hA (sym_pm (rd xs i) (rd xs j) p)
    have := ih (j + 1) (acc * sym (rd xs i) (rd xs j) p) (by omega) hpm.1 hv
    refine Ev.step (f := fun k => (spec_l3Symbol.f k (rd xs j) (rd xs i) p).bind fun t297 => (spec_l4Invariant.l1 k xs p (wrap64 (acc * t297)) i ((j + 1 : Nat) : Int))) (fun k => ?_) ?_
    · simp only [spec_l4Invariant.l1]
      rw [if_pos (by omega), if_pos (by omega), if_pos (by omega), if_pos (by omega), if_pos (by omega), w64 (x := (j : Int) + 1) (by omega) (by omega)]
      rfl
    · refine hs.bind ?_
      rw [hpm.2]
      exact this
theorem specInv_l {p : Int} (hp : Plc p) (xs : List Int) (hx : ∀ x ∈ xs, Sm x) (hl : xs.length ≤ 5) : ∀ (d i : Nat) (acc : Int), i + d = xs.length → (acc = 1 ∨ acc = -1) →
    Ev (fun k => spec_l4Invariant.l0 k xs p acc i) (outr p (xs.take i) (xs.drop i) acc) := by
  intro d
  induction d with
  | zero =>
    intro i acc hi hA
    rw [List.drop_of_length_le (by omega)]
    refine Ev.step (f := fun _ => some acc) (fun k => ?_) (Ev.now _)
    simp only [spec_l4Invariant.l0]
    rw [if_neg (by omega)]
  | succ d ih =>
    intro i acc hi hA
    rw [rd_drop (show i < xs.length by omega)]
    simp only [outr]
    rw [← take_rd (by omega)]
    have h1 := ih (i + 1) (inn p (rd xs i) (xs.take i) acc) (by omega) (inn_pm _ _ _ _ hA)
    have h2 := specInn_l hp xs hx hl i (by omega) _ i 0 acc (by omega) hA h1
    refine Ev.step (fun k => ?_) h2
    simp only [spec_l4Invariant.l0]
    rw [if_pos (by omega)]
    rfl
theorem specInv_ev {p : Int} (hp : Plc p) {xs : List Int} (hx : ∀ x ∈ xs, Sm x) (hl : xs.length ≤ 5) : Ev (fun k => spec_l4Invariant.f k xs p) (inv xs p) :=
  specInv_l hp xs hx hl xs.length 0 1 (by omega) (by omega)


/-! ### forms vanish -/
theorem sm_neg {n : Int} (h : n ≠ 0 ∧ n.natAbs ≤ 24300000) : wrap64 (-n) = -n ∧ -n ≠ 0 ∧ (-n).natAbs < 2 ^ 63 := ⟨w64 (by omega) (by omega), by omega, by omega⟩
theorem implVan_ev {p : Int} (hp : Plc p) {xs : List Int} (hx : ∀ x ∈ xs, Sm x) (hl : xs.length ≤ 5) : Ev (fun k => impl_vanishes.f k xs p) (van xs p) := by
  unfold impl_vanishes.f van
  have hb := prod_bd4 hx hl
  have hn := sm_neg hb
  refine (implProduct_ev hx hl).bind ?_
  by_cases c0 : p = 0
  · simp only [if_pos c0]
    refine (implLess_ev (by omega)).bind ?_
    by_cases c : less xs > 0
    · simp only [if_pos c, decide_eq_true c, Bool.true_and]; exact Ev.now _
    · simp only [if_neg c, decide_eq_false c, Bool.false_and]; exact Ev.now _
  · simp only [if_neg c0, hn.1]
    by_cases c2 : (xs.length : Int) = 2
    · simp only [if_pos c2]
      refine (implSq_ev hp hn.2.1 hn.2.2).bind ?_
      exact Ev.now _
    · simp only [if_neg c2]
      by_cases c3 : (xs.length : Int) = 3
      · simp only [if_pos c3]
        refine (implInv_ev hp hx hl).bind ((implSymbol_ev hp (by omega) hn.2.1 (by omega) hn.2.2).bind ?_)
        exact Ev.now _
      · simp only [if_neg c3]
        by_cases c4 : (xs.length : Int) = 4
        · simp only [if_pos c4]
          refine (implSq_ev hp hb.1 (by omega)).bind ?_
          by_cases c5 : sqAt (prod xs) p = true
          · simp only [c5, if_true, Bool.not_true, Bool.false_or]
            refine (implInv_ev hp hx hl).bind ((implSymbol_ev hp (by omega) (by omega) (by omega) (by omega)).bind ?_)
            exact Ev.now _
          · simp only [Bool.eq_false_iff.2 c5, Bool.false_eq_true, if_false, Bool.not_false, Bool.true_or]; exact Ev.now _
        · simp only [if_neg c4]; exact Ev.now _
theorem specVan_ev {p : Int} (hp : Plc p) {xs : List Int} (hx : ∀ x ∈ xs, Sm x) (h1 : 1 ≤ xs.length) (hl : xs.length ≤ 5) (h5 : xs.length = 5 → p = 0) : Ev (fun k => spec_l4Vanishes.f k xs p) (van xs p) := by
  unfold spec_l4Vanishes.f van
  have hb := prod_bd4 hx hl
  have hn := sm_neg hb
  by_cases c0 : p = 0
  · simp only [if_pos c0]
    refine (specLess_ev (by omega)).bind ?_
    by_cases c : less xs > 0
    · simp only [if_pos c, decide_eq_true c, Bool.true_and]
      refine (specLess_ev (by omega)).bind ?_
      exact Ev.now _
    · simp only [if_neg c, decide_eq_false c, Bool.false_and]; exact Ev.now _
  · simp only [if_neg c0, hn.1]
    refine (specProduct_ev hx hl).bind ?_
    simp only [hn.1]
    by_cases c1 : (xs.length : Int) = 1
    · simp only [if_pos c1, if_neg (show ¬ (xs.length : Int) = 2 by omega), if_neg (show ¬ (xs.length : Int) = 3 by omega), if_neg (show ¬ (xs.length : Int) = 4 by omega)]; exact Ev.now _
    simp only [if_neg c1]
    by_cases c2 : (xs.length : Int) = 2
    · simp only [if_pos c2]
      refine (specSq_ev hp hn.2.1 hn.2.2).bind ?_
      exact Ev.now _
    · simp only [if_neg c2]
      by_cases c3 : (xs.length : Int) = 3
      · simp only [if_pos c3]
        refine (specInv_ev hp hx hl).bind ((specSymbol_ev hp (by omega) hn.2.1 (by omega) hn.2.2).bind ?_)
        exact Ev.now _
      · simp only [if_neg c3, if_pos (show (xs.length : Int) = 4 by omega)]
        refine (specSq_ev hp hb.1 (by omega)).bind ?_
        by_cases c5 : sqAt (prod xs) p = true
        · simp only [c5, if_true, Bool.not_true, Bool.false_or]
          refine (specInv_ev hp hx hl).bind ((specSymbol_ev hp (by omega) (by omega) (by omega) (by omega)).bind ?_)
          exact Ev.now _
        · simp only [Bool.eq_false_iff.2 c5, Bool.false_eq_true, if_false, Bool.not_false, Bool.true_or]; exact Ev.now _
/-! ### places -/
theorem implPrime_l {n : Int} (hn : n ≤ 5000) : ∀ (d : Nat) (x : Int), 2 ≤ x → 72 ≤ x + d → x ≤ 100 →
    Ev (fun k => impl_prime.l0 k n x) (trial n d x && decide (n ≥ 2)) := by
  intro d
  induction d with
  | zero =>
    intro x h1 h2 h3
    have hh := sq_le (show (0 : Int) ≤ 72 by omega) (show 72 ≤ x by omega)
    refine Ev.step (f := fun _ => some (decide (n ≥ 2))) (fun k => ?_) (by simpa [trial] using Ev.now _)
    simp only [impl_prime.l0]
    rw [wmul (a := x) (b := x) (by omega) (by omega) (by omega) (by omega), if_neg (by omega)]
  | succ d ih =>
    intro x h1 h2 h3
    have hm := wmul (a := x) (b := x) (by omega) (by omega) (by omega) (by omega)
    by_cases c : x * x ≤ n
    · have hx : x ≤ 70 := by
        rcases Int.lt_or_le 70 x with h | h
        · have := sq_le (show (0 : Int) ≤ 71 by omega) (show 71 ≤ x by omega); omega
        · exact h
      by_cases c2 : n.tmod x = 0
      · refine Ev.step (f := fun _ => some false) (fun k => ?_) (by simp only [trial, if_pos c, if_pos c2, Bool.false_and]; exact Ev.now _)
        simp only [impl_prime.l0]
        rw [hm, if_pos c, if_neg (by omega), if_pos c2]
      · refine Ev.step (fun k => ?_) (by simp only [trial, if_pos c, if_neg c2]; exact ih (x + 1) (by omega) (by omega) (by omega))
        simp only [impl_prime.l0]
        rw [hm, if_pos c, if_neg (by omega), if_neg c2, w64 (x := x + 1) (by omega) (by omega)]
    · refine Ev.step (f := fun _ => some (decide (n ≥ 2))) (fun k => ?_) (by simp only [trial, if_neg c, Bool.true_and]; exact Ev.now _)
      simp only [impl_prime.l0]
      rw [hm, if_neg c]
theorem specPrime_l {n : Int} (hn : n ≤ 5000) : ∀ (d : Nat) (x : Int), 2 ≤ x → 72 ≤ x + d → x ≤ 100 →
    Ev (fun k => spec_PrimeIs.l0 k n x) (trial n d x) := by
  intro d
  induction d with
  | zero =>
    intro x h1 h2 h3
    have hh := sq_le (show (0 : Int) ≤ 72 by omega) (show 72 ≤ x by omega)
    refine Ev.step (f := fun _ => some true) (fun k => ?_) (by simpa [trial] using Ev.now _)
    simp only [spec_PrimeIs.l0]
    rw [wmul (a := x) (b := x) (by omega) (by omega) (by omega) (by omega), if_neg (by omega)]
  | succ d ih =>
    intro x h1 h2 h3
    have hm := wmul (a := x) (b := x) (by omega) (by omega) (by omega) (by omega)
    by_cases c : x * x ≤ n
    · have hx : x ≤ 70 := by
        rcases Int.lt_or_le 70 x with h | h
        · have := sq_le (show (0 : Int) ≤ 71 by omega) (show 71 ≤ x by omega); omega
        · exact h
      by_cases c2 : n.tmod x = 0
      · refine Ev.step (f := fun _ => some false) (fun k => ?_) (by simp only [trial, if_pos c, if_pos c2]; exact Ev.now _)
        simp only [spec_PrimeIs.l0]
        rw [hm, if_pos c, if_neg (by omega), if_pos c2]
      · refine Ev.step (fun k => ?_) (by simp only [trial, if_pos c, if_neg c2]; exact ih (x + 1) (by omega) (by omega) (by omega))
        simp only [spec_PrimeIs.l0]
        rw [hm, if_pos c, if_neg (by omega), if_neg c2, w64 (x := x + 1) (by omega) (by omega)]
    · refine Ev.step (f := fun _ => some true) (fun k => ?_) (by simp only [trial, if_neg c]; exact Ev.now _)
      simp only [spec_PrimeIs.l0]
      rw [hm, if_neg c]
theorem implPlaceValid_ev (p : Int) : Ev (fun k => impl_PlaceValid.f k p) (placeOk p) := by
  unfold impl_PlaceValid.f impl_PrimeIs.f placeOk
  by_cases c : p = 0
  · subst c; simp only [if_true]; exact Ev.now _
  · simp only [if_neg c, decide_eq_false c, Bool.false_or]
    by_cases c5 : p ≤ 5000
    · simp only [if_pos c5, decide_eq_true c5, Bool.true_and]
      have := implPrime_l (n := p) (by omega) 70 2 (by omega) (by omega) (by omega)
      unfold impl_prime.f
      rw [Bool.and_comm]
      exact (this.bind (f := fun _ t => some t) (Ev.now _)).bind (f := fun _ t => some t) (Ev.now _)
    · simp only [if_neg c5, decide_eq_false c5, Bool.false_and]
      exact (Ev.now _)
theorem specPlaceValid_ev (p : Int) : Ev (fun k => spec_PlaceValid.f k p) (placeOk p) := by
  unfold spec_PlaceValid.f spec_PrimeIs.f placeOk
  by_cases c : p = 0
  · subst c; simp only [if_true]; exact Ev.now _
  · simp only [if_neg c, decide_eq_false c, Bool.false_or, specIn_eq, Option.bind_some]
    by_cases c2 : 2 ≤ p
    · by_cases c5 : p ≤ 5000
      · simp only [decide_eq_true c2, decide_eq_true c5, decide_eq_true (show p ≥ 2 from c2), Bool.true_and, if_true]
        have := specPrime_l (n := p) (by omega) 70 2 (by omega) (by omega) (by omega)
        exact this.bind (f := fun _ t => some t) (Ev.now _)
      · simp only [decide_eq_true c2, decide_eq_false c5, Bool.and_false, Bool.false_and, Bool.false_eq_true, if_false, Option.bind_some]
        exact Ev.now _
    · simp only [decide_eq_false c2, decide_eq_false (show ¬ p ≥ 2 from c2), Bool.false_and, Bool.and_false, Bool.false_eq_true, if_false, Option.bind_some]
      exact Ev.now _


/-! ### forms and places are drawn -/
theorem rd_mem' {xs : List Int} {v : Int} (h0 : 0 ≤ v) (h : v < (xs.length : Int)) : rd xs v ∈ xs := by
  have := rd_mem (xs := xs) (j := v.toNat) (by omega)
  rwa [Int.toNat_of_nonneg h0] at this
def PL : List Int := [0, 1, 4, -3, 97, 9, 2, 3, 5, 7, 11, 13]
theorem prime_draw {b : List Int} (hb : BytesB b) {q : Int} (hq : 0 ≤ q) (hQ : q ≤ 999999999999000) : ∃ v q', v ∈ PL ∧ q ≤ q' ∧ q' ≤ q + 2 ∧ Ev (fun k => spec_l91Prime.f k b q) (v, q') := by
  obtain ⟨v1, h1, g1, e1⟩ := pick_ev hb (p := q) (by omega) (by omega) (n := 24) (by omega)
  by_cases c : v1 = 0
  · obtain ⟨v2, h2, g2, e2⟩ := pick_ev hb (p := q + 1) (by omega) (by omega) (n := 6) (by omega)
    have hm := rd_mem' (xs := [0, 1, 4, (-3), 97, 9]) h2 (by simp; omega)
    refine ⟨rd [0, 1, 4, (-3), 97, 9] v2, q + 1 + 1, ?_, by omega, by omega, ?_⟩
    · simp only [List.mem_cons, List.not_mem_nil, or_false] at hm; simp only [PL, List.mem_cons, List.not_mem_nil, or_false]; omega
    · simp only [spec_l91Prime.f]
      refine e1.bind ?_
      simp only [if_pos c, Option.bind_some]
      refine e2.bind ?_
      simp only [if_pos h2, if_pos (show v2 < ((List.length [(0 : Int), 1, 4, (-3), 97, 9] : Nat) : Int) from by simp; omega)]
      exact Ev.now _
  · obtain ⟨v2, h2, g2, e2⟩ := pick_ev hb (p := q + 1) (by omega) (by omega) (n := 8) (by omega)
    have hm := rd_mem' (xs := [2, 3, 5, 7, 11, 13, 3, 2]) h2 (by simp; omega)
    refine ⟨rd [2, 3, 5, 7, 11, 13, 3, 2] v2, q + 1 + 1, ?_, by omega, by omega, ?_⟩
    · simp only [List.mem_cons, List.not_mem_nil, or_false] at hm; simp only [PL, List.mem_cons, List.not_mem_nil, or_false]; omega
    · simp only [spec_l91Prime.f]
      refine e1.bind ?_
      simp only [if_neg c, Option.bind_some]
      refine e2.bind ?_
      simp only [if_pos h2, if_pos (show v2 < ((List.length [(2 : Int), 3, 5, 7, 11, 13, 3, 2] : Nat) : Int) from by simp; omega)]
      exact Ev.now _
theorem place_draw {b : List Int} (hb : BytesB b) {q : Int} (hq : 0 ≤ q) (hQ : q ≤ 999999999998000) : ∃ v q', v ∈ PL ∧ q ≤ q' ∧ q' ≤ q + 3 ∧ Ev (fun k => spec_l91Place.f k b q) (v, q') := by
  obtain ⟨v1, h1, g1, e1⟩ := pick_ev hb (p := q) (by omega) (by omega) (n := 5) (by omega)
  by_cases c : v1 = 0
  · refine ⟨0, q + 1, by simp [PL], by omega, by omega, ?_⟩
    simp only [spec_l91Place.f]
    refine e1.bind ?_
    simp only [if_pos c]; exact Ev.now _
  · obtain ⟨v, q', hv, h2, h3, e2⟩ := prime_draw hb (q := q + 1) (by omega) (by omega)
    refine ⟨v, q', hv, by omega, by omega, ?_⟩
    simp only [spec_l91Place.f]
    refine e1.bind ?_
    simp only [if_neg c]
    exact e2.bind (Ev.now _)
def GoodF (n : Nat) (xs : List Int) : Prop := xs.length ≤ n ∧ (∀ x ∈ xs, x.natAbs ≤ 31) ∧ (formOk xs = true → ∀ x ∈ xs, x ∈ TT)
theorem form_draw_l {b : List Int} (hb : BytesB b) (n : Nat) (hn : n ≤ 5) (hn1 : 1 ≤ n) : ∀ (d j : Nat) (out : List Int) (q : Int), j + d = n → out.length = j → (∀ x ∈ out, x ∈ TT) → 0 ≤ q → q + 2 * d ≤ 999999999999900 →
    ∃ xs q', GoodF n xs ∧ q ≤ q' ∧ q' ≤ q + 2 * d + 2 ∧ Ev (fun k => spec_l91Form.l0 k out n j b q) (xs, q') := by
  intro d
  induction d with
  | zero =>
    intro j out q hj ho hT hq hQ
    obtain ⟨v1, h1, g1, e1⟩ := pick_ev hb (p := q) (by omega) (by omega) (n := 40) (by omega)
    have hsm : ∀ x ∈ out, x.natAbs ≤ 31 := fun x hx => by have := (TT_sm (hT x hx)).2; omega
    by_cases c : v1 = 0
    · obtain ⟨v2, h2, g2, e2⟩ := pick_ev hb (p := q + 1) (by omega) (by omega) (n := 2) (by omega)
      have hm := rd_mem' (xs := [0, 31]) h2 (by simp; omega)
      refine ⟨out.set 0 (rd [0, 31] v2), q + 1 + 1, ⟨by simp; omega, ?_, ?_⟩, by omega, by omega, ?_⟩
      · intro x hx
        rcases List.mem_or_eq_of_mem_set hx with h | h
        · exact hsm x h
        · subst h; simp only [List.mem_cons, List.not_mem_nil, or_false] at hm; omega
      · intro hk
        exfalso
        obtain ⟨hk, _⟩ := formOk_iff.1 hk
        have := hk (rd [0, 31] v2) (List.mem_set (by omega) _)
        unfold Sm at this
        simp only [List.mem_cons, List.not_mem_nil, or_false] at hm; omega
      · apply Ev.step
        · intro k
          simp only [spec_l91Form.l0, if_neg (show ¬ (j : Int) < (n : Int) by omega)]
          exact rfl
        · refine e1.bind ?_
          simp only [if_pos c, Option.bind_some]
          refine e2.bind ?_
          simp only [if_pos h2, if_pos (show v2 < ((List.length [(0 : Int), 31] : Nat) : Int) from by simp; omega), if_pos (show 0 < (out.length : Int) by omega)]
          exact Ev.now _
    · by_cases c1 : v1 = 1
      · refine ⟨[], q + 1, ⟨by simp, by simp, by simp⟩, by omega, by omega, ?_⟩
        apply Ev.step
        · intro k
          simp only [spec_l91Form.l0, if_neg (show ¬ (j : Int) < (n : Int) by omega)]
          exact rfl
        · refine e1.bind ?_
          simp only [if_neg c, if_pos c1]; exact Ev.now _
      · refine ⟨out, q + 1, ⟨by omega, hsm, fun _ => hT⟩, by omega, by omega, ?_⟩
        apply Ev.step
        · intro k
          simp only [spec_l91Form.l0, if_neg (show ¬ (j : Int) < (n : Int) by omega)]
          exact rfl
        · refine e1.bind ?_
          simp only [if_neg c, if_neg c1]; exact Ev.now _
  | succ d ih =>
    intro j out q hj ho hT hq hQ
    obtain ⟨v1, h1, g1, e1⟩ := pick_ev hb (p := q) (by omega) (by omega) (n := 16) (by omega)
    obtain ⟨v2, h2, g2, e2⟩ := pick_ev hb (p := q + 1) (by omega) (by omega) (n := 5) (by omega)
    have hm := rd_mem' (xs := [1, 2, 3, 5, 6, 7, 1, 10, 12, 3, 15, 4, 21, 1, 30, 8]) h1 (by simp; omega)
    have hlen : v1 < ((List.length [(1 : Int), 2, 3, 5, 6, 7, 1, 10, 12, 3, 15, 4, 21, 1, 30, 8] : Nat) : Int) := by simp; omega
    have ht : rd [1, 2, 3, 5, 6, 7, 1, 10, 12, 3, 15, 4, 21, 1, 30, 8] v1 ∈ TT ∧ -(rd [1, 2, 3, 5, 6, 7, 1, 10, 12, 3, 15, 4, 21, 1, 30, 8] v1) ∈ TT := by
      have : ∀ x ∈ ([1, 2, 3, 5, 6, 7, 1, 10, 12, 3, 15, 4, 21, 1, 30, 8] : List Int), x ∈ TT ∧ -x ∈ TT := by decide +kernel
      exact this _ hm
    generalize hx : rd [1, 2, 3, 5, 6, 7, 1, 10, 12, 3, 15, 4, 21, 1, 30, 8] v1 = x at ht
    have hs := TT_sm ht.1
    unfold Sm at hs
    by_cases c : v2 < 2
    · obtain ⟨xs, q', hg, hq1, hq2, e3⟩ := ih (j + 1) (out ++ [-x]) (q + 1 + 1) (by omega) (by simp; omega) (by intro y hy; rcases List.mem_append.1 hy with h | h; exact hT y h; rw [List.mem_singleton.1 h]; exact ht.2) (by omega) (by omega)
      refine ⟨xs, q', hg, by omega, by omega, ?_⟩
      apply Ev.step
      · intro k
        simp only [spec_l91Form.l0, if_pos (show (j : Int) < (n : Int) by omega), Option.bind_some]
        exact rfl
      · refine e1.bind ?_
        simp only [if_pos h1, if_pos hlen]
        refine e2.bind ?_
        simp only [if_pos c, if_pos (show out.length < 17592186044416 by omega), hx, w64 (x := -x) (by omega) (by omega), w64 (x := (j : Int) + 1) (by omega) (by omega)]
        exact e3
    · obtain ⟨xs, q', hg, hq1, hq2, e3⟩ := ih (j + 1) (out ++ [x]) (q + 1 + 1) (by omega) (by simp; omega) (by intro y hy; rcases List.mem_append.1 hy with h | h; exact hT y h; rw [List.mem_singleton.1 h]; exact ht.1) (by omega) (by omega)
      refine ⟨xs, q', hg, by omega, by omega, ?_⟩
      apply Ev.step
      · intro k
        simp only [spec_l91Form.l0, if_pos (show (j : Int) < (n : Int) by omega), Option.bind_some]
        exact rfl
      · refine e1.bind ?_
        simp only [if_pos h1, if_pos hlen]
        refine e2.bind ?_
        simp only [if_neg c, if_pos (show out.length < 17592186044416 by omega), hx, w64 (x := (j : Int) + 1) (by omega) (by omega)]
        exact e3
theorem form_draw {b : List Int} (hb : BytesB b) {q : Int} (hq : 0 ≤ q) (hQ : q ≤ 999999999999000) (m : Nat) (hm : m ≤ 5) (hm1 : 1 ≤ m) : ∃ xs q', GoodF m xs ∧ q ≤ q' ∧ q' ≤ q + 2 * m + 3 ∧ Ev (fun k => spec_l91Form.f k b q m) (xs, q') := by
  obtain ⟨v1, h1, g1, e1⟩ := pick_ev hb (p := q) (by omega) (by omega) (n := (m : Int)) (by omega)
  obtain ⟨n, hn⟩ : ∃ n : Nat, 1 + v1 = (n : Int) := ⟨(1 + v1).toNat, by omega⟩
  obtain ⟨xs, q', hg, h2, h3, e2⟩ := form_draw_l hb n (by omega) (by omega) n 0 [] (q + 1) (by omega) rfl (by simp) (by omega) (by omega)
  refine ⟨xs, q', ⟨by have := hg.1; omega, hg.2⟩, by omega, by omega, ?_⟩
  unfold spec_l91Form.f
  refine e1.bind ?_
  simp only [hn, w64 (x := (n : Int)) (by omega) (by omega)]
  exact e2

/-! ### forms are joined -/
theorem implFormVanishes_ev {xs : List Int} {p : Int} (hx : ∀ x ∈ xs, x.natAbs ≤ 31) (hl : xs.length ≤ 5) :
    Ev (fun k => impl_FormVanishes.f k xs p) (formOk xs && (placeOk p && van xs p)) := by
  unfold impl_FormVanishes.f
  refine (implFormValid_ev (xs := xs) (fun x h => by have := hx x h; omega) (by omega)).bind ?_
  by_cases c1 : formOk xs = true
  · simp only [c1, if_true, Bool.true_and]
    refine (implPlaceValid_ev p).bind ?_
    by_cases c2 : placeOk p = true
    · have hk := formOk_iff.1 c1
      simp only [c2, if_true, Bool.true_and]
      exact (implVan_ev (placeOk_iff.1 c2) hk.1 (by omega)).bind (f := fun _ t => some t) (Ev.now _)
    · simp only [c2, Bool.false_eq_true, if_false, Bool.false_and]; exact Ev.now _
  · simp only [c1, Bool.false_eq_true, if_false, Bool.false_and]; exact Ev.now _

/-! ### places of forms -/
theorem l2Places_l (ps : List Int) (hl : ps.length ≤ 100000100) : ∀ (d j : Nat) (out : List Int), j + d = ps.length → out.length ≤ 2 + j →
    Ev (fun k => spec_l2Places.l0 k out ps j) (out ++ (ps.drop j).filter (fun x => decide (x > 2))) := by
  intro d
  induction d with
  | zero =>
    intro j out hj ho
    rw [List.drop_of_length_le (by omega)]
    refine Ev.step (f := fun _ => some out) (fun k => ?_) (by simpa using Ev.now _)
    simp only [spec_l2Places.l0]
    rw [if_neg (by omega)]
  | succ d ih =>
    intro j out hj ho
    rw [rd_drop (show j < ps.length by omega)]
    by_cases c : rd ps (j : Int) > 2
    · rw [List.filter_cons_of_pos (by simpa using c)]
      have := ih (j + 1) (out ++ [rd ps (j : Int)]) (by omega) (by simp; omega)
      rw [List.append_assoc, List.singleton_append] at this
      refine Ev.step (fun k => ?_) this
      simp only [spec_l2Places.l0]
      rw [if_pos (by omega), if_pos (by omega), if_pos c, if_pos (by omega), w64 (x := (j : Int) + 1) (by omega) (by omega)]
      rfl
    · rw [List.filter_cons_of_neg (by simpa using c)]
      refine Ev.step (fun k => ?_) (ih (j + 1) out (by omega) (by omega))
      simp only [spec_l2Places.l0]
      rw [if_pos (by omega), if_pos (by omega), if_neg c, w64 (x := (j : Int) + 1) (by omega) (by omega)]
      rfl
theorem l2Places_ev {n : Int} (hn : n ≠ 0) (h : n.natAbs ≤ 100000000) : Ev (fun k => spec_l2Places.f k n) (placesL n) := by
  unfold spec_l2Places.f
  refine (l1Primes_ev hn (by omega)).bind ?_
  have := primes_len n
  exact l2Places_l (primes n) (by omega) (primes n).length 0 [0, 2] (by omega) (by simp)
theorem specFormPlaces_ev {xs : List Int} (hl : xs.length ≤ 100) : Ev (fun k => spec_FormPlaces.f k xs) (if formOk xs = true then plc xs else []) := by
  unfold spec_FormPlaces.f
  refine (specFormValid_ev (xs := xs) (by omega)).bind ?_
  by_cases c : formOk xs = true
  · simp only [if_pos c]
    have hk := formOk_iff.1 c
    have hb := prod_bd4 hk.1 (by omega)
    refine (specProduct_ev hk.1 (by omega)).bind ((l2Places_ev hb.1 (by omega)).bind ?_)
    rw [places_prod hk.1 (by omega)]
    exact Ev.now _
  · simp only [if_neg c]; exact Ev.now _
theorem plc_len (xs : List Int) : (plc xs).length ≤ 11 := by unfold plc; exact List.length_filter_le _ _
/-! ### bad places of a form -/
/-! ### planes everywhere -/
/-! ### bad places of a number -/
/-! ### texts as lists of bytes -/
def tx (l : List UInt8) : ByteArray := ⟨l.toArray⟩
theorem tx_data (l : List UInt8) : (tx l).data.toList = l := by simp [tx]
theorem tx_size (l : List UInt8) : (tx l).size = l.length := by simp [tx, ByteArray.size]
theorem tx_append (a b : List UInt8) : tx a ++ tx b = tx (a ++ b) := by
  apply ByteArray.ext
  apply Array.ext'
  simp [tx]
theorem tx_toList (l : List UInt8) : (tx l).toList = l := by simp [tx]
theorem tx_extract (l : List UInt8) (a b : Nat) : (tx l).extract a b = tx ((l.drop a).take (b - a)) := by
  rw [Lib.extract_eq, tx_data]; rfl
theorem tx_inj {a b : List UInt8} (h : tx a = tx b) : a = b := by rw [← tx_data a, h, tx_data]
theorem index_mid {c : UInt8} : ∀ (a b : List UInt8), c ∉ a → Lib.index (a ++ c :: b) [c] = a.length
  | [], b, _ => by simp [Lib.index]
  | x :: a, b, h => by
    have hx : c ≠ x := fun e => h (by simp [e])
    have := index_mid a b (fun (m : c ∈ a) => h (List.mem_cons_of_mem _ m))
    simp only [List.cons_append, Lib.index, this, List.isPrefixOf, Bool.and_true, List.length_cons]
    rw [if_neg (by simpa using hx), if_neg (by simp)]
    omega
theorem index_not {c : UInt8} : ∀ (a : List UInt8), c ∉ a → Lib.index a [c] = -1
  | [], _ => by simp [Lib.index]
  | x :: a, h => by
    have hx : c ≠ x := fun e => h (by simp [e])
    have := index_not a (fun (m : c ∈ a) => h (List.mem_cons_of_mem _ m))
    simp only [Lib.index, this, List.isPrefixOf, Bool.and_true]
    rw [if_neg (by simpa using hx), if_pos (by simp)]
theorem split_not {c : UInt8} {a : List UInt8} (h : c ∉ a) : Lib.split a [c] = [a] := by
  unfold Lib.split
  rw [Lib.count_miss (index_not a h)]
  rfl
theorem split_mid {c : UInt8} {a : List UInt8} (b : List UInt8) (h : c ∉ a) : Lib.split (a ++ c :: b) [c] = a :: Lib.split b [c] := by
  unfold Lib.split
  have hi := index_mid a b h
  rw [Lib.count_hit (by simp) hi, Nat.add_comm 1]
  have hk : Lib.splitK [c] 0 (Lib.count b [c] + 1) (a ++ c :: b) = if Lib.index (a ++ c :: b) [c] == -1 then [a ++ c :: b] else (a ++ c :: b).take ((Lib.index (a ++ c :: b) [c]).toNat + 0) :: Lib.splitK [c] 0 (Lib.count b [c]) ((a ++ c :: b).drop ((Lib.index (a ++ c :: b) [c]).toNat + [c].length)) := rfl
  have e : (a ++ c :: b).drop (a.length + [c].length) = b := by simp
  have e2 : ((a.length : Int)).toNat = a.length := by omega
  rw [e, hk, hi, if_neg (by simp), e2, e, Nat.add_zero, List.take_left]
theorem split_tx {s : List UInt8} {c : UInt8} (hs : s.length < 4294967281) : strings_Split.f (tx s) (tx [c]) = some ((Lib.split s [c]).map tx) := by
  unfold strings_Split.f
  rw [if_pos ⟨by rw [tx_size]; exact hs, by rw [tx_size]; simp⟩]
  have h := Lib.splitB_data (tx [c]) 0 (Lib.countB (tx s) (tx [c])) (tx s)
  rw [tx_data, tx_data] at h
  have e : Lib.countB (tx s) (tx [c]) = Lib.count s [c] := by unfold Lib.countB; rw [tx_data, tx_data]
  rw [e] at h ⊢
  show _ = some ((Lib.splitK [c] 0 (Lib.count s [c]) s).map tx)
  rw [← h, List.map_map]
  have e2 : ∀ l : List ByteArray, l.map (tx ∘ fun x => x.data.toList) = l := by
    intro l
    induction l with
    | nil => rfl
    | cons x l ih => simp only [List.map_cons, ih]; rfl
  rw [e2]
/-! ### numbers as texts -/
theorem dec_step {n : Nat} (h : ¬ n < 10) : Lib.decDigits n = Lib.decDigits (n / 10) ++ [UInt8.ofNat (48 + n % 10)] := by
  rw [Lib.decDigits, dif_neg h]
theorem dec_bytes : ∀ (n : Nat), ∀ b ∈ Lib.decDigits n, 48 ≤ b.toNat ∧ b.toNat ≤ 57 := by
  intro n
  induction n using Nat.strongRecOn with
  | _ n ih =>
    by_cases c : n < 10
    · rw [Lib.decDigits_one c]
      intro b hb
      obtain rfl := List.mem_singleton.1 hb
      rw [UInt8.toNat_ofNat']
      omega
    · rw [dec_step c]
      intro b hb
      rcases List.mem_append.1 hb with hb | hb
      · exact ih _ (by omega) b hb
      · obtain rfl := List.mem_singleton.1 hb
        rw [UInt8.toNat_ofNat']
        omega
/-- The number that digits tell. -/
def valD (l : List UInt8) (n : Int) : Int := l.foldl (fun n b => n * 10 + ((b.toNat : Int) - 48)) n
theorem dec_val : ∀ (n : Nat), valD (Lib.decDigits n) 0 = n := by
  intro n
  induction n using Nat.strongRecOn with
  | _ n ih =>
    by_cases c : n < 10
    · rw [Lib.decDigits_one c]
      simp only [valD, List.foldl_cons, List.foldl_nil, UInt8.toNat_ofNat']
      omega
    · rw [dec_step c]
      have := ih (n / 10) (by omega)
      unfold valD at this ⊢
      rw [List.foldl_append, this]
      simp only [List.foldl_cons, List.foldl_nil, UInt8.toNat_ofNat']
      omega
theorem dec_ne (n : Nat) : 1 ≤ (Lib.decDigits n).length := by
  rw [Lib.decDigits_length]; exact Lib.nDigits_pos n
theorem dec_len4 {n : Nat} (h : n < 10000) : (Lib.decDigits n).length ≤ 4 := by
  rw [Lib.decDigits_length]
  by_cases c0 : n < 10
  · rw [Lib.nDigits_small c0]; omega
  rw [Lib.nDigits_big c0]
  by_cases c1 : n / 10 < 10
  · rw [Lib.nDigits_small c1]; omega
  rw [Lib.nDigits_big c1]
  by_cases c2 : n / 10 / 10 < 10
  · rw [Lib.nDigits_small c2]; omega
  rw [Lib.nDigits_big c2]
  rw [Lib.nDigits_small (by omega)]; omega
theorem digits_nat : ∀ (n : Nat), n ≤ 4611686018427387904 → Ev (fun k => laws_digits.f k (n : Int)) (tx (Lib.decDigits n)) := by
  intro n
  induction n using Nat.strongRecOn with
  | _ n ih =>
    intro hn
    by_cases c : n < 10
    · rw [Lib.decDigits_one c]
      refine Ev.step (f := fun _ => some (tx [UInt8.ofNat (48 + n)])) (fun k => ?_) (Ev.now _)
      simp only [laws_digits.f]
      rw [if_neg (by omega), if_pos (by omega), w64 (by omega) (by omega)]
      congr 1
      have e : ((48 + (n : Int)) % 256).toNat = 48 + n := by omega
      simp [strOfNums, tx, e]
    · rw [dec_step c]
      have e1 : Int.tdiv (n : Int) 10 = ((n / 10 : Nat) : Int) := rfl
      have e2 : Int.tmod (n : Int) 10 = ((n % 10 : Nat) : Int) := rfl
      have hl := Lib.nDigits_le20 (n / 10) (by omega)
      refine Ev.step (f := fun k => (laws_digits.f k ((n / 10 : Nat) : Int)).bind fun t160 => ((some (([(wrap64 (48 + ((n % 10 : Nat) : Int))) % 256] : List Int) : List Int)).bind fun y161 => (if t160.size + (strOfNums y161).size ≤ 9223372036854775807 then (some (t160 ++ (strOfNums y161))) else (none)))) (fun k => ?_) ?_
      · simp only [laws_digits.f]
        rw [if_neg (by omega), if_neg (by omega), e1, e2, w64 (x := ((n / 10 : Nat) : Int)) (by omega) (by omega)]
      refine (ih (n / 10) (by omega) (by omega)).bind ?_
      have e3 : strOfNums [(wrap64 (48 + ((n % 10 : Nat) : Int))) % 256] = tx [UInt8.ofNat (48 + n % 10)] := by
        rw [w64 (by omega) (by omega)]
        have e : ((48 + ((n % 10 : Nat) : Int)) % 256).toNat = 48 + n % 10 := by omega
        simp only [strOfNums, tx, List.map_cons, List.map_nil, e]
      simp only [Option.bind_some, e3, tx_size, tx_append, Lib.decDigits_length, List.length_singleton]
      rw [if_pos (by omega)]
      exact Ev.now _
theorem itoa_of {n : Int} (h : 0 ≤ n) : Lib.itoa n = Lib.decDigits n.toNat := by unfold Lib.itoa; rw [if_neg (by omega)]
theorem digits_ev {n : Int} (h0 : -4611686018427387904 ≤ n) (h1 : n ≤ 4611686018427387904) : Ev (fun k => laws_digits.f k n) (tx (Lib.itoa n)) := by
  by_cases c : n < 0
  · have d := digits_nat n.natAbs (by omega)
    have e : Lib.itoa n = 45 :: Lib.decDigits n.natAbs := by unfold Lib.itoa; rw [if_pos c]
    rw [e]
    refine Ev.step (f := fun k => (laws_digits.f k ((n.natAbs : Nat) : Int)).bind fun t156 => (if 1 + t156.size ≤ 9223372036854775807 then (some ((⟨#[45]⟩ : ByteArray) ++ t156)) else (none))) (fun k => ?_) (d.bind ?_)
    · simp only [laws_digits.f]
      rw [if_pos c, w64 (by omega) (by omega), show -n = ((n.natAbs : Nat) : Int) by omega]
    · have hl := Lib.nDigits_le20 n.natAbs (by omega)
      rw [tx_size, Lib.decDigits_length, if_pos (by omega), show (⟨#[45]⟩ : ByteArray) = tx [45] from rfl, tx_append]
      exact Ev.now _
  · rw [itoa_of (by omega)]
    have := digits_nat n.toNat (by omega)
    rwa [Int.toNat_of_nonneg (by omega)] at this
/-! ### lists of numbers as texts -/
/-- Numbers with a space ahead of each. -/
def spc (xs : List Int) : List UInt8 := xs.flatMap fun x => 32 :: Lib.itoa x
def Mid (xs : List Int) : Prop := ∀ x ∈ xs, -4611686018427387904 ≤ x ∧ x ≤ 4611686018427387904
theorem spc_len {xs : List Int} (h : Mid xs) : (spc xs).length ≤ 22 * xs.length := by
  induction xs with
  | nil => simp [spc]
  | cons x xs ih =>
    have h1 := h x (by simp)
    have := ih (fun y hy => h y (by simp [hy]))
    have hl := Lib.itoa_length_le x (by omega) (by omega)
    simp only [spc, List.flatMap_cons, List.length_append, List.length_cons] at this ⊢
    omega
theorem spaced_l (xs : List Int) (hx : Mid xs) (hl : xs.length ≤ 1000000) : ∀ (d j : Nat) (out : List UInt8), j + d = xs.length → out.length ≤ 22 * j →
    Ev (fun k => laws_spaced.l0 k xs (tx out) (j : Int)) (tx (out ++ spc (xs.drop j))) := by
  intro d
  induction d with
  | zero =>
    intro j out hj _
    rw [List.drop_of_length_le (by omega)]
    refine Ev.step (f := fun _ => some (tx out)) (fun k => ?_) (by simpa [spc] using Ev.now (tx out))
    simp only [laws_spaced.l0]
    rw [if_neg (by omega)]
  | succ d ih =>
    intro j out hj ho
    have hm := hx _ (rd_mem (show j < xs.length by omega))
    have hlen := Lib.itoa_length_le (rd xs (j : Int)) (by omega) (by omega)
    have := ih (j + 1) (out ++ (32 :: Lib.itoa (rd xs (j : Int)))) (by omega) (by simp; omega)
    rw [rd_drop (show j < xs.length by omega)]
    refine Ev.step (f := fun k => (laws_digits.f k (rd xs (j : Int))).bind fun t165 => (if ((tx out) ++ (⟨#[32]⟩ : ByteArray)).size + t165.size ≤ 9223372036854775807 then (laws_spaced.l0 k xs (((tx out) ++ (⟨#[32]⟩ : ByteArray)) ++ t165) ((j + 1 : Nat) : Int)) else (none))) (fun k => ?_) ((digits_ev hm.1 hm.2).bind ?_)
    · simp only [laws_spaced.l0]
      rw [if_pos (by omega), tx_size, if_pos (by omega), if_pos (by omega), w64 (x := (j : Int) + 1) (by omega) (by omega)]
      rfl
    · rw [show (⟨#[32]⟩ : ByteArray) = tx [32] from rfl, tx_append, tx_append, tx_size, tx_size]
      simp only [List.length_append, List.length_singleton]
      simp only [if_pos (show out.length + 1 + (Lib.itoa (rd xs (j : Int))).length ≤ 9223372036854775807 by omega)]
      simpa [spc] using this
theorem spaced_ev {xs : List Int} (hx : Mid xs) (hl : xs.length ≤ 1000000) : Ev (fun k => laws_spaced.f k xs) (tx (spc xs)) := by
  have := spaced_l xs hx hl xs.length 0 [] (by omega) (by simp)
  rw [List.nil_append, List.drop_zero] at this
  exact this
theorem endLine_ev {n : Int} (h0 : -4611686018427387904 ≤ n) (h1 : n ≤ 4611686018427387904) : Ev (fun k => laws_endLine.f k n) (tx ([116, 101, 114, 109, 115, 32] ++ Lib.itoa n ++ [10])) := by
  have hlen := Lib.itoa_length_le n (by omega) (by omega)
  unfold laws_endLine.f
  refine (digits_ev h0 h1).bind ?_
  rw [show (⟨#[116, 101, 114, 109, 115, 32]⟩ : ByteArray) = tx [116, 101, 114, 109, 115, 32] from rfl, show (⟨#[10]⟩ : ByteArray) = tx [10] from rfl, tx_append, tx_append, tx_size, tx_size, if_pos (by omega), if_pos (by simp; omega)]
  exact Ev.now _
theorem itoa_eq {n : Int} (h0 : -4611686018427387904 ≤ n) (h1 : n ≤ 4611686018427387904) : strconv_Itoa.f n = some (tx (Lib.itoa n)) := by
  unfold strconv_Itoa.f
  rw [if_pos (by omega)]; rfl
/-! ### a number read from its text -/
theorem bt_tx (l : List UInt8) (j : Nat) (h : j < l.length) : bt (tx l) (j : Int) = (l[j].toNat : Int) := by
  unfold bt
  rw [dif_pos (by rw [tx_size]; simpa using h)]
  simp [tx, ByteArray.getElem_eq_getElem_data]
theorem numberOf_l (l : List UInt8) (hl : l.length ≤ 4) (hb : ∀ b ∈ l, 48 ≤ b.toNat ∧ b.toNat ≤ 57) (m : Bool) : ∀ (d j : Nat) (n : Int), j + d = l.length → 0 ≤ n → n < 10 ^ j →
    Ev (fun k => impl_numberOf.l0 k (tx l) m n (l.length : Int) (j : Int)) (if m = true then wrap64 (-(valD (l.drop j) n)) else valD (l.drop j) n) := by
  intro d
  induction d with
  | zero =>
    intro j n hj h0 h1
    rw [List.drop_of_length_le (by omega)]
    refine Ev.step (f := fun _ => some (if m = true then wrap64 (-n) else n)) (fun k => ?_) (Ev.now _)
    simp only [impl_numberOf.l0]
    rw [if_neg (by omega)]
    cases m <;> rfl
  | succ d ih =>
    intro j n hj h0 h1
    have hjl : j < l.length := by omega
    have hp : (10 : Int) ^ j ≤ 1000 := by
      have : j = 0 ∨ j = 1 ∨ j = 2 ∨ j = 3 := by omega
      rcases this with rfl | rfl | rfl | rfl <;> decide
    have hbj := hb l[j] (List.getElem_mem hjl)
    have := ih (j + 1) (n * 10 + ((l[j].toNat : Int) - 48)) (by omega) (by omega) (by rw [Int.pow_succ]; omega)
    rw [List.drop_eq_getElem_cons hjl]
    refine Ev.step (fun k => ?_) this
    simp only [impl_numberOf.l0]
    rw [if_pos (by omega), if_pos (by omega), if_pos (by rw [tx_size]; omega), bt_tx l j hjl, if_neg (by omega), if_neg (by omega), w64 (x := n * 10) (by omega) (by omega), w64 (x := (j : Int) + 1) (by omega) (by omega),
      show ((l[j].toNat : Int) - 48) % 256 = (l[j].toNat : Int) - 48 by omega, w64 (by omega) (by omega)]
    rfl
theorem cutPrefix_not (l : List UInt8) (h : l.head? ≠ some 45) : strings_CutPrefix.f (tx l) (⟨#[45]⟩ : ByteArray) = some (tx l, false) := by
  rw [show (⟨#[45]⟩ : ByteArray) = tx [45] from rfl]
  unfold strings_CutPrefix.f stringslite_CutPrefix.f stringslite_HasPrefix.f
  cases l with
  | nil => simp [tx_size]
  | cons x l =>
    have hx : x ≠ 45 := fun e => h (by simp [e])
    simp only [tx_size, tx_extract, tx_toList, List.length_cons, List.length_nil]
    rw [if_pos (by omega), if_pos (by omega), if_pos (by omega)]
    simp [hx]
theorem cutPrefix_less (l : List UInt8) : strings_CutPrefix.f (tx (45 :: l)) (⟨#[45]⟩ : ByteArray) = some (tx l, true) := by
  rw [show (⟨#[45]⟩ : ByteArray) = tx [45] from rfl]
  unfold strings_CutPrefix.f stringslite_CutPrefix.f stringslite_HasPrefix.f
  simp only [tx_size, tx_extract, tx_toList, List.length_cons, List.length_nil]
  rw [if_pos (by omega), if_pos (by omega), if_pos (by omega)]
  simp only [List.drop_zero, List.take_succ_cons, List.drop_succ_cons]
  simp
  rw [if_pos (by omega)]
  rfl
theorem numberOf_ev {n : Int} (h0 : -10000 < n) (h1 : n < 10000) : Ev (fun k => impl_numberOf.f k (tx (Lib.itoa n))) n := by
  unfold impl_numberOf.f
  by_cases c : n < 0
  · have e : Lib.itoa n = 45 :: Lib.decDigits n.natAbs := by unfold Lib.itoa; rw [if_pos c]
    have h4 := dec_len4 (n := n.natAbs) (by omega)
    have h5 := dec_ne n.natAbs
    rw [e, cutPrefix_less]
    simp only [Option.bind_some, tx_size]
    simp only [if_neg (show ¬ ((Lib.decDigits n.natAbs).length : Int) < 1 by omega), show decide (((Lib.decDigits n.natAbs).length : Int) > 4) = false from decide_eq_false (by omega)]
    have := numberOf_l (Lib.decDigits n.natAbs) h4 (dec_bytes _) true (Lib.decDigits n.natAbs).length 0 0 (by omega) (by omega) (by decide)
    rw [if_pos rfl, List.drop_zero, dec_val, w64 (by omega) (by omega), show -((n.natAbs : Nat) : Int) = n by omega] at this
    refine Ev.step (fun k => ?_) this
    simp only [impl_numberOf.j0, tx_size]
    rfl
  · rw [itoa_of (by omega)]
    have h4 := dec_len4 (n := n.toNat) (by omega)
    have h5 := dec_ne n.toNat
    rw [cutPrefix_not _ (fun e => by
      have := dec_bytes n.toNat 45 (List.mem_of_mem_head? e)
      revert this; decide)]
    simp only [Option.bind_some, tx_size]
    simp only [if_neg (show ¬ ((Lib.decDigits n.toNat).length : Int) < 1 by omega), show decide (((Lib.decDigits n.toNat).length : Int) > 4) = false from decide_eq_false (by omega)]
    have := numberOf_l (Lib.decDigits n.toNat) h4 (dec_bytes _) false (Lib.decDigits n.toNat).length 0 0 (by omega) (by omega) (by decide)
    rw [if_neg (by simp), List.drop_zero, dec_val, Int.toNat_of_nonneg (by omega)] at this
    refine Ev.step (fun k => ?_) this
    simp only [impl_numberOf.j0, tx_size]
    rfl
/-! ### a script -/
theorem runL_one {line : List UInt8} {ls : List ByteArray} {form form' : List Int} {out r : List UInt8} {x : List Int × List UInt8} (hs : line.length ≤ 1000) (hr : r.length ≤ 1000000) (ho : out.length ≤ 1000000000)
    (hc : Ev (fun k => impl_command.f k form ((Lib.split line [32]).map tx)) (form', tx r)) (hn : Ev (fun k => runL k ls form' (out ++ (r ++ [10]))) x) : Ev (fun k => runL k (tx line :: ls) form out) x := by
  simp only [runL]
  rw [show (⟨#[32]⟩ : ByteArray) = tx [32] from rfl, split_tx (by omega)]
  simp only [Option.bind_some]
  refine hc.bind ?_
  rw [tx_size]
  simp only [if_pos (And.intro hr ho)]
  rw [show (⟨#[10]⟩ : ByteArray) = tx [10] from rfl, tx_append, tx_data]
  exact hn
theorem runL_nil (form : List Int) (out : List UInt8) : Ev (fun k => runL k [] form out) (form, out) := by
  simp only [runL]; exact Ev.now _
theorem execute_ev {s out : List UInt8} {ls : List (List UInt8)} {form : List Int} (h5 : s.length ≤ 500) (hs : Lib.split s [10] = ls ++ [[]]) (hr : Ev (fun k => runL k (ls.map tx) [1] []) (form, out)) (hf : form.length ≤ 1000000) (ho : out.length ≤ 1000000000) :
    Ev (fun k => impl_Execute.f k (tx s)) (tx (out ++ ([116, 101, 114, 109, 115, 32] ++ Lib.itoa (form.length : Int) ++ [10]))) := by
  have hl := Lib.itoa_length_le (form.length : Int) (by omega) (by omega)
  unfold impl_Execute.f
  simp only [tx_size, if_neg (show ¬ s.length > 500 by omega), show (⟨#[10]⟩ : ByteArray) = tx [10] from rfl, split_tx (s := s) (c := 10) (by omega), hs]
  simp only [Option.bind_some, List.map_append, List.map_cons, List.map_nil, List.dropLast_concat]
  refine hr.bind ?_
  dsimp only
  rw [itoa_eq (n := (form.length : Int)) (by omega) (by omega)]
  simp only [Option.bind_some]
  rw [if_pos ⟨by rw [tx_size]; omega, ho, hf⟩, show (⟨#[116, 101, 114, 109, 115, 32]⟩ : ByteArray) = tx [116, 101, 114, 109, 115, 32] from rfl, tx_append, tx_append, tx_data]
  exact Ev.now _
/-- The bytes of a number's text are no blank and no end of a line. -/
theorem itoa_no (n : Int) {c : UInt8} (hc : c.toNat < 45) : c ∉ Lib.itoa n := by
  unfold Lib.itoa
  by_cases h : n < 0
  · rw [if_pos h]
    intro m
    rcases List.mem_cons.1 m with e | m
    · subst e; revert hc; decide
    · have := dec_bytes _ _ m; omega
  · rw [if_neg h]
    intro m
    have := dec_bytes _ _ m; omega


/-! ### two numbers and a place are drawn -/
/-! ### the symbol of two numbers -/
def okN (a b : Int) : Prop := a ≠ 0 ∧ b ≠ 0 ∧ a.natAbs ≤ 5000 ∧ b.natAbs ≤ 5000
instance (a b : Int) : Decidable (okN a b) := by unfold okN; infer_instance
theorem placeOk_range {p : Int} (h : placeOk p = true) : 0 ≤ p ∧ p ≤ 5000 := by
  unfold placeOk at h
  simp only [Bool.or_eq_true, Bool.and_eq_true, decide_eq_true_eq] at h
  omega
/-- A place's word. -/
def plW (p : Int) : List UInt8 := if p = 0 then [114] else Lib.itoa p
theorem plW_no (p : Int) {c : UInt8} (hc : c.toNat < 45) : c ∉ plW p := by
  unfold plW
  split
  · intro m; obtain rfl := List.mem_singleton.1 m; revert hc; decide
  · exact itoa_no p hc
theorem plW_len {p : Int} (h : placeOk p = true) : (plW p).length ≤ 21 := by
  have := placeOk_range h
  unfold plW
  split
  · simp
  · exact Lib.itoa_length_le p (by omega) (by omega)
theorem placeOf_ev {p : Int} (h : placeOk p = true) : Ev (fun k => impl_placeOf.f k (tx (plW p))) p := by
  have hr := placeOk_range h
  unfold impl_placeOf.f plW
  rw [tx_toList]
  by_cases c : p = 0
  · simp only [if_pos c, if_true]; rw [c]; exact Ev.now _
  · have hne : Lib.itoa p ≠ [114] := by
      intro e
      rw [itoa_of hr.1] at e
      have := dec_bytes p.toNat 114 (by rw [e]; simp)
      revert this; decide
    simp only [if_neg c, if_neg hne]
    refine (numberOf_ev (n := p) (by omega) (by omega)).bind ?_
    simp only [if_neg c]
    exact Ev.now _


/-! ### the line 'form' -/
def foW : List UInt8 := [102, 111, 114, 109]
theorem split_spc {a : List UInt8} (ha : (32 : UInt8) ∉ a) (xs : List Int) : Lib.split (a ++ spc xs) [32] = a :: xs.map Lib.itoa := by
  induction xs generalizing a with
  | nil => rw [show a ++ spc [] = a by simp [spc], split_not ha]; rfl
  | cons x xs ih =>
    have e : a ++ spc (x :: xs) = a ++ 32 :: (Lib.itoa x ++ spc xs) := by simp [spc]
    rw [e, split_mid _ ha, ih (itoa_no x (by decide))]
    rfl
theorem spc_no {c : UInt8} (hc : c.toNat < 45) (h32 : c ≠ 32) (xs : List Int) : c ∉ spc xs := by
  induction xs with
  | nil => simp [spc]
  | cons x xs ih =>
    have e : spc (x :: xs) = 32 :: (Lib.itoa x ++ spc xs) := by simp [spc]
    rw [e]
    intro m
    rcases List.mem_cons.1 m with m | m
    · exact h32 m
    · rcases List.mem_append.1 m with m | m
      · exact itoa_no x hc m
      · exact ih m
theorem numsOf_ev (xs : List Int) (h : ∀ x ∈ xs, x.natAbs < 10000) : Ev (fun k => numsOf k (xs.map fun x => tx (Lib.itoa x))) xs := by
  induction xs with
  | nil => exact Ev.now _
  | cons x xs ih =>
    have hx := h x (by simp)
    have := ih (fun y hy => h y (by simp [hy]))
    simp only [List.map_cons, numsOf]
    exact (numberOf_ev (n := x) (by omega) (by omega)).bind (this.bind (Ev.now _))
theorem lineForm_ev {xs : List Int} (h : ∀ x ∈ xs, x.natAbs < 10000) (h1 : 1 ≤ xs.length) (hl : xs.length ≤ 100) (form : List Int) {b : Bool} (hv : Ev (fun k => impl_FormValid.f k xs) b) :
    Ev (fun k => lineForm k form (xs.map fun x => tx (Lib.itoa x))) (if b = true then xs else form, if b = true then tx [111, 107] else tx [110, 111]) := by
  unfold lineForm
  simp only [List.length_map, if_pos (show 1 ≤ xs.length ∧ xs.length ≤ 1000000 from ⟨h1, by omega⟩)]
  exact (numsOf_ev xs h).bind (hv.bind (Ev.now _))
theorem formCmd_ev {xs : List Int} (h : ∀ x ∈ xs, x.natAbs < 10000) (h1 : 1 ≤ xs.length) (hl : xs.length ≤ 100) (form : List Int) (hv : Ev (fun k => impl_FormValid.f k xs) true) :
    Ev (fun k => impl_command.f k form ((Lib.split (foW ++ spc xs) [32]).map tx)) (xs, tx [111, 107]) := by
  rw [split_spc (by decide)]
  simp only [List.map_cons, List.map_map, impl_command.f]
  rw [show tx foW = kForm from rfl]
  simp only [if_true]
  exact lineForm_ev h h1 hl form hv
theorem split_two {a b : List UInt8} (ha : (10 : UInt8) ∉ a) (hb : (10 : UInt8) ∉ b) : Lib.split (a ++ 10 :: (b ++ [10])) [10] = [a, b] ++ [[]] := by
  rw [split_mid _ ha, show b ++ [10] = b ++ 10 :: [] from rfl, split_mid _ hb, split_not (a := []) (by simp)]
  rfl


/-! ### a form and a place are drawn (spec.l91At) -/
theorem at_any {b : List Int} (hb : BytesB b) {q : Int} (hq : 0 ≤ q) (hQ : q ≤ 400) : ∃ xs v q', GoodF 4 xs ∧ Ev (fun k => spec_l91At.f k b q) (xs, v, q') := by
  obtain ⟨xs, q1, hg, h1, h2, e1⟩ := form_draw hb (q := q) hq (by omega) 4 (by omega) (by omega)
  have e2 := specFormPlaces_ev (xs := xs) (by have := hg.1; omega)
  generalize hP : (if formOk xs = true then plc xs else []) = P at e2
  have hPl : P.length ≤ 11 := by rw [← hP]; split; exact plc_len xs; simp
  by_cases c : (P.length : Int) > 0
  · obtain ⟨v2, h3, g3, e3⟩ := pick_ev hb (p := q1) (by omega) (by omega) (n := 2) (by omega)
    by_cases c2 : v2 = 0
    · obtain ⟨v3, h4, g4, e4⟩ := pick_ev hb (p := q1 + 1) (by omega) (by omega) (n := (P.length : Int)) (by omega)
      refine ⟨xs, rd P v3, q1 + 1 + 1, hg, ?_⟩
      unfold spec_l91At.f
      refine e1.bind (e2.bind ?_)
      simp only [if_pos c]
      refine e3.bind ?_
      simp only [c2]
      apply Ev.step
      · intro k
        simp only [spec_l91At.j0, beq_self_eq_true, if_true]
        exact rfl
      · refine e4.bind ?_
        simp only [if_pos h4, if_pos g4]; exact Ev.now _
    · obtain ⟨v, q', hv, h5, h6, e5⟩ := place_draw hb (q := q1 + 1) (by omega) (by omega)
      refine ⟨xs, v, q', hg, ?_⟩
      unfold spec_l91At.f
      refine e1.bind (e2.bind ?_)
      simp only [if_pos c]
      refine e3.bind ?_
      simp only [show (v2 == 0) = false from by simpa using c2]
      apply Ev.step
      · intro k
        simp only [spec_l91At.j0, Bool.false_eq_true, if_false]
        exact rfl
      · exact e5.bind (Ev.now _)
  · obtain ⟨v, q', hv, h5, h6, e5⟩ := place_draw hb (q := q1) (by omega) (by omega)
    refine ⟨xs, v, q', hg, ?_⟩
    unfold spec_l91At.f
    refine e1.bind (e2.bind ?_)
    simp only [if_neg c]
    apply Ev.step
    · intro k
      simp only [spec_l91At.j0, Bool.false_eq_true, if_false]
      exact rfl
    · exact e5.bind (Ev.now _)


def atW : List UInt8 := [97, 116]
theorem atCmd_ev {xs : List Int} {p : Int} (hp : placeOk p = true) (hv : Ev (fun k => impl_PlaceValid.f k p) true) (ht : Ev (fun k => impl_FormVanishes.f k xs p) true) :
    Ev (fun k => impl_command.f k xs ((Lib.split (atW ++ 32 :: plW p) [32]).map tx)) (xs, tx [122, 101, 114, 111]) := by
  rw [split_mid (a := atW) _ (by decide), split_not (plW_no p (by decide))]
  simp only [List.map_cons, List.map_nil, impl_command.f]
  simp only [if_neg (show ¬ tx atW = kForm by intro e; exact absurd (tx_inj (b := foW) e) (by decide)), if_pos (show tx atW = kAt from rfl)]
  unfold lineAt
  refine (placeOf_ev hp).bind (hv.bind ?_)
  simp only [if_true]
  exact ht.bind (Ev.now _)
theorem script_ev {xs : List Int} {p : Int} (h : ∀ x ∈ xs, x.natAbs ≤ 31) (h1 : 1 ≤ xs.length) (hl : xs.length ≤ 5) (hp : placeOk p = true) (hf : Ev (fun k => impl_FormValid.f k xs) true) (hv : Ev (fun k => impl_PlaceValid.f k p) true) (ht : Ev (fun k => impl_FormVanishes.f k xs p) true) :
    Ev (fun k => impl_Execute.f k (tx ((foW ++ spc xs) ++ 10 :: ((atW ++ 32 :: plW p) ++ [10])))) (tx ([111, 107, 10, 122, 101, 114, 111, 10] ++ ([116, 101, 114, 109, 115, 32] ++ Lib.itoa (xs.length : Int) ++ [10]))) := by
  have hm : Mid xs := fun x hx => by have := h x hx; omega
  have hs := spc_len hm
  have hq := plW_len hp
  have e4 : foW.length = 4 := rfl
  have e2 : atW.length = 2 := rfl
  have hn1 : (10 : UInt8) ∉ foW ++ spc xs := by
    intro m
    rcases List.mem_append.1 m with m | m
    · revert m; decide
    · exact spc_no (by decide) (by decide) xs m
  have hn2 : (10 : UInt8) ∉ atW ++ 32 :: plW p := by
    simp only [List.mem_append, List.mem_cons, not_or]
    exact ⟨by decide, by decide, plW_no p (by decide)⟩
  refine execute_ev (form := xs) (by simp; omega) (split_two hn1 hn2) ?_ (by omega) (by simp)
  simp only [List.map_cons, List.map_nil]
  refine runL_one (by simp; omega) (r := [111, 107]) (by simp) (by simp) (formCmd_ev (fun x hx => by have := h x hx; omega) h1 (by omega) [1] hf) ?_
  refine runL_one (by simp; omega) (r := [122, 101, 114, 111]) (by simp) (by simp) (atCmd_ev hp hv ht) ?_
  simpa using runL_nil xs [111, 107, 10, 122, 101, 114, 111, 10]
theorem specFormVanishes_ev {xs : List Int} {p : Int} (hx : ∀ x ∈ xs, x.natAbs ≤ 31) (hl : xs.length ≤ 4) :
    Ev (fun k => spec_FormVanishes.f k xs p) (formOk xs && (placeOk p && van xs p)) := by
  unfold spec_FormVanishes.f
  refine (specFormValid_ev (xs := xs) (by omega)).bind ?_
  by_cases c1 : formOk xs = true
  · simp only [c1, if_true, Bool.true_and]
    refine (specPlaceValid_ev p).bind ?_
    by_cases c2 : placeOk p = true
    · have hk := formOk_iff.1 c1
      simp only [c2, if_true, Bool.true_and]
      exact (specVan_ev (placeOk_iff.1 c2) hk.1 (by omega) (by omega) (by omega)).bind (f := fun _ t => some t) (Ev.now _)
    · simp only [c2, Bool.false_eq_true, if_false, Bool.false_and]; exact Ev.now _
  · simp only [c1, Bool.false_eq_true, if_false, Bool.false_and]; exact Ev.now _
theorem holds : laws_FnExecuteAt.Pure := by
  intro l0 _ _ hw
  refine Ev.rounds ?_
  unfold laws_FnExecuteAt.f
  by_cases big : (l0.length : Int) > 1048576
  · simp only [if_pos big]; exact Ev.now _
  obtain ⟨bs, hbs, ho⟩ := open_ev hw
  obtain ⟨xs, p, q', hg, hd⟩ := at_any hbs (q := 0) (by omega) (by omega)
  have hl := hg.1
  simp only [if_neg big, spec_DrawFormVanishes.f, ho, Option.bind_some]
  refine (hd.bind (Ev.now (xs, p))).bind ?_
  have hi := implFormVanishes_ev (p := p) hg.2.1 (show xs.length ≤ 5 by omega)
  refine hi.bind ((specFormVanishes_ev (p := p) hg.2.1 hl).bind ?_)
  by_cases c : (formOk xs && (placeOk p && van xs p)) = true
  · rw [c] at hi ⊢
    simp only [bne_self_eq_false, Bool.false_eq_true, if_false, Bool.not_true]
    simp only [Bool.and_eq_true] at c
    obtain ⟨c1, c2, c3⟩ := c
    have hk := formOk_iff.1 c1
    have hr := placeOk_range c2
    have hf := implFormValid_ev (xs := xs) (fun x h => by have := hg.2.1 x h; omega) (by omega)
    have hv := implPlaceValid_ev p
    rw [c1] at hf
    rw [c2] at hv
    have he := script_ev hg.2.1 (by have := hk; omega) (by omega) c2 hf hv hi
    have hm : Mid xs := fun x hx => by have := hg.2.1 x hx; omega
    have hs := spc_len hm
    have hq := plW_len c2
    have e4 : foW.length = 4 := rfl
    have h1 := Lib.itoa_length_le (xs.length : Int) (by omega) (by omega)
    apply Ev.step
    · intro k
      simp only [laws_FnExecuteAt.j0, Bool.false_eq_true, if_false]
      exact rfl
    refine (digits_ev (n := p) (by omega) (by omega)).bind ?_
    unfold plW at he hq
    rw [show (⟨#[102, 111, 114, 109]⟩ : ByteArray) = tx foW from rfl, show (⟨#[10, 97, 116, 32]⟩ : ByteArray) = tx [10, 97, 116, 32] from rfl, show (⟨#[10]⟩ : ByteArray) = tx [10] from rfl, show (⟨#[114]⟩ : ByteArray) = tx [114] from rfl, show (⟨#[111, 107, 10, 122, 101, 114, 111, 10]⟩ : ByteArray) = tx [111, 107, 10, 122, 101, 114, 111, 10] from rfl]
    by_cases c0 : p = 0
    · simp only [if_pos c0] at he hq ⊢
      refine (spaced_ev hm (by omega)).bind ?_
      simp only [tx_append, tx_size, List.length_append, List.length_cons, List.length_nil]
      rw [show foW ++ spc xs ++ 10 :: (atW ++ 32 :: [114] ++ [10]) = foW ++ spc xs ++ [10, 97, 116, 32] ++ [114] ++ [10] by simp [atW]] at he
      simp only [if_pos (show 4 + (spc xs).length ≤ 9223372036854775807 by omega), if_pos (show foW.length + (spc xs).length + 4 ≤ 9223372036854775807 by omega), if_pos (show foW.length + (spc xs).length + (0 + 1 + 1 + 1 + 1) + 1 ≤ 9223372036854775807 by omega), if_pos (show foW.length + (spc xs).length + (0 + 1 + 1 + 1 + 1) + (0 + 1) + 1 ≤ 9223372036854775807 by omega)]
      refine he.bind ((endLine_ev (n := (xs.length : Int)) (by omega) (by omega)).bind ?_)
      rw [tx_append, tx_size, tx_toList]
      simp only [if_pos (show 8 + ([116, 101, 114, 109, 115, 32] ++ Lib.itoa (xs.length : Int) ++ [10]).length ≤ 9223372036854775807 by simp only [List.length_append, List.length_cons, List.length_nil]; omega), beq_self_eq_true]
      exact Ev.now _
    · simp only [if_neg c0] at he hq ⊢
      refine (spaced_ev hm (by omega)).bind ?_
      simp only [tx_append, tx_size, List.length_append, List.length_cons, List.length_nil]
      rw [show foW ++ spc xs ++ 10 :: (atW ++ 32 :: Lib.itoa p ++ [10]) = foW ++ spc xs ++ [10, 97, 116, 32] ++ Lib.itoa p ++ [10] by simp [atW]] at he
      simp only [if_pos (show 4 + (spc xs).length ≤ 9223372036854775807 by omega), if_pos (show foW.length + (spc xs).length + 4 ≤ 9223372036854775807 by omega), if_pos (show foW.length + (spc xs).length + (0 + 1 + 1 + 1 + 1) + (Lib.itoa p).length ≤ 9223372036854775807 by omega), if_pos (show foW.length + (spc xs).length + (0 + 1 + 1 + 1 + 1) + (Lib.itoa p).length + 1 ≤ 9223372036854775807 by omega)]
      refine he.bind ((endLine_ev (n := (xs.length : Int)) (by omega) (by omega)).bind ?_)
      rw [tx_append, tx_size, tx_toList]
      simp only [if_pos (show 8 + ([116, 101, 114, 109, 115, 32] ++ Lib.itoa (xs.length : Int) ++ [10]).length ≤ 9223372036854775807 by simp only [List.length_append, List.length_cons, List.length_nil]; omega), beq_self_eq_true]
      exact Ev.now _
  · rw [show (formOk xs && (placeOk p && van xs p)) = false by simpa using c]
    simp only [bne_self_eq_false, Bool.false_eq_true, if_false, Bool.not_false]
    refine Ev.step (f := fun _ => some true) (fun k => by simp [laws_FnExecuteAt.j0]) (Ev.now _)

end Go.Proofs.YtacfcoilmdhgnaaGreatDoor.QFnExecuteAt
