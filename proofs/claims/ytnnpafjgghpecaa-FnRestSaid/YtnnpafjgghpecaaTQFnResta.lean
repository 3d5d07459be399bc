/- A plane. -/
import Derived.Test.YtnnpafjgghpecaaTPFnRestx11
import Derived.Test.YtnnpafjgghpecaaTPlain
set_option linter.unusedVariables false
set_option linter.unusedSimpArgs false
namespace Go.Proofs.Ytnnpafjgghpecaa.QFnRest
open Go.RowKit Go.Proofs.Ytnnpafjgghpecaa.PFnRest Go.Proofs.YtnnpafjgghpecaaW.PrintWords Go.Proofs.YtnnpafjgghpecaaW.PrintLast Go.Proofs.YtnnpafjgghpecaaW.PrintMore Locg

/-! ### draws -/
theorem xor_i64_nat (a b : Nat) (ha : a < 9223372036854775808) (hb : b < 9223372036854775808) : Go.bits .xor .i64 (a : Int) (b : Int) = ((a ^^^ b : Nat) : Int) := by
  have hx : a ^^^ b < 2 ^ 63 := Nat.xor_lt_two_pow (by omega) (by omega)
  have h1 : (BitVec.ofInt 64 (a : Int)).toNat = a := by
    rw [BitVec.ofInt_natCast, BitVec.toNat_ofNat]; exact Nat.mod_eq_of_lt (by omega)
  have h2 : (BitVec.ofInt 64 (b : Int)).toNat = b := by
    rw [BitVec.ofInt_natCast, BitVec.toNat_ofNat]; exact Nat.mod_eq_of_lt (by omega)
  show IntKind.i64.wrap ((BitVec.ofInt 64 (a : Int) ^^^ BitVec.ofInt 64 (b : Int)).toNat : Int) = _
  rw [BitVec.toNat_xor, h1, h2]
  have hw : ∀ n : Int, IntKind.i64.wrap n = wrap64 n := fun n => by simp [IntKind.wrap, wrap64, IntKind.bits, IntKind.signed]; omega
  rw [hw]
  exact w64' (by omega) (by omega)
theorem xor_nonneg (a b : Int) (ha : 0 ≤ a) (hA : a < 9223372036854775808) (hb : 0 ≤ b) (hB : b < 9223372036854775808) : 0 ≤ Go.bits .xor .i64 a b := by
  obtain ⟨a, rfl⟩ := Int.eq_ofNat_of_zero_le ha
  obtain ⟨b, rfl⟩ := Int.eq_ofNat_of_zero_le hb
  rw [xor_i64_nat a b (by omega) (by omega)]
  exact Int.natCast_nonneg _
theorem tmod_range {x n : Int} (hx : 0 ≤ x) (hn : 1 ≤ n) : 0 ≤ x.tmod n ∧ x.tmod n < n := by
  rw [Int.tmod_eq_emod_of_nonneg hx]; exact ⟨Int.emod_nonneg _ (by omega), Int.emod_lt_of_pos _ (by omega)⟩
def BytesB (b : List Int) : Prop := (∀ x ∈ b, 0 ≤ x ∧ x ≤ 255) ∧ b.length ≤ 2000
theorem BytesB.rd_ {b : List Int} (h : BytesB b) (i : Int) : 0 ≤ rd b i ∧ rd b i ≤ 255 := by
  unfold rd
  by_cases c : i.toNat < b.length
  · have := h.1 (b[i.toNat]) (by simp)
    simpa [List.getElem?_eq_getElem c] using this
  · simp [List.getElem?_eq_none (show b.length ≤ i.toNat by omega)]
/-- What the reader mixes at a place. -/
def pv (b : List Int) (p : Int) : Int := if b.length = 0 then 0 else if p < (b.length : Int) then rd b p else
  Go.bits .xor .i64 (rd b (p.tmod b.length) * 131 + rd b ((p * 7 + 3).tmod b.length) * 1117 + p * 29 + p.tdiv b.length * 53) ((rd b (p.tmod b.length) * 131 + rd b ((p * 7 + 3).tmod b.length) * 1117 + p * 29 + p.tdiv b.length * 53).tdiv 64)
theorem pick_at {b : List Int} (hb : BytesB b) {p : Int} (hp : 0 ≤ p) (hP : p ≤ 1000000000000000) {n : Int} (hn : 1 ≤ n) :
    0 ≤ pv b p ∧ Ev (fun k => spec_l6Rd_pick.f k b p n) ((pv b p).tmod n, p + 1) := by
  have hl := hb.2
  unfold pv
  rcases Nat.eq_zero_or_pos b.length with h0 | h0
  · rw [if_pos h0, Int.zero_tmod]
    refine ⟨by omega, Ev.step (f := fun _ => some (0, p + 1)) (fun k => ?_) (Ev.now _)⟩
    simp only [spec_l6Rd_pick.f, spec_l6Rd_pick.j0]
    rw [if_neg (by omega), w64 (x := p + 1) (by omega) (by omega), if_pos (by simp [h0])]
  · have e : ∀ k, spec_l6Rd_pick.f (k + 1) b p n = spec_l6Rd_pick.j0 (k + 1) n false b (p + 1) := by
      intro k
      simp only [spec_l6Rd_pick.f]
      rw [if_neg (by omega), w64 (x := p + 1) (by omega) (by omega)]
      congr 1
      simp; intro h; rw [h] at h0; simp at h0
    have hq : wrap64 (p + 1 - 1) = p := by rw [w64 (by omega) (by omega)]; omega
    rw [if_neg (by omega)]
    by_cases c : p < b.length
    · rw [if_pos c]
      refine ⟨(hb.rd_ p).1, Ev.step (f := fun _ => some ((rd b p).tmod n, p + 1)) (fun k => ?_) (Ev.now _)⟩
      have := hb.rd_ p
      rw [e]
      simp only [spec_l6Rd_pick.j0, hq]
      rw [if_neg (by simp), if_pos c, if_pos hp, if_neg (by omega), w64 (x := rd b p) (by omega) (by omega)]
    · rw [if_neg c]
      have hm := tmod_range hp (n := b.length) (by omega)
      have e7 : wrap64 (p * 7) = p * 7 := w64 (by omega) (by omega)
      have e73 : wrap64 (p * 7 + 3) = p * 7 + 3 := w64 (by omega) (by omega)
      have e29 : wrap64 (p * 29) = p * 29 := w64 (by omega) (by omega)
      have hm2 := tmod_range (x := p * 7 + 3) (by omega) (n := b.length) (by omega)
      have hA := hb.rd_ (p.tmod b.length)
      have hB := hb.rd_ ((p * 7 + 3).tmod b.length)
      have hd : 0 ≤ p.tdiv b.length ∧ p.tdiv b.length ≤ p := by
        rw [Int.tdiv_eq_ediv_of_nonneg hp]; exact ⟨Int.ediv_nonneg hp (by omega), Int.ediv_le_self _ hp⟩
      generalize hAe : rd b (p.tmod b.length) = A at hA
      generalize hBe : rd b ((p * 7 + 3).tmod b.length) = B at hB
      generalize hDe : p.tdiv b.length = D at hd
      have hx64 : 0 ≤ (A * 131 + B * 1117 + p * 29 + D * 53).tdiv 64 ∧ (A * 131 + B * 1117 + p * 29 + D * 53).tdiv 64 ≤ A * 131 + B * 1117 + p * 29 + D * 53 := by
        rw [Int.tdiv_eq_ediv_of_nonneg (by omega)]; omega
      have hx := xor_nonneg (A * 131 + B * 1117 + p * 29 + D * 53) ((A * 131 + B * 1117 + p * 29 + D * 53).tdiv 64) (by omega) (by omega) (by omega) (by omega)
      refine ⟨hx, Ev.step (f := fun _ => some (_, p + 1)) (fun k => ?_) (Ev.now _)⟩
      rw [e]
      simp only [spec_l6Rd_pick.j0, hq, e7, e73, hAe, hBe, hDe, e29]
      rw [if_neg (by simp), if_neg c, if_neg (by omega), if_pos hm.1, if_pos hm.2, if_pos hm2.1, if_pos hm2.2, if_neg (by omega)]
      rw [w64 (x := A) (by omega) (by omega), w64 (x := B) (by omega) (by omega), w64 (x := D) (by omega) (by omega), w64 (x := A * 131) (by omega) (by omega), w64 (x := B * 1117) (by omega) (by omega),
        w64 (x := A * 131 + B * 1117) (by omega) (by omega), w64 (x := A * 131 + B * 1117 + p * 29) (by omega) (by omega), w64 (x := D * 53) (by omega) (by omega),
        w64 (x := A * 131 + B * 1117 + p * 29 + D * 53) (by omega) (by omega), w64 (x := (A * 131 + B * 1117 + p * 29 + D * 53).tdiv 64) (by omega) (by omega)]
theorem pick_ev {b : List Int} (hb : BytesB b) {p : Int} (hp : 0 ≤ p) (hP : p ≤ 1000000000000000) {n : Int} (hn : 1 ≤ n) :
    ∃ v, 0 ≤ v ∧ v < n ∧ Ev (fun k => spec_l6Rd_pick.f k b p n) (v, p + 1) := by
  obtain ⟨h, e⟩ := pick_at hb hp hP hn
  exact ⟨_, (tmod_range h hn).1, (tmod_range h hn).2, e⟩
theorem open_ev {l : List Int} (h : ∀ x ∈ l, (Lit.int .u8 x).wf = true) : ∃ b, BytesB b ∧ spec_l6Open.f l = some (b, 0) := by
  have h' : ∀ x ∈ l, 0 ≤ x ∧ x ≤ 255 := fun x hx => by
    have := h x hx
    simp only [Lit.wf, Bool.and_eq_true, decide_eq_true_eq] at this
    have e1 : IntKind.u8.min = 0 := by decide
    have e2 : IntKind.u8.max = 255 := by decide
    omega
  unfold spec_l6Open.f
  by_cases c : (l.length : Int) > 2000
  · refine ⟨l.take 2000, ⟨fun x hx => h' x (List.mem_of_mem_take hx), by simp; omega⟩, ?_⟩
    rw [if_pos c, if_pos (by omega)]
  · exact ⟨l, ⟨h', by omega⟩, by rw [if_neg c]⟩


/-! ### split -/
theorem split_l {p : Int} (hp : 2 ≤ p) : ∀ (d : Nat) (n j : Int), n ≠ 0 → n.natAbs < 2 ^ d → d ≤ 63 → 0 ≤ j → j + d ≤ 1000 →
    ∀ k, d < k → impl_split.l0 k n p j = some (j + (spl p d n).1, (spl p d n).2) := by
  intro d
  induction d with
  | zero => intro n j hn h; simp at h; omega
  | succ d ih =>
    intro n j hn h hd hj hJ k hk
    obtain ⟨k, rfl⟩ : ∃ m, k = m + 1 := ⟨k - 1, by omega⟩
    simp only [impl_split.l0]
    rw [if_neg (by omega)]
    by_cases c : n.tmod p = 0
    · obtain ⟨h0, h1, h2, h3, _⟩ := tdiv_abs hp hn c
      have hlt : n.natAbs < 2 ^ 63 := Nat.lt_of_lt_of_le h (Nat.pow_le_pow_right (by omega) hd)
      rw [if_pos c, w64 (x := n.tdiv p) (by omega) (by omega), spl_dvd d c, w64 (x := j + 1) (by omega) (by omega),
        ih (n.tdiv p) (j + 1) h0 (by rw [Nat.pow_succ] at h; omega) (by omega) (by omega) (by omega) k (by omega)]
      simp only [Option.some.injEq, Prod.mk.injEq, and_true]; omega
    · rw [if_neg c, spl_not d c]
      simp
theorem split_at {n p : Int} (hp : 2 ≤ p) (hn : n ≠ 0) (h : n.natAbs < 2 ^ 63) (k : Nat) (hk : 63 < k) : impl_split.f k n p = some (val p n, unit p n) := by
  unfold impl_split.f val unit
  rw [split_l hp 63 n 0 hn h (by omega) (by omega) (by omega) k hk, ← spl_more hp 63 n hn h]
  simp
theorem split_ev {n p : Int} (hp : 2 ≤ p) (hn : n ≠ 0) (h : n.natAbs < 2 ^ 63) : Ev (fun k => impl_split.f k n p) (val p n, unit p n) := ⟨64, fun k hk => split_at hp hn h k (by omega)⟩


/-! ### valuations -/
theorem valuation_l {p : Int} (hp : 2 ≤ p) : ∀ (d : Nat) (n j : Int), n ≠ 0 → n.natAbs < 2 ^ d → d ≤ 63 → 0 ≤ j → j + d ≤ 1000 →
    ∀ k, d < k → spec_l1Valuation.l0 k n p j = some (j + (spl p d n).1, (spl p d n).2) := by
  intro d
  induction d with
  | zero => intro n j hn h; simp at h; omega
  | succ d ih =>
    intro n j hn h hd hj hJ k hk
    obtain ⟨k, rfl⟩ : ∃ m, k = m + 1 := ⟨k - 1, by omega⟩
    simp only [spec_l1Valuation.l0]
    rw [if_neg (by omega)]
    by_cases c : n.tmod p = 0
    · obtain ⟨h0, h1, h2, h3, _⟩ := tdiv_abs hp hn c
      have hlt : n.natAbs < 2 ^ 63 := Nat.lt_of_lt_of_le h (Nat.pow_le_pow_right (by omega) hd)
      rw [if_pos c, w64 (x := n.tdiv p) (by omega) (by omega), spl_dvd d c, w64 (x := j + 1) (by omega) (by omega),
        ih (n.tdiv p) (j + 1) h0 (by rw [Nat.pow_succ] at h; omega) (by omega) (by omega) (by omega) k (by omega)]
      simp only [Option.some.injEq, Prod.mk.injEq, and_true]; omega
    · rw [if_neg c, spl_not d c]
      simp
theorem valuation_at {n p : Int} (hp : 2 ≤ p) (hn : n ≠ 0) (h : n.natAbs < 2 ^ 63) (k : Nat) (hk : 63 < k) : spec_l1Valuation.f k n p = some (val p n, unit p n) := by
  unfold spec_l1Valuation.f val unit
  rw [valuation_l hp 63 n 0 hn h (by omega) (by omega) (by omega) k hk, ← spl_more hp 63 n hn h]
  simp
theorem valuation_ev {n p : Int} (hp : 2 ≤ p) (hn : n ≠ 0) (h : n.natAbs < 2 ^ 63) : Ev (fun k => spec_l1Valuation.f k n p) (val p n, unit p n) := ⟨64, fun k hk => valuation_at hp hn h k (by omega)⟩


/-! ### primes -/
theorem primesOf_l : ∀ (d : Nat) (n p : Int) (out : List Int), 0 < n → n ≤ 1000000000000 → 2 ≤ p → p ≤ 1000002 → n + 2 - p ≤ d → 1 ≤ d → out.length + d ≤ 17000000000000 →
    ∀ k, d + 64 < k → impl_primesOf.l0 k n out p = some (out ++ pl d n p) := by
  intro d
  induction d with
  | zero => intro n p out hn hN hp hP hd h1; omega
  | succ d ih =>
    intro n p out hn hN hp hP hd h1 hl k hk
    obtain ⟨k, rfl⟩ : ∃ m, k = m + 1 := ⟨k - 1, by omega⟩
    simp only [impl_primesOf.l0, pl]
    rw [wmul (a := p) (b := p) (by omega) (by omega) (by omega) (by omega)]
    by_cases c : p * p ≤ n
    · have hpn : 2 * p ≤ n := by have := Int.mul_le_mul_of_nonneg_right hp (show 0 ≤ p by omega); omega
      have hp6 : p ≤ 1000000 := le_of_sq (by omega) (by omega)
      rw [if_pos c, if_neg (by omega), if_pos c, w64 (x := p + 1) (by omega) (by omega)]
      by_cases c2 : n.tmod p = 0
      · have hv := val_spec hp (show n ≠ 0 by omega) (by omega)
        rw [if_pos c2, if_pos (by omega), split_at hp (by omega) (by omega) k (by omega), if_pos c2]
        simp only [Option.bind_some]
        rw [ih (unit p n) (p + 1) (out ++ [p]) (hv.2.2.2.2.2.2 hn) (by omega) (by omega) (by omega) (by omega) (by omega) (by simp; omega) k (by omega)]
        simp
      · rw [if_neg c2, if_neg c2]
        exact ih n (p + 1) out hn hN (by omega) (by omega) (by omega) (by omega) (by omega) k (by omega)
    · rw [if_neg c, if_neg c]
      by_cases c2 : n > 1
      · rw [if_pos c2, if_pos c2, if_pos (by omega)]
      · rw [if_neg c2, if_neg c2]; simp
theorem primesOf_ev {n : Int} (hn : n ≠ 0) (h : n.natAbs ≤ 1000000000000) : Ev (fun k => impl_primesOf.f k n) (primes n) := by
  refine ⟨n.natAbs + 67, fun k hk => ?_⟩
  simp only [impl_primesOf.f, impl_size.f, Option.bind_some]
  rw [size_ev (by omega) (by omega), primesOf_l (n.natAbs + 2) (absI n) 2 [] (by unfold absI; omega) (by unfold absI; omega) (by omega) (by omega) (by unfold absI; omega) (by omega) (by simp; omega) k (by omega)]
  rfl


/-! ### primes, of the reference -/
theorem l1Primes_in (p : Int) (hp : 2 ≤ p) (hP : p ≤ 1000001) (out : List Int) : ∀ (d : Nat) (n : Int), 0 < n → n.natAbs < 2 ^ d → d ≤ 63 →
    ∀ k, spec_l1Primes.l1 (k + d) n out p = (match k + d - (spl p d n).1.toNat with | 0 => none | m + 1 => spec_l1Primes.l0 m (spl p d n).2 out (p + 1)) := by
  intro d
  induction d with
  | zero => intro n hn h; simp at h; omega
  | succ d ih =>
    intro n hn h hd k
    have hs := spl_spec hp (d + 1) n (by omega) h
    rw [show k + (d + 1) = (k + d) + 1 from by omega]
    simp only [spec_l1Primes.l1]
    rw [if_neg (by omega)]
    by_cases c : n.tmod p = 0
    · obtain ⟨h0, h1, h2, h3, _⟩ := tdiv_abs hp (show n ≠ 0 by omega) c
      have hlt : n.natAbs < 2 ^ 63 := Nat.lt_of_lt_of_le h (Nat.pow_le_pow_right (by omega) hd)
      have h4 : (n.tdiv p).natAbs < 2 ^ d := by rw [Nat.pow_succ] at h; omega
      have hs' := spl_spec hp d (n.tdiv p) h0 h4
      rw [if_pos c, w64 (x := n.tdiv p) (by omega) (by omega), spl_dvd d c, ih (n.tdiv p) (h3 hn) h4 (by omega) k]
      simp only
      rw [show k + d + 1 - ((spl p d (n.tdiv p)).1 + 1).toNat = k + d - (spl p d (n.tdiv p)).1.toNat from by omega]
    · rw [if_neg c, spl_not d c, w64 (x := p + 1) (by omega) (by omega)]
      simp
theorem l1Primes_l : ∀ (d : Nat) (n p : Int) (out : List Int), 0 < n → n ≤ 1000000000000 → 2 ≤ p → p ≤ 1000002 → n + 2 - p ≤ d → 1 ≤ d → out.length + d ≤ 17000000000000 →
    Ev (fun k => spec_l1Primes.l0 k n out p) (out ++ pl d n p) := by
  intro d
  induction d with
  | zero => intro n p out hn hN hp hP hd h1; omega
  | succ d ih =>
    intro n p out hn hN hp hP hd h1 hl
    by_cases c : p * p ≤ n
    · have hpn : 2 * p ≤ n := by have := Int.mul_le_mul_of_nonneg_right hp (show 0 ≤ p by omega); omega
      have hp6 : p ≤ 1000000 := le_of_sq (by omega) (by omega)
      have hv := val_spec hp (show n ≠ 0 by omega) (by omega)
      have inner : ∀ o : List Int, Ev (fun k => spec_l1Primes.l0 k (unit p n) o (p + 1)) (o ++ pl d (unit p n) (p + 1)) → Ev (fun k => spec_l1Primes.j1 k n o p) (o ++ pl d (unit p n) (p + 1)) := by
        intro o ho
        obtain ⟨K, hK⟩ := ho
        refine ⟨K + 200, fun k hk => ?_⟩
        obtain ⟨k, rfl⟩ : ∃ m, k = m + 64 + 1 := ⟨k - 65, by omega⟩
        simp only [spec_l1Primes.j1]
        have e := l1Primes_in p hp (by omega) o 63 n hn (by omega) (by omega) (k + 1)
        rw [show k + 64 = k + 1 + 63 from by omega, e, ← spl_more hp 63 n (by omega) (by omega)]
        change (match k + 1 + 63 - (val p n).toNat with | 0 => none | m + 1 => spec_l1Primes.l0 m (unit p n) o (p + 1)) = _
        have hb := hv.2.2.2.1
        obtain ⟨m, hm⟩ : ∃ m, k + 1 + 63 - (val p n).toNat = m + 1 := ⟨k + 63 - (val p n).toNat, by omega⟩
        rw [hm]
        exact hK m (by omega)
      by_cases c2 : n.tmod p = 0
      · refine Ev.step (f := fun k => spec_l1Primes.j1 k n (out ++ [p]) p) (fun k => ?_) ?_
        · simp only [spec_l1Primes.l0]
          rw [wmul (a := p) (b := p) (by omega) (by omega) (by omega) (by omega), if_pos c, if_neg (by omega), if_pos c2, if_pos (by omega)]
        · have := inner (out ++ [p]) (ih (unit p n) (p + 1) (out ++ [p]) (hv.2.2.2.2.2.2 hn) (by omega) (by omega) (by omega) (by omega) (by omega) (by simp; omega))
          simp only [pl, if_pos c, if_pos c2]
          simpa using this
      · refine Ev.step (f := fun k => spec_l1Primes.j1 k n out p) (fun k => ?_) ?_
        · simp only [spec_l1Primes.l0]
          rw [wmul (a := p) (b := p) (by omega) (by omega) (by omega) (by omega), if_pos c, if_neg (by omega), if_neg c2]
        · have hu := (val_of_not c2).2
          have := inner out (by rw [hu]; exact ih n (p + 1) out hn hN (by omega) (by omega) (by omega) (by omega) (by omega))
          rw [hu] at this
          simp only [pl, if_pos c, if_neg c2]
          exact this
    · refine Ev.step (f := fun _ => some (out ++ pl (d + 1) n p)) (fun k => ?_) (Ev.now _)
      simp only [spec_l1Primes.l0, pl]
      rw [wmul (a := p) (b := p) (by omega) (by omega) (by omega) (by omega), if_neg c, if_neg c]
      by_cases c2 : n > 1
      · rw [if_pos c2, if_pos c2, if_pos (by omega)]
      · rw [if_neg c2, if_neg c2]; simp
theorem l1Primes_ev {n : Int} (hn : n ≠ 0) (h : n.natAbs ≤ 1000000000000) : Ev (fun k => spec_l1Primes.f k n) (primes n) := by
  simp only [spec_l1Primes.f, spec_l1Size.f, Option.bind_some]
  rw [size_ev (by omega) (by omega)]
  have := l1Primes_l (n.natAbs + 2) (absI n) 2 [] (by unfold absI; omega) (by unfold absI; omega) (by omega) (by omega) (by unfold absI; omega) (by omega) (by simp; omega)
  simpa [primes] using this


/-! ### residues, squares and symbols at a place -/
theorem implRest_eq {a m : Int} (h : 0 < m) (hm : m ≤ 5000) (ha : a.natAbs < 2 ^ 63) : impl_rest.f a m = some (a % m) := by
  unfold impl_rest.f
  have h1 := Int.tmod_lt_of_pos a h
  have h2 : -m < Int.tmod a m := by
    have := Int.tmod_lt_of_pos (-a) h; rw [Int.neg_tmod] at this; omega
  rw [if_neg (by omega), w64 (by omega) (by omega), rest_eq a h]
theorem specMod_eq {a m : Int} (h : 0 < m) (hm : m ≤ 5000) (ha : a.natAbs < 2 ^ 63) : spec_l1Mod.f a m = some (a % m) := by
  unfold spec_l1Mod.f
  have h1 := Int.tmod_lt_of_pos a h
  have h2 : -m < Int.tmod a m := by
    have := Int.tmod_lt_of_pos (-a) h; rw [Int.neg_tmod] at this; omega
  rw [if_neg (by omega), w64 (by omega) (by omega), rest_eq a h]
theorem implResidue_l {p r : Int} (hp : 3 ≤ p) (hP : p ≤ 5000) : ∀ (d : Nat) (x : Int), 1 ≤ x → p.tdiv 2 + 2 ≤ x + d → x ≤ 5001 →
    Ev (fun k => impl_residue.l0 k p r x) (resS p r d x) := by
  have e2 : p.tdiv 2 = p / 2 := tdiv2 (by omega)
  intro d
  induction d with
  | zero =>
    intro x h1 h2 h3
    refine Ev.step (f := fun _ => some (-1)) (fun k => ?_) (Ev.now _)
    simp only [impl_residue.l0]
    rw [w64 (x := p.tdiv 2) (by omega) (by omega), if_neg (by omega)]
  | succ d ih =>
    intro x h1 h2 h3
    by_cases c : x ≤ p.tdiv 2
    · have hxx := wmul (a := x) (b := x) (by omega) (by omega) (by omega) (by omega)
      by_cases c2 : (x * x).tmod p = r
      · refine Ev.step (f := fun _ => some 1) (fun k => ?_) (by simp only [resS, if_pos c, if_pos c2]; exact Ev.now _)
        simp only [impl_residue.l0]
        rw [w64 (x := p.tdiv 2) (by omega) (by omega), if_pos c, if_neg (by omega), hxx, if_pos c2]
      · refine Ev.step (fun k => ?_) (by simp only [resS, if_pos c, if_neg c2]; exact ih (x + 1) (by omega) (by omega) (by omega))
        simp only [impl_residue.l0]
        rw [w64 (x := p.tdiv 2) (by omega) (by omega), if_pos c, if_neg (by omega), hxx, if_neg c2, w64 (x := x + 1) (by omega) (by omega)]
    · refine Ev.step (f := fun _ => some (-1)) (fun k => ?_) (by simp only [resS, if_neg c]; exact Ev.now _)
      simp only [impl_residue.l0]
      rw [w64 (x := p.tdiv 2) (by omega) (by omega), if_neg c]
theorem implResidue_ev {p u : Int} (h : OddP p) (hu : u.natAbs < 2 ^ 63) : Ev (fun k => impl_residue.f k u p) (res p u) := by
  have hp := h.2
  unfold impl_residue.f
  simp only [implRest_eq (show 0 < p by omega) (by omega) hu, Option.bind_some]
  unfold res resR
  by_cases c : u % p = 0
  · simp only [if_pos c]; exact Ev.now _
  · simp only [if_neg c]
    exact implResidue_l (by omega) (by omega) _ 1 (by omega) (by rw [tdiv2 (by omega)]; omega) (by omega)
theorem specPower_l {m : Int} (hm : 3 ≤ m) (hM : m ≤ 5000) : ∀ (d : Nat) (b e acc : Int), 0 ≤ b → b < m → 0 ≤ acc → acc < m → 0 ≤ e → e < 2 ^ d → e ≤ 5000 →
    Ev (fun k => spec_l1Power.l0 k b e m acc) (powS m d b e acc) := by
  intro d
  induction d with
  | zero =>
    intro b e acc h1 h2 h3 h4 h5 h6 h7
    refine Ev.step (f := fun _ => some acc) (fun k => ?_) (Ev.now _)
    simp only [spec_l1Power.l0]
    rw [if_neg (by simp at h6; omega)]
  | succ d ih =>
    intro b e acc h1 h2 h3 h4 h5 h6 h7
    by_cases c : e > 0
    · have hbb := wmul (a := b) (b := b) (by omega) (by omega) (by omega) (by omega)
      have hab := wmul (a := acc) (b := b) (by omega) (by omega) (by omega) (by omega)
      have ht := tdiv2 (n := e) (by omega)
      have hb2 := tmod_range (x := b * b) (n := m) (sq_nonneg b) (by omega)
      have ha2 := tmod_range (x := acc * b) (n := m) (Int.mul_nonneg h3 h1) (by omega)
      have he2 : e.tdiv 2 < 2 ^ d := by rw [ht]; rw [Int.pow_succ] at h6; omega
      by_cases c2 : e.tmod 2 = 1
      · refine Ev.step (fun k => ?_) (by simp only [powS, if_pos c, if_pos c2]; exact ih ((b * b).tmod m) (e.tdiv 2) ((acc * b).tmod m) hb2.1 hb2.2 ha2.1 ha2.2 (by omega) he2 (by omega))
        simp only [spec_l1Power.l0]
        rw [if_pos c, if_pos c2, if_neg (by omega), hbb, hab, w64 (x := e.tdiv 2) (by omega) (by omega)]
      · refine Ev.step (fun k => ?_) (by simp only [powS, if_pos c, if_neg c2]; exact ih ((b * b).tmod m) (e.tdiv 2) acc hb2.1 hb2.2 h3 h4 (by omega) he2 (by omega))
        simp only [spec_l1Power.l0]
        rw [if_pos c, if_neg c2, if_neg (by omega), hbb, w64 (x := e.tdiv 2) (by omega) (by omega)]
    · refine Ev.step (f := fun _ => some acc) (fun k => ?_) (by simp only [powS, if_neg c]; exact Ev.now _)
      simp only [spec_l1Power.l0]
      rw [if_neg c]
theorem specResidue_ev {p u : Int} (h : OddP p) (hu : u.natAbs < 2 ^ 63) : Ev (fun k => spec_l1Residue.f k u p) (res p u) := by
  have hp := h.2
  rw [res_pow h]
  unfold spec_l1Residue.f spec_l1Power.f
  have hr := Int.emod_nonneg u (show p ≠ 0 by omega)
  have hr2 := Int.emod_lt_of_pos u (show 0 < p by omega)
  have h1 := Int.emod_nonneg 1 (show p ≠ 0 by omega)
  have h12 := Int.emod_lt_of_pos 1 (show 0 < p by omega)
  have ht := tdiv2 (n := p - 1) (by omega)
  simp only [if_neg (show ¬ p = 0 by omega), specMod_eq (show 0 < p by omega) (by omega) hu, Option.bind_some, w64 (x := p - 1) (by omega) (by omega), w64 (x := (p - 1).tdiv 2) (by omega) (by omega)]
  refine (specPower_l (by omega) (by omega) 13 (u % p) ((p - 1).tdiv 2) (1 % p) hr hr2 h1 h12 (by omega) (by omega) (by omega)).bind ?_
  unfold resPR powR
  split <;> exact Ev.now _
theorem implSq_ev {n p : Int} (h : Plc p) (hn : n ≠ 0) (hN : n.natAbs < 2 ^ 63) : Ev (fun k => impl_localSquare.f k n p) (sqAt n p) := by
  unfold impl_localSquare.f
  rcases h with rfl | h
  · simp only [if_true, code_zero hn]; exact Ev.now _
  · have hp := P7_bd h
    obtain ⟨_, v2, v3, v4, v5, v6, _⟩ := val_spec hp hn hN
    simp only [if_neg (show ¬ p = 0 by omega)]
    refine (split_ev hp hn hN).bind ?_
    simp only
    have hpar := par_cases (val p n)
    have hm : (val p n).tmod 2 = val p n % 2 := Int.tmod_eq_emod_of_nonneg v3
    by_cases c : (val p n).tmod 2 = 0
    · simp only [if_pos c]
      rcases h with rfl | h6
      · simp only [if_true, implRest_eq (a := unit 2 n) (m := 8) (by omega) (by omega) (by omega), Option.bind_some]
        have := unit2 hn hN
        have e : sqAt n 2 = (unit 2 n % 8 == 1) := by
          unfold sqAt code
          simp only [show ¬ (2 : Int) = 0 from by omega, if_false, if_true, show par (val 2 n) = 0 from by omega]
          rcases this with h | h | h | h <;> rw [h] <;> rfl
        rw [e]; exact Ev.now _
      · have h2 := h6.2
        simp only [if_neg (show ¬ p = 2 by omega)]
        refine (implResidue_ev h6 (by omega)).bind ?_
        have e : sqAt n p = (res p (unit p n) == 1) := by
          unfold sqAt code
          simp only [if_neg (show ¬ p = 0 by omega), if_neg (show ¬ p = 2 by omega), show par (val p n) = 0 from by omega]
          by_cases c : res p (unit p n) = 1
          · simp [c]
          · simp [c]
        rw [e]; exact Ev.now _
    · simp only [if_neg c]
      have e : sqAt n p = false := by
        unfold sqAt code
        simp only [if_neg (show ¬ p = 0 by omega), show par (val p n) = 1 from by omega]
        split
        · rename_i h2; subst h2; rw [show par (val 2 n) = 1 from by omega]; simp
        · simp
      rw [e]; exact Ev.now _
theorem specSq_ev {n p : Int} (h : Plc p) (hn : n ≠ 0) (hN : n.natAbs < 2 ^ 63) : Ev (fun k => spec_l2Square.f k n p) (sqAt n p) := by
  unfold spec_l2Square.f
  rcases h with rfl | h
  · simp only [if_true, code_zero hn]; exact Ev.now _
  · have hp := P7_bd h
    obtain ⟨_, v2, v3, v4, v5, v6, _⟩ := val_spec hp hn hN
    simp only [if_neg (show ¬ p = 0 by omega)]
    refine (valuation_ev hp hn hN).bind ?_
    simp only
    have hpar := par_cases (val p n)
    have hm : (val p n).tmod 2 = val p n % 2 := Int.tmod_eq_emod_of_nonneg v3
    by_cases c : (val p n).tmod 2 = 0
    · simp only [if_pos c]
      rcases h with rfl | h6
      · simp only [if_true, specMod_eq (a := unit 2 n) (m := 8) (by omega) (by omega) (by omega), Option.bind_some]
        have := unit2 hn hN
        have e : sqAt n 2 = (unit 2 n % 8 == 1) := by
          unfold sqAt code
          simp only [show ¬ (2 : Int) = 0 from by omega, if_false, if_true, show par (val 2 n) = 0 from by omega]
          rcases this with h | h | h | h <;> rw [h] <;> rfl
        rw [e]; exact Ev.now _
      · have h2 := h6.2
        simp only [if_neg (show ¬ p = 2 by omega)]
        refine (specResidue_ev h6 (by omega)).bind ?_
        have e : sqAt n p = (res p (unit p n) == 1) := by
          unfold sqAt code
          simp only [if_neg (show ¬ p = 0 by omega), if_neg (show ¬ p = 2 by omega), show par (val p n) = 0 from by omega]
          by_cases c : res p (unit p n) = 1
          · simp [c]
          · simp [c]
        rw [e]; exact Ev.now _
    · simp only [if_neg c]
      have e : sqAt n p = false := by
        unfold sqAt code
        simp only [if_neg (show ¬ p = 0 by omega), show par (val p n) = 1 from by omega]
        split
        · rename_i h2; subst h2; rw [show par (val 2 n) = 1 from by omega]; simp
        · simp
      rw [e]
      split <;> exact Ev.now _


/-! ### symbols -/
theorem power_ev {t e : Int} (he : e = 0 ∨ e = 1) (ht : t = 1 ∨ t = -1) : Ev (fun k => impl_power.f k t e) (if e = 1 then t else 1) := by
  refine ⟨2, fun k hk => ?_⟩
  obtain ⟨m, rfl⟩ : ∃ m, k = m + 2 := ⟨k - 2, by omega⟩
  rcases he with rfl | rfl <;> rcases ht with rfl | rfl <;> simp [impl_power.f, impl_power.l0, wrap64]
theorem symOdd {p a b : Int} (h : OddP p) (ha : a ≠ 0) (hb : b ≠ 0) (hA : a.natAbs < 2 ^ 63) (hB : b.natAbs < 2 ^ 63) :
    sym a b p = (if (val p a * val p b) % 2 = 1 ∧ p % 4 = 3 then -1 else 1) * (if val p b % 2 = 1 then res p (unit p a) else 1) * (if val p a % 2 = 1 then res p (unit p b) else 1) := by
  have hp := h.2
  obtain ⟨_, a2, a3, _⟩ := val_spec (p := p) (by omega) ha hA
  obtain ⟨_, b2, b3, _⟩ := val_spec (p := p) (by omega) hb hB
  have ra := res_pm h (tmod_ne a2)
  have rb := res_pm h (tmod_ne b2)
  have pa := par_cases (val p a)
  have pb := par_cases (val p b)
  unfold sym symC code
  simp only [if_neg (show ¬ p = 0 by omega), if_neg (show ¬ p = 2 by omega), Int.mul_emod (val p a) (val p b) 2]
  rcases ra with r | r <;> rcases rb with s | s <;> rcases pa with ⟨q, q'⟩ | ⟨q, q'⟩ <;> rcases pb with ⟨t, t'⟩ | ⟨t, t'⟩ <;> rw [r, s, q, q', t, t'] <;> simp
theorem half_odd {p m : Int} (h : OddP p) (hm : 0 ≤ m) : ((m * (p - 1)).tdiv 2).tmod 2 = (if m % 2 = 1 ∧ p % 4 = 3 then 1 else 0) ∧ (m * ((p - 1).tdiv 2)).tmod 2 = (if m % 2 = 1 ∧ p % 4 = 3 then 1 else 0) := by
  have hp := h.2
  have ho := prime_odd h.1 hp.1
  have e1 : (p - 1).tdiv 2 = (p - 1) / 2 := tdiv2 (by omega)
  have e2 : m * (p - 1) = 2 * (m * ((p - 1) / 2)) := by
    rw [Int.mul_left_comm]; congr 1; omega
  have h1 : 0 ≤ m * ((p - 1) / 2) := Int.mul_nonneg hm (by omega)
  have e3 : (m * (p - 1)).tdiv 2 = m * ((p - 1) / 2) := by rw [e2]; exact Int.mul_tdiv_cancel_left _ (by omega)
  rw [e3, e1, Int.tmod_eq_emod_of_nonneg h1]
  have key : m * ((p - 1) / 2) % 2 = (if m % 2 = 1 ∧ p % 4 = 3 then 1 else 0) := by
    rw [Int.mul_emod]
    have hm2 : m % 2 = 0 ∨ m % 2 = 1 := by omega
    have hq : (p % 4 = 3 ∧ (p - 1) / 2 % 2 = 1) ∨ (p % 4 = 1 ∧ (p - 1) / 2 % 2 = 0) := by omega
    rcases hm2 with e | e <;> rcases hq with ⟨f, g⟩ | ⟨f, g⟩ <;> rw [e, f, g] <;> rfl
  exact ⟨key, key⟩
theorem two8 {x : Int} (h : x = 1 ∨ x = 3 ∨ x = 5 ∨ x = 7) : wrap64 (Int.tdiv (wrap64 (x - 1)) 2) = (x - 1) / 2 ∧ wrap64 (wrap64 (x * x) - 1) = 8 * ((x * x - 1) / 8) ∧ 0 ≤ (x - 1) / 2 ∧ (x - 1) / 2 ≤ 3 ∧ 0 ≤ (x * x - 1) / 8 ∧ (x * x - 1) / 8 ≤ 6 := by
  rcases h with rfl | rfl | rfl | rfl <;> decide +kernel
theorem two16 {u : Int} (h : u % 8 = 1 ∨ u % 8 = 3 ∨ u % 8 = 5 ∨ u % 8 = 7) : ∃ X1 X2, wrap64 (Int.tdiv (wrap64 (u % 16 - 1)) 2) = X1 ∧ wrap64 (Int.tdiv (wrap64 (wrap64 (u % 16 * (u % 16)) - 1)) 8) = X2 ∧
    0 ≤ X1 ∧ X1 ≤ 7 ∧ 0 ≤ X2 ∧ X2 ≤ 28 ∧ X1 % 2 = (u % 8 - 1) / 2 % 2 ∧ X2 % 2 = (u % 8 * (u % 8) - 1) / 8 % 2 := by
  have h2 : u % 16 = u % 8 ∨ u % 16 = u % 8 + 8 := by omega
  rcases h with h | h | h | h <;> rcases h2 with h2 | h2 <;> rw [h2, h] <;> exact ⟨_, _, rfl, rfl, by decide +kernel⟩
theorem par3 (X1 Y1 X2 Y2 i j : Int) : (X1 * Y1 + i * Y2 + j * X2) % 2 = ((X1 % 2) * (Y1 % 2) + i * (Y2 % 2) + j * (X2 % 2)) % 2 := by
  have h1 : (X1 * Y1) % 2 = ((X1 % 2) * (Y1 % 2)) % 2 := Int.mul_emod _ _ _
  have h2 : (i * Y2) % 2 = (i * (Y2 % 2)) % 2 := by rw [Int.mul_emod, Int.mul_emod i (Y2 % 2)]; simp
  have h3 : (j * X2) % 2 = (j * (X2 % 2)) % 2 := by rw [Int.mul_emod, Int.mul_emod j (X2 % 2)]; simp
  omega
theorem symTwo {a b : Int} (ha : a ≠ 0) (hb : b ≠ 0) (hA : a.natAbs < 2 ^ 63) (hB : b.natAbs < 2 ^ 63) :
    sym a b 2 = (if ((unit 2 a % 8 - 1) / 2 * ((unit 2 b % 8 - 1) / 2) + val 2 a * ((unit 2 b % 8 * (unit 2 b % 8) - 1) / 8) + val 2 b * ((unit 2 a % 8 * (unit 2 a % 8) - 1) / 8)) % 2 = 1 then -1 else 1) := by
  have ua := unit2 ha hA
  have ub := unit2 hb hB
  have pa := par_cases (val 2 a)
  have pb := par_cases (val 2 b)
  unfold sym code
  simp only [show ¬ (2 : Int) = 0 from by omega, if_false, if_true]
  rcases ua with h | h | h | h <;> rcases ub with h' | h' | h' | h' <;> rw [h, h'] <;>
    rcases pa with ⟨q, q'⟩ | ⟨q, q'⟩ <;> rcases pb with ⟨t, t'⟩ | ⟨t, t'⟩ <;> rw [q, t] <;>
    first
    | (rw [if_pos (by omega)]; decide)
    | (rw [if_neg (by omega)]; decide)
theorem implSymbol_ev {p a b : Int} (h : Plc p) (ha : a ≠ 0) (hb : b ≠ 0) (hA : a.natAbs < 2 ^ 63) (hB : b.natAbs < 2 ^ 63) : Ev (fun k => impl_symbol.f k a b p) (sym a b p) := by
  unfold impl_symbol.f
  rcases h with rfl | h
  · simp only [if_true]
    unfold sym symC code
    by_cases c1 : a < 0
    · by_cases c2 : b < 0
      · simp only [if_pos c1, if_pos c2]; exact Ev.now _
      · simp only [if_pos c1, if_neg c2]; exact Ev.now _
    · simp only [if_neg c1]
      by_cases c2 : b < 0
      · simp only [if_pos c2]; exact Ev.now _
      · simp only [if_neg c2]; exact Ev.now _
  · have hp := P7_bd h
    obtain ⟨_, a2, a3, a4, a5, a6, _⟩ := val_spec hp ha hA
    obtain ⟨_, b2, b3, b4, b5, b6, _⟩ := val_spec hp hb hB
    simp only [if_neg (show ¬ p = 0 by omega)]
    refine (split_ev hp ha hA).bind ((split_ev hp hb hB).bind ?_)
    simp only
    rcases h with rfl | h6
    · simp only [if_true, implRest_eq (a := unit 2 a) (m := 8) (by omega) (by omega) (by omega), implRest_eq (a := unit 2 b) (m := 8) (by omega) (by omega) (by omega), Option.bind_some]
      have ta := two8 (unit2 ha hA)
      have tb := two8 (unit2 hb hB)
      rw [symTwo ha hb hA hB]
      generalize unit 2 a % 8 = x at ta
      generalize unit 2 b % 8 = y at tb
      generalize val 2 a = i at a3 a4
      generalize val 2 b = j at b3 b4
      simp only [ta.1, tb.1, ta.2.1, tb.2.1]
      obtain ⟨_, _, x1, x2, x3, x4⟩ := ta
      obtain ⟨_, _, y1, y2, y3, y4⟩ := tb
      generalize (x - 1) / 2 = X1 at x1 x2
      generalize (y - 1) / 2 = Y1 at y1 y2
      generalize (x * x - 1) / 8 = X2 at x3 x4
      generalize (y * y - 1) / 8 = Y2 at y3 y4
      have m0 := Int.mul_nonneg x1 y1
      have M0 := mul_le2 x1 x2 y1 y2
      have m1 := Int.mul_nonneg a3 y3
      have M1 := mul_le2 a3 (show i ≤ 63 by omega) y3 y4
      have m2 := Int.mul_nonneg b3 x3
      have M2 := mul_le2 b3 (show j ≤ 63 by omega) x3 x4
      have d1 : i * (8 * Y2) = 8 * (i * Y2) := by rw [Int.mul_left_comm]
      have d2 : j * (8 * X2) = 8 * (j * X2) := by rw [Int.mul_left_comm]
      rw [d1, d2]
      generalize X1 * Y1 = A at m0 M0
      generalize i * Y2 = B at m1 M1
      generalize j * X2 = C at m2 M2
      have e1 : (8 * B).tdiv 8 = B := Int.mul_tdiv_cancel_left _ (by omega)
      have e2 : (8 * C).tdiv 8 = C := Int.mul_tdiv_cancel_left _ (by omega)
      simp only [w64 (x := A) (by omega) (by omega), w64 (x := 8 * B) (by omega) (by omega), w64 (x := 8 * C) (by omega) (by omega), e1, e2, w64 (x := B) (by omega) (by omega), w64 (x := C) (by omega) (by omega),
        w64 (x := A + B) (by omega) (by omega), w64 (x := A + B + C) (by omega) (by omega), Int.tmod_eq_emod_of_nonneg (show 0 ≤ A + B + C by omega)]
      refine (power_ev (t := -1) (e := (A + B + C) % 2) (by omega) (by omega)).bind ?_
      exact Ev.now _
    · have h2 := h6.2
      simp only [if_neg (show ¬ p = 2 by omega)]
      have ra := res_pm h6 (tmod_ne a2)
      have rb := res_pm h6 (tmod_ne b2)
      have ea := implResidue_ev h6 (u := unit p a) (by omega)
      have eb := implResidue_ev h6 (u := unit p b) (by omega)
      rw [symOdd h6 ha hb hA hB]
      generalize res p (unit p a) = r at ra ea
      generalize res p (unit p b) = s at rb eb
      have m1 := Int.mul_nonneg a3 b3
      have M1 := mul_le2 a3 (show val p a ≤ 63 by omega) b3 (show val p b ≤ 63 by omega)
      have m2 := Int.mul_nonneg m1 (show 0 ≤ p - 1 by omega)
      have M2 := mul_le2 m1 (show val p a * val p b ≤ 4000 by omega) (show 0 ≤ p - 1 by omega) (show p - 1 ≤ 4999 by omega)
      have hh := (half_odd h6 m1).1
      have e1 : (val p b).tmod 2 = val p b % 2 := Int.tmod_eq_emod_of_nonneg b3
      have e2 : (val p a).tmod 2 = val p a % 2 := Int.tmod_eq_emod_of_nonneg a3
      have ht := tdiv2 m2
      simp only [w64 (x := val p a * val p b) (by omega) (by omega), w64 (x := p - 1) (by omega) (by omega), w64 (x := val p a * val p b * (p - 1)) (by omega) (by omega), w64 (x := (val p a * val p b * (p - 1)).tdiv 2) (by omega) (by omega), hh, e1, e2]
      refine (power_ev (t := -1) (by split <;> simp) (by omega)).bind (ea.bind ((power_ev (t := r) (e := val p b % 2) (by omega) (by omega)).bind (eb.bind ((power_ev (t := s) (e := val p a % 2) (by omega) (by omega)).bind ?_))))
      have w1 : ∀ x : Int, x = 1 ∨ x = -1 → wrap64 x = x := fun x hx => w64 (by omega) (by omega)
      have f1 : ∀ c : Prop, ∀ _ : Decidable c, (if (if c then (1 : Int) else 0) = 1 then (-1 : Int) else 1) = if c then -1 else 1 := by intro c _; split <;> simp
      rw [f1]
      generalize hX : (if (val p a * val p b) % 2 = 1 ∧ p % 4 = 3 then (-1 : Int) else 1) = X
      generalize hY : (if val p b % 2 = 1 then r else 1) = Y
      generalize hZ : (if val p a % 2 = 1 then s else 1) = Z
      have gX : X = 1 ∨ X = -1 := by rw [← hX]; split <;> simp
      have gY : Y = 1 ∨ Y = -1 := by rw [← hY]; split <;> omega
      have gZ : Z = 1 ∨ Z = -1 := by rw [← hZ]; split <;> omega
      have e3 : wrap64 (wrap64 (X * Y) * Z) = X * Y * Z := by rcases gX with rfl | rfl <;> rcases gY with rfl | rfl <;> rcases gZ with rfl | rfl <;> decide +kernel
      rw [e3]; exact Ev.now _
theorem specHalf_eq (e : Int) (h : 0 ≤ e) : spec_l3Half.f e = some (if e % 2 = 1 then -1 else 1) := by
  unfold spec_l3Half.f
  rw [Int.tmod_eq_emod_of_nonneg h]
  by_cases c : e % 2 = 0
  · rw [if_pos c, if_neg (by omega)]
  · rw [if_neg c, if_pos (by omega)]
theorem specSymbol_ev {p a b : Int} (h : Plc p) (ha : a ≠ 0) (hb : b ≠ 0) (hA : a.natAbs < 2 ^ 63) (hB : b.natAbs < 2 ^ 63) : Ev (fun k => spec_l3Symbol.f k a b p) (sym a b p) := by
  unfold spec_l3Symbol.f
  rcases h with rfl | h
  · simp only [if_true]
    unfold sym symC code
    by_cases c1 : a < 0
    · by_cases c2 : b < 0
      · simp only [if_pos c1, if_pos c2]; exact Ev.now _
      · simp only [if_pos c1, if_neg c2]; exact Ev.now _
    · simp only [if_neg c1]
      by_cases c2 : b < 0
      · simp only [if_pos c2]; exact Ev.now _
      · simp only [if_neg c2]; exact Ev.now _
  · have hp := P7_bd h
    obtain ⟨_, a2, a3, a4, a5, a6, _⟩ := val_spec hp ha hA
    obtain ⟨_, b2, b3, b4, b5, b6, _⟩ := val_spec hp hb hB
    simp only [if_neg (show ¬ p = 0 by omega)]
    refine (valuation_ev hp ha hA).bind ((valuation_ev hp hb hB).bind ?_)
    simp only
    rcases h with rfl | h6
    · simp only [if_true, specMod_eq (a := unit 2 a) (m := 16) (by omega) (by omega) (by omega), specMod_eq (a := unit 2 b) (m := 16) (by omega) (by omega) (by omega), Option.bind_some]
      obtain ⟨X1, X2, f1, f2, x1, x2, x3, x4, x5, x6⟩ := two16 (unit2 ha hA)
      obtain ⟨Y1, Y2, g1, g2, y1, y2, y3, y4, y5, y6⟩ := two16 (unit2 hb hB)
      rw [symTwo ha hb hA hB, par3, ← x5, ← x6, ← y5, ← y6, ← par3]
      simp only [f1, f2, g1, g2]
      generalize val 2 a = i at a3 a4
      generalize val 2 b = j at b3 b4
      have m0 := Int.mul_nonneg x1 y1
      have M0 := mul_le2 x1 x2 y1 y2
      have m1 := Int.mul_nonneg a3 y3
      have M1 := mul_le2 a3 (show i ≤ 63 by omega) y3 y4
      have m2 := Int.mul_nonneg b3 x3
      have M2 := mul_le2 b3 (show j ≤ 63 by omega) x3 x4
      simp only [w64 (x := X1 * Y1) (by omega) (by omega), w64 (x := i * Y2) (by omega) (by omega), w64 (x := j * X2) (by omega) (by omega), w64 (x := X1 * Y1 + i * Y2) (by omega) (by omega), w64 (x := X1 * Y1 + i * Y2 + j * X2) (by omega) (by omega),
        specHalf_eq (X1 * Y1 + i * Y2 + j * X2) (by omega), Option.bind_some]
      exact Ev.now _
    · have h2 := h6.2
      simp only [if_neg (show ¬ p = 2 by omega)]
      have ra := res_pm h6 (tmod_ne a2)
      have rb := res_pm h6 (tmod_ne b2)
      have ea := specResidue_ev h6 (u := unit p a) (by omega)
      have eb := specResidue_ev h6 (u := unit p b) (by omega)
      rw [symOdd h6 ha hb hA hB]
      generalize res p (unit p a) = r at ra ea
      generalize res p (unit p b) = s at rb eb
      have m1 := Int.mul_nonneg a3 b3
      have M1 := mul_le2 a3 (show val p a ≤ 63 by omega) b3 (show val p b ≤ 63 by omega)
      have h3 := tdiv2 (n := p - 1) (by omega)
      have m2 := Int.mul_nonneg m1 (show 0 ≤ (p - 1).tdiv 2 by omega)
      have M2 := mul_le2 m1 (show val p a * val p b ≤ 4000 by omega) (show 0 ≤ (p - 1).tdiv 2 by omega) (show (p - 1).tdiv 2 ≤ 2500 by omega)
      have hh := (half_odd h6 m1).2
      rw [Int.tmod_eq_emod_of_nonneg m2] at hh
      have e1 : (val p b).tmod 2 = val p b % 2 := Int.tmod_eq_emod_of_nonneg b3
      have e2 : (val p a).tmod 2 = val p a % 2 := Int.tmod_eq_emod_of_nonneg a3
      simp only [w64 (x := val p a * val p b) (by omega) (by omega), w64 (x := p - 1) (by omega) (by omega), w64 (x := (p - 1).tdiv 2) (by omega) (by omega), w64 (x := val p a * val p b * (p - 1).tdiv 2) (by omega) (by omega), specHalf_eq _ m2, hh, e1, e2, Option.bind_some]
      have f1 : ∀ c : Prop, ∀ _ : Decidable c, (if (if c then (1 : Int) else 0) = 1 then (-1 : Int) else 1) = if c then -1 else 1 := by intro c _; split <;> simp
      rw [f1]
      generalize hX : (if (val p a * val p b) % 2 = 1 ∧ p % 4 = 3 then (-1 : Int) else 1) = X
      have gX : X = 1 ∨ X = -1 := by rw [← hX]; split <;> simp
      have w2 : ∀ x y : Int, x = 1 ∨ x = -1 → y = 1 ∨ y = -1 → wrap64 (x * y) = x * y ∧ (x * y = 1 ∨ x * y = -1) := by
        intro x y hx hy; rcases hx with rfl | rfl <;> rcases hy with rfl | rfl <;> decide +kernel
      by_cases c1 : val p b % 2 = 1
      · simp only [if_pos c1]
        refine ea.bind ?_
        by_cases c2 : val p a % 2 = 1
        · simp only [if_pos c2]
          refine eb.bind ?_
          rw [(w2 X r gX ra).1, (w2 (X * r) s (w2 X r gX ra).2 rb).1]
          exact Ev.now _
        · simp only [if_neg c2, (w2 X r gX ra).1, Int.mul_one]; exact Ev.now _
      · simp only [if_neg c1]
        by_cases c2 : val p a % 2 = 1
        · simp only [if_pos c2]
          refine eb.bind ?_
          rw [(w2 X s gX rb).1, Int.mul_one]; exact Ev.now _
        · simp only [if_neg c2, Int.mul_one]; exact Ev.now _


/-! ### forms -/
theorem implFormValid_l (xs : List Int) (hx : ∀ x ∈ xs, x.natAbs ≤ 1000000) (hl : xs.length ≤ 100) : ∀ (d j : Nat), j + d = xs.length →
    Ev (fun k => impl_FormValid.l0 k xs xs (xs.length : Int) j) ((xs.drop j).all (fun x => decide (x ≠ 0) && decide (x.natAbs ≤ 30)) && (decide (1 ≤ xs.length) && decide (xs.length ≤ 4))) := by
  intro d
  induction d with
  | zero =>
    intro j hj
    rw [List.drop_of_length_le (by omega)]
    refine Ev.step (f := fun _ => some (decide (1 ≤ xs.length) && decide (xs.length ≤ 4))) (fun k => ?_) (by simpa using Ev.now _)
    simp only [impl_FormValid.l0]
    rw [if_neg (by omega)]
    by_cases c : 1 ≤ xs.length
    · rw [if_pos (by omega), decide_eq_true c, Bool.true_and]; congr 1; exact decide_eq_decide.2 (by omega)
    · rw [if_neg (by omega), decide_eq_false c, Bool.false_and]
  | succ d ih =>
    intro j hj
    have hm := hx _ (rd_mem (xs := xs) (j := j) (by omega))
    rw [rd_drop (show j < xs.length by omega)]
    have := ih (j + 1) (by omega)
    generalize hp : rd xs (j : Int) = p at hm
    rw [List.all_cons]
    by_cases c0 : p = 0
    · rw [decide_eq_false (by omega : ¬ p ≠ 0), Bool.false_and, Bool.false_and, Bool.false_and]
      refine Ev.step (f := fun _ => some false) (fun k => ?_) (Ev.now _)
      simp only [impl_FormValid.l0]
      rw [if_pos (by omega), if_pos (by omega), if_pos (by omega), hp, if_pos c0]
    · have hs : impl_size.f p = some (absI p) := by simp only [impl_size.f]; rw [size_ev (by omega) (by omega)]
      by_cases c : p.natAbs ≤ 30
      · rw [decide_eq_true c0, decide_eq_true c, Bool.true_and, Bool.true_and]
        refine Ev.step (fun k => ?_) this
        simp only [impl_FormValid.l0]
        rw [if_pos (by omega), if_pos (by omega), if_pos (by omega), hp, if_neg c0, hs, Option.bind_some, if_neg (by unfold absI; omega), w64 (x := (j : Int) + 1) (by omega) (by omega)]
        rfl
      · rw [decide_eq_false c, Bool.and_false, Bool.false_and, Bool.false_and]
        refine Ev.step (f := fun _ => some false) (fun k => ?_) (Ev.now _)
        simp only [impl_FormValid.l0]
        rw [if_pos (by omega), if_pos (by omega), if_pos (by omega), hp, if_neg c0, hs, Option.bind_some, if_pos (by unfold absI; omega)]
theorem implFormValid_ev {xs : List Int} (hx : ∀ x ∈ xs, x.natAbs ≤ 1000000) (hl : xs.length ≤ 100) : Ev (fun k => impl_FormValid.f k xs) (formOk xs) :=
  implFormValid_l xs hx hl xs.length 0 (by omega)
theorem specIn_eq (x a b : Int) : spec_l6In.f x a b = some (decide (a ≤ x) && decide (x ≤ b)) := by
  unfold spec_l6In.f
  by_cases c : x ≥ a
  · simp [c, show a ≤ x from c]
  · simp [c, show ¬ a ≤ x from c]
theorem specFormValid_l (xs : List Int) (hl : xs.length ≤ 100) : ∀ (d j : Nat), j + d = xs.length →
    Ev (fun k => spec_FormValid.l0 k xs j) ((xs.drop j).all (fun x => decide (x ≠ 0) && decide (x.natAbs ≤ 30)) && (decide (1 ≤ xs.length) && decide (xs.length ≤ 4))) := by
  intro d
  induction d with
  | zero =>
    intro j hj
    rw [List.drop_of_length_le (by omega)]
    refine Ev.step (f := fun _ => some (decide (1 ≤ xs.length) && decide (xs.length ≤ 4))) (fun k => ?_) (by simpa using Ev.now _)
    simp only [spec_FormValid.l0, specIn_eq, Option.bind_some]
    rw [if_neg (by omega), show decide ((1 : Int) ≤ (xs.length : Int)) = decide (1 ≤ xs.length) from decide_eq_decide.2 (by omega), show decide ((xs.length : Int) ≤ 4) = decide (xs.length ≤ 4) from decide_eq_decide.2 (by omega)]
  | succ d ih =>
    intro j hj
    rw [rd_drop (show j < xs.length by omega)]
    have := ih (j + 1) (by omega)
    generalize hp : rd xs (j : Int) = p
    rw [List.all_cons]
    by_cases c0 : p = 0
    · rw [decide_eq_false (by omega : ¬ p ≠ 0), Bool.false_and, Bool.false_and, Bool.false_and]
      refine Ev.step (f := fun _ => some false) (fun k => ?_) (Ev.now _)
      simp only [spec_FormValid.l0]
      rw [if_pos (by omega), if_pos (by omega), hp, if_pos c0]
    · have hb : (decide (-30 ≤ p) && decide (p ≤ 30)) = decide (p.natAbs ≤ 30) := by
        rw [← Bool.decide_and]; exact decide_eq_decide.2 (by omega)
      by_cases c : p.natAbs ≤ 30
      · rw [decide_eq_true c0, decide_eq_true c, Bool.true_and, Bool.true_and]
        refine Ev.step (fun k => ?_) this
        simp only [spec_FormValid.l0, specIn_eq, Option.bind_some]
        rw [if_pos (by omega), if_pos (by omega), hp, if_neg c0, hb, if_pos (decide_eq_true c), w64 (x := (j : Int) + 1) (by omega) (by omega)]
        rfl
      · rw [decide_eq_false c, Bool.and_false, Bool.false_and, Bool.false_and]
        refine Ev.step (f := fun _ => some false) (fun k => ?_) (Ev.now _)
        simp only [spec_FormValid.l0, specIn_eq, Option.bind_some]
        rw [if_pos (by omega), if_pos (by omega), hp, if_neg c0, hb, decide_eq_false c]
        simp
theorem specFormValid_ev {xs : List Int} (hl : xs.length ≤ 100) : Ev (fun k => spec_FormValid.f k xs) (formOk xs) :=
  specFormValid_l xs hl xs.length 0 (by omega)
theorem pow30 {j : Nat} (h : j ≤ 5) : 30 ^ j ≤ 24300000 := by
  have : 30 ^ j ≤ 30 ^ 5 := Nat.pow_le_pow_right (by omega) h
  omega
theorem implProduct_l (xs : List Int) (hx : ∀ x ∈ xs, Sm x) (hl : xs.length ≤ 5) : ∀ (d j : Nat) (acc : Int), j + d = xs.length → acc.natAbs ≤ 30 ^ j →
    Ev (fun k => impl_product.l0 k acc xs (xs.length : Int) j) (prodF (xs.drop j) acc) := by
  intro d
  induction d with
  | zero =>
    intro j acc hj hA
    rw [List.drop_of_length_le (by omega)]
    refine Ev.step (f := fun _ => some acc) (fun k => ?_) (Ev.now _)
    simp only [impl_product.l0]
    rw [if_neg (by omega)]
  | succ d ih =>
    intro j acc hj hA
    have hm := hx _ (rd_mem (xs := xs) (j := j) (by omega))
    rw [rd_drop (show j < xs.length by omega)]
    have h2 : (acc * rd xs j).natAbs ≤ 30 ^ (j + 1) := by rw [Int.natAbs_mul, Nat.pow_succ]; exact Nat.mul_le_mul hA hm.2
    have h3 := pow30 (show j + 1 ≤ 5 by omega)
    refine Ev.step (fun k => ?_) (ih (j + 1) (acc * rd xs j) (by omega) h2)
    simp only [impl_product.l0]
    rw [if_pos (by omega), if_pos (by omega), if_pos (by omega), w64 (x := acc * rd xs j) (by omega) (by omega), w64 (x := (j : Int) + 1) (by omega) (by omega)]
    rfl
theorem implProduct_ev {xs : List Int} (hx : ∀ x ∈ xs, Sm x) (hl : xs.length ≤ 5) : Ev (fun k => impl_product.f k xs) (prod xs) :=
  implProduct_l xs hx hl xs.length 0 1 (by omega) (by simp)
theorem specProduct_l (xs : List Int) (hx : ∀ x ∈ xs, Sm x) (hl : xs.length ≤ 5) : ∀ (d j : Nat) (acc : Int), j + d = xs.length → acc.natAbs ≤ 30 ^ j →
    Ev (fun k => spec_l4Product.l0 k xs acc j) (prodF (xs.drop j) acc) := by
  intro d
  induction d with
  | zero =>
    intro j acc hj hA
    rw [List.drop_of_length_le (by omega)]
    refine Ev.step (f := fun _ => some acc) (fun k => ?_) (Ev.now _)
    simp only [spec_l4Product.l0]
    rw [if_neg (by omega)]
  | succ d ih =>
    intro j acc hj hA
    have hm := hx _ (rd_mem (xs := xs) (j := j) (by omega))
    rw [rd_drop (show j < xs.length by omega)]
    have h2 : (acc * rd xs j).natAbs ≤ 30 ^ (j + 1) := by rw [Int.natAbs_mul, Nat.pow_succ]; exact Nat.mul_le_mul hA hm.2
    have h3 := pow30 (show j + 1 ≤ 5 by omega)
    refine Ev.step (fun k => ?_) (ih (j + 1) (acc * rd xs j) (by omega) h2)
    simp only [spec_l4Product.l0]
    rw [if_pos (by omega), if_pos (by omega), w64 (x := acc * rd xs j) (by omega) (by omega), w64 (x := (j : Int) + 1) (by omega) (by omega)]
    rfl
theorem specProduct_ev {xs : List Int} (hx : ∀ x ∈ xs, Sm x) (hl : xs.length ≤ 5) : Ev (fun k => spec_l4Product.f k xs) (prod xs) :=
  specProduct_l xs hx hl xs.length 0 1 (by omega) (by simp)
theorem implLess_l (xs : List Int) (hl : xs.length ≤ 100) : ∀ (d j : Nat) (acc : Int), j + d = xs.length → 0 ≤ acc → acc ≤ j →
    Ev (fun k => impl_lessTerms.l0 k acc xs (xs.length : Int) j) (lessF (xs.drop j) acc) := by
  intro d
  induction d with
  | zero =>
    intro j acc hj h0 hA
    rw [List.drop_of_length_le (by omega)]
    refine Ev.step (f := fun _ => some acc) (fun k => ?_) (Ev.now _)
    simp only [impl_lessTerms.l0]
    rw [if_neg (by omega)]
  | succ d ih =>
    intro j acc hj h0 hA
    rw [rd_drop (show j < xs.length by omega)]
    simp only [lessF]
    by_cases c : rd xs j < 0
    · simp only [if_pos c]
      refine Ev.step (fun k => ?_) (ih (j + 1) (acc + 1) (by omega) (by omega) (by omega))
      simp only [impl_lessTerms.l0]
      rw [if_pos (by omega), if_pos (by omega), if_pos (by omega), if_pos c, w64 (x := acc + 1) (by omega) (by omega), w64 (x := (j : Int) + 1) (by omega) (by omega)]
      rfl
    · simp only [if_neg c]
      refine Ev.step (fun k => ?_) (ih (j + 1) acc (by omega) (by omega) (by omega))
      simp only [impl_lessTerms.l0]
      rw [if_pos (by omega), if_pos (by omega), if_pos (by omega), if_neg c, w64 (x := (j : Int) + 1) (by omega) (by omega)]
      rfl
theorem implLess_ev {xs : List Int} (hl : xs.length ≤ 100) : Ev (fun k => impl_lessTerms.f k xs) (less xs) := implLess_l xs hl xs.length 0 0 (by omega) (by omega) (by omega)
theorem specLess_l (xs : List Int) (hl : xs.length ≤ 100) : ∀ (d j : Nat) (acc : Int), j + d = xs.length → 0 ≤ acc → acc ≤ j →
    Ev (fun k => spec_l4Less.l0 k xs acc j) (lessF (xs.drop j) acc) := by
  intro d
  induction d with
  | zero =>
    intro j acc hj h0 hA
    rw [List.drop_of_length_le (by omega)]
    refine Ev.step (f := fun _ => some acc) (fun k => ?_) (Ev.now _)
    simp only [spec_l4Less.l0]
    rw [if_neg (by omega)]
  | succ d ih =>
    intro j acc hj h0 hA
    rw [rd_drop (show j < xs.length by omega)]
    simp only [lessF]
    by_cases c : rd xs j < 0
    · simp only [if_pos c]
      refine Ev.step (fun k => ?_) (ih (j + 1) (acc + 1) (by omega) (by omega) (by omega))
      simp only [spec_l4Less.l0]
      rw [if_pos (by omega), if_pos (by omega), if_pos c, w64 (x := acc + 1) (by omega) (by omega), w64 (x := (j : Int) + 1) (by omega) (by omega)]
      rfl
    · simp only [if_neg c]
      refine Ev.step (fun k => ?_) (ih (j + 1) acc (by omega) (by omega) (by omega))
      simp only [spec_l4Less.l0]
      rw [if_pos (by omega), if_pos (by omega), if_neg c, w64 (x := (j : Int) + 1) (by omega) (by omega)]
      rfl
theorem specLess_ev {xs : List Int} (hl : xs.length ≤ 100) : Ev (fun k => spec_l4Less.f k xs) (less xs) := specLess_l xs hl xs.length 0 0 (by omega) (by omega) (by omega)
theorem rd_take {xs : List Int} {i j : Nat} (h : j < i) : rd (xs.take i) (j : Int) = rd xs (j : Int) := by
  simp [rd, List.getElem?_take, h]
theorem implInn_l {p : Int} (hp : Plc p) (xs : List Int) (hx : ∀ x ∈ xs, Sm x) (hl : xs.length ≤ 5) (i : Nat) (hi : i < xs.length) (v : Int) : ∀ (d j : Nat) (acc : Int), j + d = i → (acc = 1 ∨ acc = -1) →
    Ev (fun k => impl_invariant.l0 k xs p (inn p (rd xs i) ((xs.take i).drop j) acc) xs (xs.length : Int) ((i + 1 : Nat) : Int)) v →
    Ev (fun k => impl_invariant.l1 k xs p acc (rd xs i) xs (xs.length : Int) i (xs.take ((i : Nat) : Int).toNat) ((xs.take ((i : Nat) : Int).toNat).length : Int) j) v := by
  have hlen : (xs.take ((i : Nat) : Int).toNat).length = i := by simp; omega
  intro d
  induction d with
  | zero =>
    intro j acc hj hA hv
    rw [List.drop_of_length_le (by simp; omega)] at hv
    refine Ev.step (fun k => ?_) hv
    simp only [impl_invariant.l1]
    rw [if_neg (by omega), w64 (x := (i : Int) + 1) (by omega) (by omega)]
    rfl
  | succ d ih =>
    intro j acc hj hA hv
    rw [rd_drop (show j < (xs.take i).length by simp; omega), rd_take (by omega)] at hv
    have hm := hx _ (rd_mem (xs := xs) (j := j) (by omega))
    have hm2 := hx _ (rd_mem (xs := xs) (j := i) (by omega))
    have hs := implSymbol_ev hp hm2.1 hm.1 (by have := hm2.2; omega) (by have := hm.2; omega)
    have hpm := pm_mul hA (sym_pm (rd xs i) (rd xs j) p)
    have := ih (j + 1) (acc * sym (rd xs i) (rd xs j) p) (by omega) hpm.1 hv
    refine Ev.step (f := fun k => (impl_symbol.f k (rd xs i) (rd xs j) p).bind fun t127 => (impl_invariant.l1 k xs p (wrap64 (acc * t127)) (rd xs i) xs (xs.length : Int) i (xs.take ((i : Nat) : Int).toNat) ((xs.take ((i : Nat) : Int).toNat).length : Int) ((j + 1 : Nat) : Int))) (fun k => ?_) ?_
    · simp only [impl_invariant.l1]
      rw [if_pos (by omega), if_pos (by omega), if_pos (by omega), show rd (xs.take ((i : Nat) : Int).toNat) (j : Int) = rd xs (j : Int) from rd_take (by omega), w64 (x := (j : Int) + 1) (by omega) (by omega)]
      rfl
    · refine hs.bind ?_
      rw [hpm.2]
      exact this
theorem take_rd {xs : List Int} {i : Nat} (h : i < xs.length) : xs.take (i + 1) = xs.take i ++ [rd xs (i : Int)] := by
  rw [List.take_add_one]; simp [rd, List.getElem?_eq_getElem h]
theorem implInv_l {p : Int} (hp : Plc p) (xs : List Int) (hx : ∀ x ∈ xs, Sm x) (hl : xs.length ≤ 5) : ∀ (d i : Nat) (acc : Int), i + d = xs.length → (acc = 1 ∨ acc = -1) →
    Ev (fun k => impl_invariant.l0 k xs p acc xs (xs.length : Int) i) (outr p (xs.take i) (xs.drop i) acc) := by
  intro d
  induction d with
  | zero =>
    intro i acc hi hA
    rw [List.drop_of_length_le (by omega)]
    refine Ev.step (f := fun _ => some acc) (fun k => ?_) (Ev.now _)
    simp only [impl_invariant.l0]
    rw [if_neg (by omega)]
  | succ d ih =>
    intro i acc hi hA
    rw [rd_drop (show i < xs.length by omega)]
    simp only [outr]
    rw [← take_rd (by omega)]
    have h1 := ih (i + 1) (inn p (rd xs i) (xs.take i) acc) (by omega) (inn_pm _ _ _ _ hA)
    have h2 := implInn_l hp xs hx hl i (by omega) _ i 0 acc (by omega) hA h1
    refine Ev.step (fun k => ?_) h2
    simp only [impl_invariant.l0]
    rw [if_pos (by omega), if_pos (by omega), if_pos (by omega), if_pos (by omega)]
    rfl
theorem implInv_ev {p : Int} (hp : Plc p) {xs : List Int} (hx : ∀ x ∈ xs, Sm x) (hl : xs.length ≤ 5) : Ev (fun k => impl_invariant.f k xs p) (inv xs p) :=
  implInv_l hp xs hx hl xs.length 0 1 (by omega) (by omega)
theorem specInn_l {p : Int} (hp : Plc p) (xs : List Int) (hx : ∀ x ∈ xs, Sm x) (hl : xs.length ≤ 5) (i : Nat) (hi : i < xs.length) (v : Int) : ∀ (d j : Nat) (acc : Int), j + d = i → (acc = 1 ∨ acc = -1) →
    Ev (fun k => spec_l4Invariant.l0 k xs p (inn p (rd xs i) ((xs.take i).drop j) acc) ((i + 1 : Nat) : Int)) v →
    Ev (fun k => spec_l4Invariant.l1 k xs p acc i j) v := by
  intro d
  induction d with
  | zero =>
    intro j acc hj hA hv
    rw [List.drop_of_length_le (by simp; omega)] at hv
    refine Ev.step (fun k => ?_) hv
    simp only [spec_l4Invariant.l1]
    rw [if_neg (by omega), w64 (x := (i : Int) + 1) (by omega) (by omega)]
    rfl
  | succ d ih =>
    intro j acc hj hA hv
    rw [rd_drop (show j < (xs.take i).length by simp; omega), rd_take (by omega)] at hv
    have hm := hx _ (rd_mem (xs := xs) (j := j) (by omega))
    have hm2 := hx _ (rd_mem (xs := xs) (j := i) (by omega))
    have hs := specSymbol_ev hp hm.1 hm2.1 (by have := hm.2; omega) (by have := hm2.2; omega)
    rw [sym_comm] at hs
    have hpm := pm_mul hA (sym_pm (rd xs i) (rd xs j) p)
    have := ih (j + 1) (acc * sym (rd xs i) (rd xs j) p) (by omega) hpm.1 hv
    refine Ev.step (f := fun k => (spec_l3Symbol.f k (rd xs j) (rd xs i) p).bind fun t297 => (spec_l4Invariant.l1 k xs p (wrap64 (acc * t297)) i ((j + 1 : Nat) : Int))) (fun k => ?_) ?_
    · simp only [spec_l4Invariant.l1]
      rw [if_pos (by omega), if_pos (by omega), if_pos (by omega), if_pos (by omega), if_pos (by omega), w64 (x := (j : Int) + 1) (by omega) (by omega)]
      rfl
    · refine hs.bind ?_
      rw [hpm.2]
      exact this
theorem specInv_l {p : Int} (hp : Plc p) (xs : List Int) (hx : ∀ x ∈ xs, Sm x) (hl : xs.length ≤ 5) : ∀ (d i : Nat) (acc : Int), i + d = xs.length → (acc = 1 ∨ acc = -1) →
    Ev (fun k => spec_l4Invariant.l0 k xs p acc i) (outr p (xs.take i) (xs.drop i) acc) := by
  intro d
  induction d with
  | zero =>
    intro i acc hi hA
    rw [List.drop_of_length_le (by omega)]
    refine Ev.step (f := fun _ => some acc) (fun k => ?_) (Ev.now _)
    simp only [spec_l4Invariant.l0]
    rw [if_neg (by omega)]
  | succ d ih =>
    intro i acc hi hA
    rw [rd_drop (show i < xs.length by omega)]
    simp only [outr]
    rw [← take_rd (by omega)]
    have h1 := ih (i + 1) (inn p (rd xs i) (xs.take i) acc) (by omega) (inn_pm _ _ _ _ hA)
    have h2 := specInn_l hp xs hx hl i (by omega) _ i 0 acc (by omega) hA h1
    refine Ev.step (fun k => ?_) h2
    simp only [spec_l4Invariant.l0]
    rw [if_pos (by omega)]
    rfl
theorem specInv_ev {p : Int} (hp : Plc p) {xs : List Int} (hx : ∀ x ∈ xs, Sm x) (hl : xs.length ≤ 5) : Ev (fun k => spec_l4Invariant.f k xs p) (inv xs p) :=
  specInv_l hp xs hx hl xs.length 0 1 (by omega) (by omega)


/-! ### forms vanish -/
theorem sm_neg {n : Int} (h : n ≠ 0 ∧ n.natAbs ≤ 24300000) : wrap64 (-n) = -n ∧ -n ≠ 0 ∧ (-n).natAbs < 2 ^ 63 := ⟨w64 (by omega) (by omega), by omega, by omega⟩
theorem implVan_ev {p : Int} (hp : Plc p) {xs : List Int} (hx : ∀ x ∈ xs, Sm x) (hl : xs.length ≤ 5) : Ev (fun k => impl_vanishes.f k xs p) (van xs p) := by
  unfold impl_vanishes.f van
  have hb := prod_bd4 hx hl
  have hn := sm_neg hb
  refine (implProduct_ev hx hl).bind ?_
  by_cases c0 : p = 0
  · simp only [if_pos c0]
    refine (implLess_ev (by omega)).bind ?_
    by_cases c : less xs > 0
    · simp only [if_pos c, decide_eq_true c, Bool.true_and]; exact Ev.now _
    · simp only [if_neg c, decide_eq_false c, Bool.false_and]; exact Ev.now _
  · simp only [if_neg c0, hn.1]
    by_cases c2 : (xs.length : Int) = 2
    · simp only [if_pos c2]
      refine (implSq_ev hp hn.2.1 hn.2.2).bind ?_
      exact Ev.now _
    · simp only [if_neg c2]
      by_cases c3 : (xs.length : Int) = 3
      · simp only [if_pos c3]
        refine (implInv_ev hp hx hl).bind ((implSymbol_ev hp (by omega) hn.2.1 (by omega) hn.2.2).bind ?_)
        exact Ev.now _
      · simp only [if_neg c3]
        by_cases c4 : (xs.length : Int) = 4
        · simp only [if_pos c4]
          refine (implSq_ev hp hb.1 (by omega)).bind ?_
          by_cases c5 : sqAt (prod xs) p = true
          · simp only [c5, if_true, Bool.not_true, Bool.false_or]
            refine (implInv_ev hp hx hl).bind ((implSymbol_ev hp (by omega) (by omega) (by omega) (by omega)).bind ?_)
            exact Ev.now _
          · simp only [Bool.eq_false_iff.2 c5, Bool.false_eq_true, if_false, Bool.not_false, Bool.true_or]; exact Ev.now _
        · simp only [if_neg c4]; exact Ev.now _
theorem specVan_ev {p : Int} (hp : Plc p) {xs : List Int} (hx : ∀ x ∈ xs, Sm x) (h1 : 1 ≤ xs.length) (hl : xs.length ≤ 5) (h5 : xs.length = 5 → p = 0) : Ev (fun k => spec_l4Vanishes.f k xs p) (van xs p) := by
  unfold spec_l4Vanishes.f van
  have hb := prod_bd4 hx hl
  have hn := sm_neg hb
  by_cases c0 : p = 0
  · simp only [if_pos c0]
    refine (specLess_ev (by omega)).bind ?_
    by_cases c : less xs > 0
    · simp only [if_pos c, decide_eq_true c, Bool.true_and]
      refine (specLess_ev (by omega)).bind ?_
      exact Ev.now _
    · simp only [if_neg c, decide_eq_false c, Bool.false_and]; exact Ev.now _
  · simp only [if_neg c0, hn.1]
    refine (specProduct_ev hx hl).bind ?_
    simp only [hn.1]
    by_cases c1 : (xs.length : Int) = 1
    · simp only [if_pos c1, if_neg (show ¬ (xs.length : Int) = 2 by omega), if_neg (show ¬ (xs.length : Int) = 3 by omega), if_neg (show ¬ (xs.length : Int) = 4 by omega)]; exact Ev.now _
    simp only [if_neg c1]
    by_cases c2 : (xs.length : Int) = 2
    · simp only [if_pos c2]
      refine (specSq_ev hp hn.2.1 hn.2.2).bind ?_
      exact Ev.now _
    · simp only [if_neg c2]
      by_cases c3 : (xs.length : Int) = 3
      · simp only [if_pos c3]
        refine (specInv_ev hp hx hl).bind ((specSymbol_ev hp (by omega) hn.2.1 (by omega) hn.2.2).bind ?_)
        exact Ev.now _
      · simp only [if_neg c3, if_pos (show (xs.length : Int) = 4 by omega)]
        refine (specSq_ev hp hb.1 (by omega)).bind ?_
        by_cases c5 : sqAt (prod xs) p = true
        · simp only [c5, if_true, Bool.not_true, Bool.false_or]
          refine (specInv_ev hp hx hl).bind ((specSymbol_ev hp (by omega) (by omega) (by omega) (by omega)).bind ?_)
          exact Ev.now _
        · simp only [Bool.eq_false_iff.2 c5, Bool.false_eq_true, if_false, Bool.not_false, Bool.true_or]; exact Ev.now _
theorem specPlanes_ev {p : Int} (hp : Plc p) {xs : List Int} (hx : ∀ x ∈ xs, Sm x) (h1 : 1 ≤ xs.length) (hl : xs.length ≤ 4) : Ev (fun k => spec_l9Planes.f k xs p) (planes xs p) := by
  unfold spec_l9Planes.f planes
  have hb := prod_bd4 hx (by omega)
  have hs := less_bd xs
  by_cases c0 : p = 0
  · simp only [if_pos c0]
    refine (specLess_ev (by omega)).bind ((specLess_ev (by omega)).bind ?_)
    rw [w64 (x := (xs.length : Int) - less xs) (by omega) (by omega)]
    exact Ev.now _
  · simp only [if_neg c0]
    refine (specVan_ev hp hx h1 (by omega) (by omega)).bind ?_
    by_cases cv : van xs p = true
    · simp only [if_pos cv]
      by_cases c4 : (xs.length : Int) = 4
      · simp only [c4, if_true, true_and]
        refine (specProduct_ev hx (by omega)).bind ((specSq_ev hp hb.1 (by omega)).bind ?_)
        by_cases c5 : sqAt (prod xs) p = true
        · simp only [c5, if_true]; exact Ev.now _
        · simp only [if_neg c5]; exact Ev.now _
      · simp only [c4, false_and, if_false]; exact Ev.now _
    · simp only [if_neg cv]; exact Ev.now _

/-! ### places -/

/-! ### forms and places are drawn -/
theorem rd_mem' {xs : List Int} {v : Int} (h0 : 0 ≤ v) (h : v < (xs.length : Int)) : rd xs v ∈ xs := by
  have := rd_mem (xs := xs) (j := v.toNat) (by omega)
  rwa [Int.toNat_of_nonneg h0] at this
/-! ### cores -/
theorem implCoreIn_l {q : Int} (hq : 2 ≤ q) (hQ : q ≤ 1000000000) (qs : List Int) (i : Nat) (hi : i ≤ 1000000000) (v : Int × Int) : ∀ (d : Nat) (n r : Int), n ≠ 0 → n.natAbs < 2 ^ d → d ≤ 63 → 1 ≤ r → (n * (r * r)).natAbs ≤ 1000000000 →
    Ev (fun k => impl_coreOf.l0 k (coreW q d n r).1 (coreW q d n r).2 qs (qs.length : Int) ((i + 1 : Nat) : Int)) v →
    Ev (fun k => impl_coreOf.l1 k n r q qs (qs.length : Int) i) v := by
  intro d
  have hqq : 4 ≤ q * q := by have := sq_le (show (0 : Int) ≤ 2 by omega) hq; omega
  have hqQ : q * q ≤ 1000000000 * 1000000000 := sq_le (by omega) hQ
  induction d with
  | zero => intro n r hn h; simp at h; omega
  | succ d ih =>
    intro n r hn h hd hr hb hv
    have hnb : n.natAbs ≤ 1000000000 := by
      have h1 : r * r ≠ 0 := Int.mul_ne_zero (by omega) (by omega)
      have := mul_natAbs_le (a := n) h1; omega
    simp only [coreW] at hv
    by_cases c : n.tmod (q * q) = 0
    · rw [if_pos c] at hv
      obtain ⟨h1, h2, h3⟩ := sq_div hq hn c
      have hrq : 1 ≤ r * q := by have := Int.mul_le_mul hr (show (1 : Int) ≤ q by omega) (by omega) (by omega); omega
      have e : n * (r * r) = n.tdiv (q * q) * ((r * q) * (r * q)) := by
        conv => lhs; rw [h2]
        grind
      have hrqb : (r * q).natAbs ≤ 1000000000 := by
        have h4 : (n.tdiv (q * q) * ((r * q) * (r * q))).natAbs ≤ 1000000000 := by rw [← e]; exact hb
        rw [Int.natAbs_mul, Int.natAbs_mul] at h4
        have h5 : 1 ≤ (n.tdiv (q * q)).natAbs := by omega
        have h6 : (r * q).natAbs ≤ (r * q).natAbs * (r * q).natAbs := Nat.le_mul_of_pos_left _ (by omega)
        have h7 := Nat.le_mul_of_pos_left ((r * q).natAbs * (r * q).natAbs) h5
        omega
      refine Ev.step (fun k => ?_) (ih (n.tdiv (q * q)) (r * q) h1 (by rw [Nat.pow_succ] at h; omega) (by omega) hrq (by rw [← e]; exact hb) hv)
      simp only [impl_coreOf.l1]
      rw [w64 (x := q * q) (by omega) (by omega), if_neg (by omega), if_pos c, w64 (x := n.tdiv (q * q)) (by omega) (by omega), w64 (x := r * q) (by omega) (by omega)]
    · rw [if_neg c] at hv
      refine Ev.step (fun k => ?_) hv
      simp only [impl_coreOf.l1]
      rw [w64 (x := q * q) (by omega) (by omega), if_neg (by omega), if_neg c, w64 (x := (i : Int) + 1) (by omega) (by omega)]
      rfl
theorem coreW_more {q : Int} (hq : 2 ≤ q) : ∀ (d e : Nat) (n r : Int), n ≠ 0 → n.natAbs < 2 ^ d → d ≤ e → coreW q e n r = coreW q d n r := by
  intro d
  induction d with
  | zero => intro e n r hn h; simp at h; omega
  | succ d ih =>
    intro e n r hn h he
    obtain ⟨e, rfl⟩ : ∃ m, e = m + 1 := ⟨e - 1, by omega⟩
    simp only [coreW]
    by_cases c : n.tmod (q * q) = 0
    · rw [if_pos c, if_pos c]
      obtain ⟨h1, h2, h3⟩ := sq_div hq hn c
      exact ih e _ _ h1 (by rw [Nat.pow_succ] at h; omega) (by omega)
    · rw [if_neg c, if_neg c]
theorem implCore_l (qs : List Int) (hq : ∀ q ∈ qs, 2 ≤ q ∧ q ≤ 1000000000) (hl : qs.length ≤ 1000000000) : ∀ (d j : Nat) (n r : Int), j + d = qs.length → n ≠ 0 → 1 ≤ r → (n * (r * r)).natAbs ≤ 1000000000 →
    Ev (fun k => impl_coreOf.l0 k n r qs (qs.length : Int) j) (coreLs (qs.drop j) n r) := by
  intro d
  induction d with
  | zero =>
    intro j n r hj hn hr hb
    rw [List.drop_of_length_le (by omega)]
    refine Ev.step (f := fun _ => some (n, r)) (fun k => ?_) (Ev.now _)
    simp only [impl_coreOf.l0]
    rw [if_neg (by omega)]
  | succ d ih =>
    intro j n r hj hn hr hb
    have hm := hq _ (rd_mem (xs := qs) (j := j) (by omega))
    rw [rd_drop (show j < qs.length by omega)]
    simp only [coreLs]
    have hnb : n.natAbs ≤ 1000000000 := by
      have h1 : r * r ≠ 0 := Int.mul_ne_zero (by omega) (by omega)
      have := mul_natAbs_le (a := n) h1; omega
    obtain ⟨g1, g2, g3, g4, g5⟩ := coreW_spec hm.1 64 n r hn (by omega) hr
    have h63 : n.natAbs < 2 ^ 63 := by omega
    have e := coreW_more hm.1 63 64 n r hn h63 (by omega)
    have := implCoreIn_l hm.1 hm.2 qs j (by omega) (coreLs (qs.drop (j + 1)) (coreW (rd qs (j : Int)) 64 n r).1 (coreW (rd qs (j : Int)) 64 n r).2) 63 n r hn h63 (by omega) hr hb (by
      rw [← e]
      exact ih (j + 1) _ _ (by omega) g1 g2 (by rw [← g3]; exact hb))
    refine Ev.step (fun k => ?_) this
    simp only [impl_coreOf.l0]
    rw [if_pos (by omega), if_pos (by omega), if_pos (by omega)]
theorem primes_le {n q : Int} (hn : n ≠ 0) (h : n.natAbs < 2 ^ 63) (hq : q ∈ primes n) : 2 ≤ q ∧ q.natAbs ≤ n.natAbs := by
  obtain ⟨h1, h2⟩ := (primes_iff hn h).1 hq
  exact ⟨h1.1, Nat.le_of_dvd (by omega) (Int.natAbs_dvd_natAbs.2 h2)⟩
theorem implCore_ev {n : Int} (hn : n ≠ 0) (h : n.natAbs ≤ 100000000) : Ev (fun k => impl_coreOf.f k n) (coreF n) := by
  unfold impl_coreOf.f
  refine (primesOf_ev hn (by omega)).bind ?_
  have hp := primes_len n
  exact implCore_l (primes n) (fun q hq => by have := primes_le hn (by omega) hq; omega) (by omega) (primes n).length 0 n 1 (by omega) hn (by omega) (by simpa using by omega)
theorem specCoreIn_l {q : Int} (hq : 2 ≤ q) (hQ : q ≤ 1000000) (v : Int × Int) : ∀ (d : Nat) (n r : Int), n ≠ 0 → n.natAbs < 2 ^ d → d ≤ 63 → 1 ≤ r → (n * (r * r)).natAbs ≤ 1000000000 →
    Ev (fun k => spec_l1Core.l0 k (coreW q d n r).1 (coreW q d n r).2 (q + 1)) v →
    Ev (fun k => spec_l1Core.l1 k n r q) v := by
  intro d
  have hqq : 4 ≤ q * q := by have := sq_le (show (0 : Int) ≤ 2 by omega) hq; omega
  have hqQ : q * q ≤ 1000000 * 1000000 := sq_le (by omega) hQ
  induction d with
  | zero => intro n r hn h; simp at h; omega
  | succ d ih =>
    intro n r hn h hd hr hb hv
    have hnb : n.natAbs ≤ 1000000000 := by
      have h1 : r * r ≠ 0 := Int.mul_ne_zero (by omega) (by omega)
      have := mul_natAbs_le (a := n) h1; omega
    simp only [coreW] at hv
    by_cases c : n.tmod (q * q) = 0
    · rw [if_pos c] at hv
      obtain ⟨h1, h2, h3⟩ := sq_div hq hn c
      have hrq : 1 ≤ r * q := by have := Int.mul_le_mul hr (show (1 : Int) ≤ q by omega) (by omega) (by omega); omega
      have e : n * (r * r) = n.tdiv (q * q) * ((r * q) * (r * q)) := by
        conv => lhs; rw [h2]
        grind
      have hrqb : (r * q).natAbs ≤ 1000000000 := by
        have h4 : (n.tdiv (q * q) * ((r * q) * (r * q))).natAbs ≤ 1000000000 := by rw [← e]; exact hb
        rw [Int.natAbs_mul, Int.natAbs_mul] at h4
        have h5 : 1 ≤ (n.tdiv (q * q)).natAbs := by omega
        have h6 : (r * q).natAbs ≤ (r * q).natAbs * (r * q).natAbs := Nat.le_mul_of_pos_left _ (by omega)
        have h7 := Nat.le_mul_of_pos_left ((r * q).natAbs * (r * q).natAbs) h5
        omega
      refine Ev.step (fun k => ?_) (ih (n.tdiv (q * q)) (r * q) h1 (by rw [Nat.pow_succ] at h; omega) (by omega) hrq (by rw [← e]; exact hb) hv)
      simp only [spec_l1Core.l1]
      rw [w64 (x := q * q) (by omega) (by omega), if_neg (by omega), if_pos c, w64 (x := n.tdiv (q * q)) (by omega) (by omega), w64 (x := r * q) (by omega) (by omega)]
    · rw [if_neg c] at hv
      refine Ev.step (fun k => ?_) hv
      simp only [spec_l1Core.l1]
      rw [w64 (x := q * q) (by omega) (by omega), if_neg (by omega), if_neg c, w64 (x := q + 1) (by omega) (by omega)]
theorem specSize_eq {n : Int} (h : n.natAbs < 2 ^ 63) : spec_l1Size.f n = some (absI n) := by
  unfold spec_l1Size.f
  first
  | rw [size_ev (n := n) (by omega) (by omega)]
  | rw [Int.zero_sub, size_ev (n := n) (by omega) (by omega)]
theorem specCore_l : ∀ (d : Nat) (n r p : Int), n ≠ 0 → 1 ≤ r → (n * (r * r)).natAbs ≤ 1000000000 → 2 ≤ p → 40000 ≤ p + d → p ≤ 50000 → (∀ q : Int, 2 ≤ q → q < p → ¬ q * q ∣ n) →
    ∃ c s, IsCore (n * (r * r)) c s ∧ Ev (fun k => spec_l1Core.l0 k n r p) (c, s) := by
  intro d
  have fin : ∀ (n r p : Int), n ≠ 0 → 1 ≤ r → n.natAbs ≤ 1000000000 → 2 ≤ p → p ≤ 50000 → (∀ q : Int, 2 ≤ q → q < p → ¬ q * q ∣ n) → ¬ p * p ≤ absI n →
      ∃ c s, IsCore (n * (r * r)) c s ∧ Ev (fun k => spec_l1Core.l0 k n r p) (c, s) := by
    intro n r p hn hr hnb hp hP hq c
    have hpp : p * p ≤ 50000 * 50000 := sq_le (by omega) hP
    have hp0 := sq_nonneg p
    refine ⟨n, r, ⟨rfl, hr, hn, fun e he hd => ?_⟩, ?_⟩
    · rcases Int.lt_or_le e p with h | h
      · exact hq e he h hd
      · have h1 := sq_le (by omega) h
        have h2 : (e * e).natAbs ≤ n.natAbs := Nat.le_of_dvd (by omega) (Int.natAbs_dvd_natAbs.2 hd)
        unfold absI at c; omega
    · refine Ev.step (f := fun _ => some (n, r)) (fun k => ?_) (Ev.now _)
      simp only [spec_l1Core.l0, specSize_eq (n := n) (by omega), Option.bind_some]
      rw [w64 (x := p * p) (by omega) (by omega), if_neg c]
  have bd : ∀ (n r : Int), n ≠ 0 → 1 ≤ r → (n * (r * r)).natAbs ≤ 1000000000 → n.natAbs ≤ 1000000000 := by
    intro n r hn hr hb
    have h1 : r * r ≠ 0 := Int.mul_ne_zero (by omega) (by omega)
    have := mul_natAbs_le (a := n) h1; omega
  induction d with
  | zero =>
    intro n r p hn hr hb hp hd hP hq
    have hnb := bd n r hn hr hb
    have := sq_le (show (0 : Int) ≤ 40000 by omega) (show 40000 ≤ p by omega)
    exact fin n r p hn hr hnb hp hP hq (by unfold absI; omega)
  | succ d ih =>
    intro n r p hn hr hb hp hd hP hq
    have hnb := bd n r hn hr hb
    by_cases c : p * p ≤ absI n
    · have hpp : p * p ≤ 50000 * 50000 := sq_le (by omega) hP
      have hp0 := sq_nonneg p
      have hp4 : p < 40000 := by
        rcases Int.lt_or_le p 40000 with h | h
        · exact h
        · have := sq_le (show (0 : Int) ≤ 40000 by omega) h
          unfold absI at c; omega
      have h63 : n.natAbs < 2 ^ 63 := by omega
      obtain ⟨g1, g2, g3, g4, g5⟩ := coreW_spec hp 63 n r hn h63 hr
      obtain ⟨cc, s, hc, he⟩ := ih (coreW p 63 n r).1 (coreW p 63 n r).2 (p + 1) g1 g2 (by rw [← g3]; exact hb) (by omega) (by omega) (by omega) (fun q q1 q2 hqd => by
        rcases Int.lt_or_eq_of_le (show q ≤ p by omega) with h | h
        · exact hq q q1 h (Int.dvd_trans hqd g4)
        · subst h; exact g5 hqd)
      refine ⟨cc, s, by rw [g3]; exact hc, ?_⟩
      refine Ev.step (fun k => ?_) (specCoreIn_l hp (by omega) (cc, s) 63 n r hn h63 (by omega) hr hb he)
      simp only [spec_l1Core.l0, specSize_eq (n := n) (by omega), Option.bind_some]
      rw [w64 (x := p * p) (by omega) (by omega), if_pos c]
    · exact fin n r p hn hr hnb hp hP hq c
theorem specCore_ev {n : Int} (hn : n ≠ 0) (h : n.natAbs ≤ 100000000) : Ev (fun k => spec_l1Core.f k n) (coreF n) := by
  unfold spec_l1Core.f
  obtain ⟨c, s, hc, he⟩ := specCore_l 40000 n 1 2 hn (by omega) (by simpa using by omega) (by omega) (by omega) (by omega) (fun q q1 q2 => by omega)
  have e := core_is hn (by omega) (show IsCore n c s by have := hc; simp only [Int.mul_one] at this; exact this)
  rw [e]; exact he
/-! ### places of forms -/
theorem index_l (xs : List Int) (v : Int) (hl : xs.length ≤ 1000000) : ∀ (d j : Nat), j + d = xs.length →
    Ev (fun k => slices_Index_int_int.l0 k xs v (xs.length : Int) j) (if (xs.drop j).contains v then (j + (xs.drop j).findIdx (· == v) : Int) else -1) := by
  intro d
  induction d with
  | zero =>
    intro j hj
    rw [List.drop_of_length_le (by omega)]
    refine Ev.step (f := fun _ => some (-1)) (fun k => ?_) (by simpa using Ev.now _)
    simp only [slices_Index_int_int.l0]
    rw [if_neg (by omega)]
  | succ d ih =>
    intro j hj
    rw [rd_drop (show j < xs.length by omega)]
    by_cases c : v = rd xs (j : Int)
    · have e : (if (rd xs (j : Int) :: xs.drop (j + 1)).contains v then ((j : Int) + ((rd xs (j : Int) :: xs.drop (j + 1)).findIdx (· == v) : Int)) else -1) = (j : Int) := by
        rw [← c, List.findIdx_cons, beq_self_eq_true]; simp
      rw [e]
      refine Ev.step (f := fun _ => some (j : Int)) (fun k => ?_) (Ev.now _)
      simp only [slices_Index_int_int.l0]
      rw [if_pos (by omega), if_pos (by omega), if_pos (by omega), if_pos c]
    · have h2 := ih (j + 1) (by omega)
      have e : (if (rd xs (j : Int) :: xs.drop (j + 1)).contains v then ((j : Int) + ((rd xs (j : Int) :: xs.drop (j + 1)).findIdx (· == v) : Int)) else -1) = (if (xs.drop (j + 1)).contains v then (((j + 1 : Nat) : Int) + ((xs.drop (j + 1)).findIdx (· == v) : Int)) else -1) := by
        rw [List.contains_cons, List.findIdx_cons, show (v == rd xs (j : Int)) = false from by simpa using c, show (rd xs (j : Int) == v) = false from by simpa using fun h => c h.symm]
        simp only [Bool.false_or, cond_false]
        split
        · omega
        · rfl
      rw [e]
      refine Ev.step (fun k => ?_) h2
      simp only [slices_Index_int_int.l0]
      rw [if_pos (by omega), if_pos (by omega), if_pos (by omega), if_neg c, w64 (x := (j : Int) + 1) (by omega) (by omega)]
      rfl
theorem contains_ev (xs : List Int) (v : Int) (hl : xs.length ≤ 1000000) : Ev (fun k => slices_Contains_int_int.f k xs v) (xs.contains v) := by
  unfold slices_Contains_int_int.f slices_Index_int_int.f
  refine (index_l xs v hl xs.length 0 (by omega)).bind ?_
  rw [List.drop_zero]
  by_cases c : xs.contains v = true
  · rw [if_pos c, c]
    have : decide ((((0 : Nat) : Int) + ((xs.findIdx (· == v) : Nat) : Int)) ≥ 0) = true := decide_eq_true (by omega)
    rw [this]; exact Ev.now _
  · rw [if_neg c, Bool.eq_false_iff.2 c]; exact Ev.now _
theorem placesIn_l (xs : List Int) (i : Nat) (hi : i < xs.length) (hx5 : xs.length ≤ 100) (ps : List Int) (hp : ps.length ≤ 1000) (v : List Int) : ∀ (d j : Nat) (out : List Int), j + d = ps.length → out.length ≤ 5000 + j →
    Ev (fun k => impl_placesOf.l0 k (addP out (ps.drop j)) xs (xs.length : Int) ((i + 1 : Nat) : Int)) v →
    Ev (fun k => impl_placesOf.l1 k out xs (xs.length : Int) i ps (ps.length : Int) j) v := by
  intro d
  induction d with
  | zero =>
    intro j out hj ho hv
    rw [List.drop_of_length_le (by omega)] at hv
    refine Ev.step (fun k => ?_) hv
    simp only [impl_placesOf.l1]
    rw [if_neg (by omega), w64 (x := (i : Int) + 1) (by omega) (by omega)]
    rfl
  | succ d ih =>
    intro j out hj ho hv
    rw [rd_drop (show j < ps.length by omega)] at hv
    simp only [addP] at hv
    apply Ev.step
    · intro k
      simp only [impl_placesOf.l1]
      rw [if_pos (by omega), if_pos (by omega), if_pos (by omega), w64 (x := (j : Int) + 1) (by omega) (by omega)]
    · refine (contains_ev out (rd ps (j : Int)) (by omega)).bind ?_
      by_cases c : out.contains (rd ps (j : Int)) = true
      · rw [if_pos c] at hv
        simp only [if_pos c]
        exact ih (j + 1) out (by omega) (by omega) hv
      · rw [if_neg c] at hv
        simp only [if_neg c, if_pos (show out.length < 17592186044416 by omega)]
        exact ih (j + 1) (out ++ [rd ps (j : Int)]) (by omega) (by simp; omega) hv
theorem sort_eq (l : List Int) (h1 : 1 ≤ l.length) (h2 : l.length ≤ 1000000) : slices_Sort_int_int.f l = some (sortI l) := by
  unfold slices_Sort_int_int.f sortI; rw [if_pos ⟨h1, by omega⟩]
theorem addAll_len : ∀ (xs out : List Int), (∀ x ∈ xs, Sm x) → out.Nodup → out.length ≤ (addAll out xs).length ∧ (addAll out xs).length ≤ out.length + 40 * xs.length
  | [], out, _, _ => by simp [addAll]
  | x :: xs, out, hx, h => by
    simp only [addAll, List.length_cons]
    obtain ⟨h1, h2, h3⟩ := addP_spec (primes x) out h
    have ih := addAll_len xs (addP out (primes x)) (fun y hy => hx y (by simp [hy])) h1
    have hp := primes_len x
    have hs := (hx x (by simp)).2
    have hle : out.length ≤ (addP out (primes x)).length := by
      have : ∀ (qs o : List Int), o.length ≤ (addP o qs).length := by
        intro qs
        induction qs with
        | nil => intro o; simp [addP]
        | cons q qs ih => intro o; simp only [addP]; split; exact ih o; have := ih (o ++ [q]); simp at this; omega
      exact this _ _
    omega
theorem placesOut_l (xs : List Int) (hx : ∀ x ∈ xs, Sm x) (hl : xs.length ≤ 100) : ∀ (d i : Nat) (out : List Int), i + d = xs.length → out.Nodup → 1 ≤ out.length → out.length ≤ 10 + 40 * i →
    Ev (fun k => impl_placesOf.l0 k out xs (xs.length : Int) i) (sortI (addAll out (xs.drop i))) := by
  intro d
  induction d with
  | zero =>
    intro i out hi hn h1 h2
    rw [List.drop_of_length_le (by omega)]
    refine Ev.step (f := fun _ => some (sortI out)) (fun k => ?_) (Ev.now _)
    simp only [impl_placesOf.l0]
    rw [if_neg (by omega), sort_eq out h1 (by omega)]; rfl
  | succ d ih =>
    intro i out hi hn h1 h2
    have hm := hx _ (rd_mem (xs := xs) (j := i) (by omega))
    rw [rd_drop (show i < xs.length by omega)]
    simp only [addAll]
    have hs := hm.2
    have hpl := primes_len (rd xs (i : Int))
    obtain ⟨a1, a2, a3⟩ := addP_spec (primes (rd xs (i : Int))) out hn
    have a4 := (addAll_len [rd xs (i : Int)] out (by intro x hx; rw [List.mem_singleton.1 hx]; exact hm) hn)
    simp only [addAll, List.length_cons, List.length_nil] at a4
    apply Ev.step
    · intro k
      simp only [impl_placesOf.l0]
      rw [if_pos (by omega), if_pos (by omega), if_pos (by omega)]
    · refine (primesOf_ev hm.1 (by omega)).bind ?_
      refine placesIn_l xs i (by omega) (by omega) (primes (rd xs (i : Int))) (by omega) _ (primes (rd xs (i : Int))).length 0 out (by omega) (by omega) ?_
      rw [List.drop_zero]
      exact ih (i + 1) _ (by omega) a1 (by omega) (by omega)
theorem placesOf_ev {xs : List Int} (hx : ∀ x ∈ xs, Sm x) (hl : xs.length ≤ 100) : Ev (fun k => impl_placesOf.f k xs) (plc xs) := by
  rw [← sortI_plc hx]
  exact placesOut_l xs hx hl xs.length 0 [0, 2] (by omega) (by decide) (by simp) (by simp)
theorem l2Places_l (ps : List Int) (hl : ps.length ≤ 100000100) : ∀ (d j : Nat) (out : List Int), j + d = ps.length → out.length ≤ 2 + j →
    Ev (fun k => spec_l2Places.l0 k out ps j) (out ++ (ps.drop j).filter (fun x => decide (x > 2))) := by
  intro d
  induction d with
  | zero =>
    intro j out hj ho
    rw [List.drop_of_length_le (by omega)]
    refine Ev.step (f := fun _ => some out) (fun k => ?_) (by simpa using Ev.now _)
    simp only [spec_l2Places.l0]
    rw [if_neg (by omega)]
  | succ d ih =>
    intro j out hj ho
    rw [rd_drop (show j < ps.length by omega)]
    by_cases c : rd ps (j : Int) > 2
    · rw [List.filter_cons_of_pos (by simpa using c)]
      have := ih (j + 1) (out ++ [rd ps (j : Int)]) (by omega) (by simp; omega)
      rw [List.append_assoc, List.singleton_append] at this
      refine Ev.step (fun k => ?_) this
      simp only [spec_l2Places.l0]
      rw [if_pos (by omega), if_pos (by omega), if_pos c, if_pos (by omega), w64 (x := (j : Int) + 1) (by omega) (by omega)]
      rfl
    · rw [List.filter_cons_of_neg (by simpa using c)]
      refine Ev.step (fun k => ?_) (ih (j + 1) out (by omega) (by omega))
      simp only [spec_l2Places.l0]
      rw [if_pos (by omega), if_pos (by omega), if_neg c, w64 (x := (j : Int) + 1) (by omega) (by omega)]
      rfl
theorem l2Places_ev {n : Int} (hn : n ≠ 0) (h : n.natAbs ≤ 100000000) : Ev (fun k => spec_l2Places.f k n) (placesL n) := by
  unfold spec_l2Places.f
  refine (l1Primes_ev hn (by omega)).bind ?_
  have := primes_len n
  exact l2Places_l (primes n) (by omega) (primes n).length 0 [0, 2] (by omega) (by simp)
theorem specFormPlaces_ev {xs : List Int} (hl : xs.length ≤ 100) : Ev (fun k => spec_FormPlaces.f k xs) (if formOk xs = true then plc xs else []) := by
  unfold spec_FormPlaces.f
  refine (specFormValid_ev (xs := xs) (by omega)).bind ?_
  by_cases c : formOk xs = true
  · simp only [if_pos c]
    have hk := formOk_iff.1 c
    have hb := prod_bd4 hk.1 (by omega)
    refine (specProduct_ev hk.1 (by omega)).bind ((l2Places_ev hb.1 (by omega)).bind ?_)
    rw [places_prod hk.1 (by omega)]
    exact Ev.now _
  · simp only [if_neg c]; exact Ev.now _
theorem plc_len (xs : List Int) : (plc xs).length ≤ 11 := by unfold plc; exact List.length_filter_le _ _
theorem implFormPlaces_ev {xs : List Int} (h31 : ∀ x ∈ xs, x.natAbs ≤ 1000000) (hl : xs.length ≤ 100) : Ev (fun k => impl_FormPlaces.f k xs) (if formOk xs = true then plc xs else []) := by
  unfold impl_FormPlaces.f
  refine (implFormValid_ev (xs := xs) h31 (by omega)).bind ?_
  by_cases c : formOk xs = true
  · simp only [if_pos c]
    have hk := formOk_iff.1 c
    exact (placesOf_ev hk.1 (by omega)).bind (f := fun _ t => some t) (Ev.now _)
  · simp only [if_neg c]; exact Ev.now _

/-! ### bad places of a form -/
theorem implBad_l {xs : List Int} (hx : ∀ x ∈ xs, Sm x) (hl : xs.length ≤ 5) (ps : List Int) (hp : ∀ p ∈ ps, Plc p) (h11 : ps.length ≤ 100) : ∀ (d j : Nat) (out : List Int), j + d = ps.length → out.length ≤ j →
    Ev (fun k => impl_FormBad.l0 k xs out ps (ps.length : Int) j) (out ++ (ps.drop j).filter (fun p => !van xs p)) := by
  intro d
  induction d with
  | zero =>
    intro j out hj ho
    rw [List.drop_of_length_le (by omega)]
    refine Ev.step (f := fun _ => some out) (fun k => ?_) (by simpa using Ev.now _)
    simp only [impl_FormBad.l0]
    rw [if_neg (by omega)]
  | succ d ih =>
    intro j out hj ho
    have hP := hp _ (rd_mem (xs := ps) (j := j) (by omega))
    rw [rd_drop (show j < ps.length by omega)]
    apply Ev.step
    · intro k
      simp only [impl_FormBad.l0]
      rw [if_pos (by omega), if_pos (by omega), if_pos (by omega), w64 (x := (j : Int) + 1) (by omega) (by omega)]
    · refine (implVan_ev hP hx hl).bind ?_
      by_cases c : van xs (rd ps (j : Int)) = true
      · rw [List.filter_cons_of_neg (by simp [c])]
        simp only [if_pos c]
        exact ih (j + 1) out (by omega) (by omega)
      · have := ih (j + 1) (out ++ [rd ps (j : Int)]) (by omega) (by simp; omega)
        rw [List.append_assoc, List.singleton_append] at this
        rw [List.filter_cons_of_pos (by simp [c])]
        simp only [if_neg c, if_pos (show out.length < 17592186044416 by omega)]
        exact this
theorem implFormBad_ev {xs : List Int} (h31 : ∀ x ∈ xs, x.natAbs ≤ 1000000) (hl : xs.length ≤ 100) : Ev (fun k => impl_FormBad.f k xs) (if formOk xs = true then bad xs else []) := by
  unfold impl_FormBad.f
  have e1 := implFormPlaces_ev h31 hl
  by_cases c : formOk xs = true
  · have hk := formOk_iff.1 c
    rw [if_pos c] at e1 ⊢
    have := plc_len xs
    first
    | exact e1.bind (implBad_l hk.1 (by omega) (plc xs) (fun p hp => plc_plc hp) (by omega) (plc xs).length 0 [] (by omega) (by simp))
    | (simp only [Option.bind_some]; exact e1.bind (implBad_l hk.1 (by omega) (plc xs) (fun p hp => plc_plc hp) (by omega) (plc xs).length 0 [] (by omega) (by simp)))
  · rw [if_neg c] at e1 ⊢
    have z : Ev (fun k => impl_FormBad.l0 k xs [] [] (([] : List Int).length : Int) 0) ([] : List Int) := Ev.step (f := fun _ => some []) (fun k => by simp [impl_FormBad.l0]) (Ev.now _)
    first
    | exact e1.bind z
    | (simp only [Option.bind_some]; exact e1.bind z)

/-! ### planes everywhere -/
theorem specPAll_l {xs : List Int} (hx : ∀ x ∈ xs, Sm x) (h1 : 1 ≤ xs.length) (hl : xs.length ≤ 4) (ps : List Int) (hp : ∀ p ∈ ps, Plc p) (h11 : ps.length ≤ 100) : ∀ (d j : Nat) (acc : Int), j + d = ps.length →
    Ev (fun k => spec_PlanesAll.l0 k xs ps acc j) (minL (planes xs) (ps.drop j) acc) := by
  intro d
  induction d with
  | zero =>
    intro j acc hj
    rw [List.drop_of_length_le (by omega)]
    refine Ev.step (f := fun _ => some acc) (fun k => ?_) (Ev.now _)
    simp only [spec_PlanesAll.l0]
    rw [if_neg (by omega)]
  | succ d ih =>
    intro j acc hj
    have hP := hp _ (rd_mem (xs := ps) (j := j) (by omega))
    rw [rd_drop (show j < ps.length by omega)]
    apply Ev.step
    · intro k
      simp only [spec_PlanesAll.l0]
      rw [if_pos (by omega), if_pos (by omega), w64 (x := (j : Int) + 1) (by omega) (by omega)]
    · refine (specPlanes_ev hP hx h1 hl).bind ?_
      exact ih (j + 1) _ (by omega)
theorem plc_cons (xs : List Int) : ∃ l, plc xs = 0 :: l := by
  unfold plc PP
  exact ⟨_, List.filter_cons_of_pos (by simp [plOf])⟩
theorem minL_head {f : Int → Int} {a b p : Int} {ps : List Int} (ha : f p ≤ a) (hb : b = f p) : minL f (p :: ps) a = minL f (p :: ps) b := by
  simp only [minL]
  congr 1
  unfold mn; split <;> split <;> omega
theorem specPlanesAll_ev {xs : List Int} (hl : xs.length ≤ 100) : Ev (fun k => spec_PlanesAll.f k xs) (if formOk xs = true then pall xs else -1) := by
  unfold spec_PlanesAll.f
  refine (specFormPlaces_ev (xs := xs) (by omega)).bind ?_
  by_cases c : formOk xs = true
  · have hk := formOk_iff.1 c
    have hln := plc_len xs
    obtain ⟨l, he⟩ := plc_cons xs
    have hne : ¬ ((plc xs).length : Int) = 0 := by rw [he]; simp; omega
    simp only [if_pos c, if_neg hne]
    refine (specPlanes_ev (p := 0) (Or.inl rfl) hk.1 hk.2.1 hk.2.2).bind ?_
    have e : pall xs = minL (planes xs) (plc xs) (planes xs 0) := by
      unfold pall
      rw [he]
      exact minL_head (by have := planes_half xs 0; omega) rfl
    rw [e]
    exact specPAll_l hk.1 hk.2.1 hk.2.2 (plc xs) (fun p hp => plc_plc hp) (by omega) (plc xs).length 0 _ (by omega)
  · simp only [if_neg c]
    simp only [List.length_nil, Int.natCast_zero, if_true]
    exact Ev.now _

/-! ### bad places of a number -/
/-! ### discriminants; forms that are the same -/
def disc (xs : List Int) : Int := (coreF (prod xs)).1
theorem implDisc_ev {xs : List Int} (h31 : ∀ x ∈ xs, x.natAbs ≤ 1000000) (hl : xs.length ≤ 100) : Ev (fun k => impl_FormDisc.f k xs) (if formOk xs = true then disc xs else 0) := by
  unfold impl_FormDisc.f
  refine (implFormValid_ev (xs := xs) h31 (by omega)).bind ?_
  by_cases c : formOk xs = true
  · have hk := formOk_iff.1 c
    have hb := prod_bd4 hk.1 (by omega)
    simp only [if_pos c]
    refine (implProduct_ev hk.1 (by omega)).bind ((implCore_ev hb.1 (by omega)).bind ?_)
    exact Ev.now _
  · simp only [if_neg c]; exact Ev.now _
theorem specDisc_ev {xs : List Int} (hl : xs.length ≤ 100) : Ev (fun k => spec_FormDisc.f k xs) (if formOk xs = true then disc xs else 0) := by
  unfold spec_FormDisc.f
  refine (specFormValid_ev (xs := xs) (by omega)).bind ?_
  by_cases c : formOk xs = true
  · have hk := formOk_iff.1 c
    have hb := prod_bd4 hk.1 (by omega)
    simp only [if_pos c]
    refine (specProduct_ev hk.1 (by omega)).bind ((specCore_ev hb.1 (by omega)).bind ?_)
    exact Ev.now _
  · simp only [if_neg c]; exact Ev.now _
theorem implAlike_ev {xs ys : List Int} {p : Int} (hp : Plc p) (hx : ∀ x ∈ xs, Sm x) (hy : ∀ x ∈ ys, Sm x) (h1 : xs.length ≤ 4) (h2 : ys.length ≤ 4) : Ev (fun k => impl_alike.f k xs ys p) (alk xs ys p) := by
  have m := pp_sm hx hy (by omega) (by omega)
  unfold impl_alike.f alk
  by_cases c : p = 0
  · simp only [if_pos c]
    exact (implLess_ev (by omega)).bind ((implLess_ev (by omega)).bind (Ev.now _))
  · simp only [if_neg c]
    refine (implProduct_ev hx (by omega)).bind ((implProduct_ev hy (by omega)).bind ?_)
    rw [w64 (x := prod xs * prod ys) (by omega) (by omega)]
    refine (implSq_ev hp m.1 m.2).bind ?_
    by_cases cs : sqAt (prod xs * prod ys) p = true
    · simp only [cs, if_true, Bool.true_and]
      exact (implInv_ev hp hx (by omega)).bind ((implInv_ev hp hy (by omega)).bind (Ev.now _))
    · simp only [cs, Bool.false_eq_true, if_false, Bool.false_and]; exact Ev.now _
theorem implSame_l {xs ys : List Int} (hx : ∀ x ∈ xs, Sm x) (hy : ∀ x ∈ ys, Sm x) (h1 : xs.length ≤ 4) (h2 : ys.length ≤ 4) (ps : List Int) (hp : ∀ p ∈ ps, Plc p) (h11 : ps.length ≤ 100) : ∀ (d j : Nat), j + d = ps.length →
    Ev (fun k => impl_FormSame.l0 k xs ys ps (ps.length : Int) j) ((ps.drop j).all (fun p => alk xs ys p)) := by
  intro d
  induction d with
  | zero =>
    intro j hj
    rw [List.drop_of_length_le (by omega)]
    refine Ev.step (f := fun _ => some true) (fun k => ?_) (Ev.now _)
    simp only [impl_FormSame.l0]
    rw [if_neg (by omega)]
  | succ d ih =>
    intro j hj
    have hP := hp _ (rd_mem (xs := ps) (j := j) (by omega))
    rw [rd_drop (show j < ps.length by omega), List.all_cons]
    apply Ev.step
    · intro k
      simp only [impl_FormSame.l0]
      rw [if_pos (by omega), if_pos (by omega), if_pos (by omega), w64 (x := (j : Int) + 1) (by omega) (by omega)]
    · refine (implAlike_ev hP hx hy h1 h2).bind ?_
      by_cases c : alk xs ys (rd ps (j : Int)) = true
      · simp only [c, if_true, Bool.true_and]
        exact ih (j + 1) (by omega)
      · simp only [c, Bool.false_eq_true, if_false, Bool.false_and]; exact Ev.now _
/-- Forms with one discriminant, alike at all their places, are the same. -/
theorem implSame_true {xs ys : List Int} (cx : formOk xs = true) (cy : formOk ys = true) (hl : xs.length = ys.length) (hd : disc xs = disc ys) (ha : ∀ p ∈ plc (xs ++ ys), alk xs ys p = true) : Ev (fun k => impl_FormSame.f k xs ys) true := by
  have hx := formOk_iff.1 cx
  have hy := formOk_iff.1 cy
  have bx : ∀ x ∈ xs, x.natAbs ≤ 1000000 := fun x h => by have := (hx.1 x h).2; omega
  have bY : ∀ x ∈ ys, x.natAbs ≤ 1000000 := fun x h => by have := (hy.1 x h).2; omega
  unfold impl_FormSame.f
  refine (implFormValid_ev (xs := xs) bx (by omega)).bind ?_
  simp only [cx, if_true]
  refine (implFormValid_ev (xs := ys) bY (by omega)).bind ?_
  simp only [cy, if_true, if_pos (show (xs.length : Int) = (ys.length : Int) by omega)]
  have e1 := implDisc_ev bx (by omega)
  have e2 := implDisc_ev bY (by omega)
  rw [if_pos cx] at e1
  rw [if_pos cy] at e2
  refine e1.bind (e2.bind ?_)
  rw [hd, bne_self_eq_false]
  apply Ev.step
  · intro k
    simp only [impl_FormSame.j0, Bool.false_eq_true, if_false, slices_Clone_int_int.f, if_pos (show xs.length ≤ 17592186044416 by omega), Option.bind_some, if_pos (show xs.length + ys.length < 17592186044416 by omega)]
    exact rfl
  · have h3 : ∀ x ∈ xs ++ ys, Sm x := by intro x h; rcases List.mem_append.1 h with e | e; exact hx.1 x e; exact hy.1 x e
    have h2 := plc_len (xs ++ ys)
    refine (placesOf_ev h3 (by simp; omega)).bind ?_
    have := implSame_l hx.1 hy.1 hx.2.2 hy.2.2 (plc (xs ++ ys)) (fun p hp => plc_plc hp) (by omega) (plc (xs ++ ys)).length 0 (by omega)
    rw [List.drop_zero, List.all_eq_true.2 ha] at this
    exact this


/-! ### forms that often have a zero are drawn -/
theorem xor_yx {X : Int} (h0 : 0 ≤ X) (h1 : X < 9223372036854775808) : Go.bits .xor .i64 X (X.tdiv 64) = ((yx X.toNat : Nat) : Int) := by
  obtain ⟨x, rfl⟩ := Int.eq_ofNat_of_zero_le h0
  have e : ((x : Int)).tdiv 64 = ((x / 64 : Nat) : Int) := by rw [Int.tdiv_eq_ediv_of_nonneg (by omega)]; omega
  rw [e, xor_i64_nat x (x / 64) (by omega) (by omega)]
  rfl
theorem mod_steps (p l : Int) (j : Nat) (hl : 0 < l) : (p + 4 * l * j) % l = p % l ∧ ((p + 4 * l * j) * 7 + 3) % l = (p * 7 + 3) % l ∧ (p + 4 * l * j) / l = p / l + 4 * j := by
  have e1 : p + 4 * l * j = p + l * (4 * j) := by grind
  have e2 : (p + 4 * l * j) * 7 + 3 = (p * 7 + 3) + l * (28 * j) := by grind
  refine ⟨by rw [e1, Int.add_mul_emod_self_left], by rw [e2, Int.add_mul_emod_self_left], ?_⟩
  rw [e1, Int.add_mul_ediv_left _ _ (by omega)]
theorem pv_far {b : List Int} (hb : BytesB b) (hl : 0 < b.length) {p : Int} (hp : (b.length : Int) ≤ p) (hP : p ≤ 980000000000000) :
    ∃ x0 : Nat, ∀ j : Nat, j < 2 ^ 31 → pv b (p + 4 * (b.length : Int) * j) = ((yx (x0 + stepN b.length * j) : Nat) : Int) := by
  have hb2 := hb.2
  have hA := hb.rd_ (p % b.length)
  have hB := hb.rd_ ((p * 7 + 3) % b.length)
  have hd0 : 0 ≤ p / (b.length : Int) := Int.ediv_nonneg (by omega) (by omega)
  have hd1 : p / (b.length : Int) ≤ p := Int.ediv_le_self _ (by omega)
  refine ⟨(rd b (p % b.length) * 131 + rd b ((p * 7 + 3) % b.length) * 1117 + p * 29 + p / b.length * 53).toNat, fun j hj => ?_⟩
  obtain ⟨m1, m2, m3⟩ := mod_steps p b.length j (by omega)
  have hlj : 0 ≤ 4 * (b.length : Int) * j := Int.mul_nonneg (by omega) (by omega)
  have hlj2 : 4 * (b.length : Int) * j ≤ 8000 * 2147483648 := mul_le2 (by omega) (by omega) (by omega) (by omega)
  have e1 : (p + 4 * (b.length : Int) * j).tmod b.length = p % b.length := by rw [Int.tmod_eq_emod_of_nonneg (by omega), m1]
  have e2 : ((p + 4 * (b.length : Int) * j) * 7 + 3).tmod b.length = (p * 7 + 3) % b.length := by rw [Int.tmod_eq_emod_of_nonneg (by omega), m2]
  have e3 : (p + 4 * (b.length : Int) * j).tdiv b.length = p / b.length + 4 * j := by rw [Int.tdiv_eq_ediv_of_nonneg (by omega), m3]
  unfold pv
  rw [if_neg (by omega), if_neg (by omega), e1, e2, e3]
  generalize rd b (p % b.length) = A at hA
  generalize rd b ((p * 7 + 3) % b.length) = B at hB
  generalize p / (b.length : Int) = D at hd0 hd1
  have es : A * 131 + B * 1117 + (p + 4 * (b.length : Int) * j) * 29 + (D + 4 * j) * 53 = (A * 131 + B * 1117 + p * 29 + D * 53) + (stepN b.length : Int) * j := by
    unfold stepN
    have : ((116 * b.length + 212 : Nat) : Int) = 116 * (b.length : Int) + 212 := by omega
    rw [this]; grind
  have hs0 : 0 ≤ (stepN b.length : Int) * j := Int.mul_nonneg (by omega) (by omega)
  have hs1 : (stepN b.length : Int) * j ≤ 232212 * 2147483648 := mul_le2 (by omega) (by unfold stepN; omega) (by omega) (by omega)
  rw [es, xor_yx (by omega) (by omega)]
  congr 2
  generalize hg : (stepN b.length : Int) * j = g at hs0 hs1
  have hg2 : ((stepN b.length * j : Nat) : Int) = g := by rw [← hg]; simp
  omega
/-- Within so many steps a draw of forty differs from 1. -/
theorem pick_moves {b : List Int} (hb : BytesB b) {q : Int} (hq : 0 ≤ q) (hQ : q ≤ 970000000000000) : ∃ j : Nat, j ≤ 4294967298000 ∧ (pv b (q + 4 * j)).tmod 40 ≠ 1 := by
  have hb2 := hb.2
  rcases Nat.eq_zero_or_pos b.length with h0 | h0
  · refine ⟨0, by omega, ?_⟩
    unfold pv; rw [if_pos h0]; decide
  · obtain ⟨x0, hx⟩ := pv_far hb h0 (p := q + 8000) (by omega) (by omega)
    obtain ⟨j, hj, hne⟩ := not_stay b.length x0 hb2
    have hbj : b.length * j ≤ 2000 * 2147483648 := Nat.mul_le_mul hb2 (by omega)
    refine ⟨2000 + b.length * j, by omega, ?_⟩
    have e : q + 4 * ((2000 + b.length * j : Nat) : Int) = q + 8000 + 4 * (b.length : Int) * j := by
      have : ((2000 + b.length * j : Nat) : Int) = 2000 + (b.length : Int) * j := by simp
      rw [this]; grind
    rw [e, hx j hj, Int.tmod_eq_emod_of_nonneg (by omega)]
    intro h
    apply hne
    omega
def OneT (x : Int) : Prop := x.natAbs ≤ 31 ∧ (Sm x → x ∈ TT)
theorem one_form {b : List Int} (hb : BytesB b) {q : Int} (hq : 0 ≤ q) (hQ : q ≤ 999999999999000) : ∃ xs q', Ev (fun k => spec_l91Form.f k b q 1) (xs, q') ∧
    ((xs = [] ∧ q' = q + 4 ∧ (pv b (q + 3)).tmod 40 = 1) ∨ (∃ x, xs = [x] ∧ OneT x ∧ q + 4 ≤ q' ∧ q' ≤ q + 5)) := by
  obtain ⟨p0, e0⟩ := pick_at hb (p := q) (by omega) (by omega) (n := 1) (by omega)
  obtain ⟨p1, e1⟩ := pick_at hb (p := q + 1) (by omega) (by omega) (n := 16) (by omega)
  obtain ⟨p2, e2⟩ := pick_at hb (p := q + 1 + 1) (by omega) (by omega) (n := 5) (by omega)
  obtain ⟨p3, e3⟩ := pick_at hb (p := q + 1 + 1 + 1) (by omega) (by omega) (n := 40) (by omega)
  obtain ⟨p4, e4⟩ := pick_at hb (p := q + 1 + 1 + 1 + 1) (by omega) (by omega) (n := 2) (by omega)
  have r0 := tmod_range p0 (n := 1) (by omega)
  have r1 := tmod_range p1 (n := 16) (by omega)
  have r4 := tmod_range p4 (n := 2) (by omega)
  have z0 : (pv b q).tmod 1 = 0 := by omega
  have e33 : q + 1 + 1 + 1 = q + 3 := by omega
  rw [z0] at e0
  generalize hv1 : (pv b (q + 1)).tmod 16 = v1 at r1 e1
  generalize (pv b (q + 1 + 1)).tmod 5 = v2 at e2
  generalize hv3 : (pv b (q + 1 + 1 + 1)).tmod 40 = v3 at e3
  generalize (pv b (q + 1 + 1 + 1 + 1)).tmod 2 = v4 at r4 e4
  have hlen : v1 < ((List.length [(1 : Int), 2, 3, 5, 6, 7, 1, 10, 12, 3, 15, 4, 21, 1, 30, 8] : Nat) : Int) := by simp; omega
  have hm := rd_mem' (xs := [1, 2, 3, 5, 6, 7, 1, 10, 12, 3, 15, 4, 21, 1, 30, 8]) r1.1 hlen
  have ht : rd [1, 2, 3, 5, 6, 7, 1, 10, 12, 3, 15, 4, 21, 1, 30, 8] v1 ∈ TT ∧ -(rd [1, 2, 3, 5, 6, 7, 1, 10, 12, 3, 15, 4, 21, 1, 30, 8] v1) ∈ TT := by
    have : ∀ x ∈ ([1, 2, 3, 5, 6, 7, 1, 10, 12, 3, 15, 4, 21, 1, 30, 8] : List Int), x ∈ TT ∧ -x ∈ TT := by decide +kernel
    exact this _ hm
  -- one term, and what follows it
  have step : ∀ (v : List Int × Int), (∀ x, x ∈ TT → Ev (fun k => spec_l91Form.l0 k [x] 1 1 b (q + 1 + 1 + 1)) v) → True := fun _ _ => trivial
  have fin : ∀ x, x ∈ TT → ∃ xs q', Ev (fun k => spec_l91Form.l0 k [x] 1 1 b (q + 1 + 1 + 1)) (xs, q') ∧ ((xs = [] ∧ q' = q + 4 ∧ (pv b (q + 3)).tmod 40 = 1) ∨ (∃ x, xs = [x] ∧ OneT x ∧ q + 4 ≤ q' ∧ q' ≤ q + 5)) := by
    intro x hx
    by_cases c0 : v3 = 0
    · have hm2 := rd_mem' (xs := [0, 31]) r4.1 (by simp; omega)
      refine ⟨[rd [0, 31] v4], q + 1 + 1 + 1 + 1 + 1, ?_, Or.inr ⟨_, rfl, ?_, by omega, by omega⟩⟩
      · apply Ev.step
        · intro k
          simp only [spec_l91Form.l0, if_neg (show ¬ (1 : Int) < 1 by omega)]
          exact rfl
        · refine e3.bind ?_
          simp only [if_pos c0, Option.bind_some]
          refine e4.bind ?_
          simp only [if_pos r4.1, if_pos (show v4 < ((List.length [(0 : Int), 31] : Nat) : Int) from by simp; omega), if_pos (show 0 < ((([x] : List Int).length : Nat) : Int) from by simp)]
          exact Ev.now _
      · simp only [List.mem_cons, List.not_mem_nil, or_false] at hm2
        unfold OneT Sm
        refine ⟨by omega, fun h => by omega⟩
    · by_cases c1 : v3 = 1
      · refine ⟨[], q + 1 + 1 + 1 + 1, ?_, Or.inl ⟨rfl, by omega, by rw [← e33, hv3]; exact c1⟩⟩
        apply Ev.step
        · intro k
          simp only [spec_l91Form.l0, if_neg (show ¬ (1 : Int) < 1 by omega)]
          exact rfl
        · refine e3.bind ?_
          simp only [if_neg c0, if_pos c1]; exact Ev.now _
      · refine ⟨[x], q + 1 + 1 + 1 + 1, ?_, Or.inr ⟨x, rfl, ⟨by have := (TT_sm hx).2; omega, fun _ => hx⟩, by omega, by omega⟩⟩
        apply Ev.step
        · intro k
          simp only [spec_l91Form.l0, if_neg (show ¬ (1 : Int) < 1 by omega)]
          exact rfl
        · refine e3.bind ?_
          simp only [if_neg c0, if_neg c1]; exact Ev.now _
  generalize hx : rd [1, 2, 3, 5, 6, 7, 1, 10, 12, 3, 15, 4, 21, 1, 30, 8] v1 = x at ht
  have hs := TT_sm ht.1
  unfold Sm at hs
  have hz : wrap64 (-x) = -x := w64 (by omega) (by omega)
  have go : ∀ y, (y = if v2 < 2 then -x else x) → ∀ v, Ev (fun k => spec_l91Form.l0 k [y] 1 1 b (q + 1 + 1 + 1)) v → Ev (fun k => spec_l91Form.f k b q 1) v := by
    intro y hy v hv
    unfold spec_l91Form.f
    refine e0.bind ?_
    rw [show wrap64 (1 + 0) = 1 from w64 (by omega) (by omega)]
    apply Ev.step
    · intro k
      simp only [spec_l91Form.l0, if_pos (show (0 : Int) < 1 by omega), Option.bind_some]
      exact rfl
    · refine e1.bind ?_
      simp only [if_pos r1.1, if_pos hlen]
      refine e2.bind ?_
      by_cases c : v2 < 2
      · rw [if_pos c] at hy
        subst hy
        simp only [if_pos c, hx, hz, List.length_nil, List.nil_append, if_pos (show 0 < 17592186044416 by omega), show wrap64 (0 + 1) = 1 from w64 (by omega) (by omega)]
        exact hv
      · rw [if_neg c] at hy
        subst hy
        simp only [if_neg c, hx, List.length_nil, List.nil_append, if_pos (show 0 < 17592186044416 by omega), show wrap64 (0 + 1) = 1 from w64 (by omega) (by omega)]
        exact hv
  by_cases c : v2 < 2
  · obtain ⟨xs, q', h1, h2⟩ := fin (-x) ht.2
    exact ⟨xs, q', go (-x) (by rw [if_pos c]) _ h1, h2⟩
  · obtain ⟨xs, q', h1, h2⟩ := fin x ht.1
    exact ⟨xs, q', go x (by rw [if_neg c]) _ h1, h2⟩
/-- One more term, behind some draws that give none. -/
theorem one_more {b : List Int} (hb : BytesB b) (n : Int) (out : List Int) (h0 : 0 < (out.length : Int)) (hn : (out.length : Int) < n) (hn5 : n ≤ 5) : ∀ (J : Nat) (q : Int), 0 ≤ q → q + 4 * J ≤ 999999999998000 → (∃ j : Nat, j ≤ J ∧ (pv b (q + 3 + 4 * j)).tmod 40 ≠ 1) →
    ∃ x q', OneT x ∧ q ≤ q' ∧ q' ≤ q + 4 * J + 5 ∧ ∀ v, Ev (fun k => spec_l92Form.l0 k n (out ++ [x]) b q') v → Ev (fun k => spec_l92Form.l0 k n out b q) v := by
  intro J
  induction J with
  | zero =>
    intro q hq hQ hj
    obtain ⟨j, hj, hne⟩ := hj
    obtain rfl : j = 0 := by omega
    obtain ⟨xs, q', e, ⟨_, _, h⟩ | ⟨x, rfl, hx, h1, h2⟩⟩ := one_form hb (q := q) hq (by omega)
    · exfalso; apply hne; simpa using h
    · refine ⟨x, q', hx, by omega, by omega, fun v hv => ?_⟩
      apply Ev.step
      · intro k
        simp only [spec_l92Form.l0, if_pos hn, if_pos h0]
        exact rfl
      · refine e.bind ?_
        simp only [if_pos (show out.length + ([x] : List Int).length < 17592186044416 by simp; omega)]
        exact hv
  | succ J ih =>
    intro q hq hQ hj
    obtain ⟨j, hj, hne⟩ := hj
    obtain ⟨xs, q', e, ⟨rfl, rfl, h⟩ | ⟨x, rfl, hx, h1, h2⟩⟩ := one_form hb (q := q) hq (by omega)
    · have hj1 : 1 ≤ j := by
        rcases Nat.eq_zero_or_pos j with h0 | h0
        · exfalso; subst h0; apply hne; simpa using h
        · omega
      obtain ⟨x, q2, hx, h1, h2, h3⟩ := ih (q + 4) (by omega) (by omega) ⟨j - 1, by omega, by rw [show q + 4 + 3 + 4 * ((j - 1 : Nat) : Int) = q + 3 + 4 * (j : Int) by omega]; exact hne⟩
      refine ⟨x, q2, hx, by omega, by omega, fun v hv => ?_⟩
      apply Ev.step
      · intro k
        simp only [spec_l92Form.l0, if_pos hn, if_pos h0]
        exact rfl
      · refine e.bind ?_
        simp only [if_pos (show out.length + ([] : List Int).length < 17592186044416 by simp; omega), List.append_nil]
        exact h3 v hv
    · refine ⟨x, q', hx, by omega, by omega, fun v hv => ?_⟩
      apply Ev.step
      · intro k
        simp only [spec_l92Form.l0, if_pos hn, if_pos h0]
        exact rfl
      · refine e.bind ?_
        simp only [if_pos (show out.length + ([x] : List Int).length < 17592186044416 by simp; omega)]
        exact hv
/-- What the draw of a form that often has a zero gives: the third of three terms may be any. -/
def Good92 (n : Nat) (xs : List Int) : Prop := xs.length ≤ n ∧ (∀ x ∈ xs, x.natAbs ≤ 31) ∧ (formOk xs = true → (∀ x ∈ xs, x ∈ TT) ∨ ∃ a b c, xs = [a, b, c] ∧ a ∈ TT ∧ b ∈ TT ∧ Sm c)
theorem j2_false {b : List Int} {q : Int} {xs : List Int} : Ev (fun k => spec_l92Form.j2 k xs false b q) (xs, q) :=
  Ev.step (f := fun _ => some (xs, q)) (fun k => by simp [spec_l92Form.j2]) (Ev.now _)
theorem form92_end {b : List Int} (hb : BytesB b) {q : Int} (hq : 0 ≤ q) (hQ : q ≤ 999999999999000) {n : Nat} {xs : List Int} (hl : xs.length ≤ n) (hn5 : n ≤ 5) (hx : ∀ x ∈ xs, OneT x) :
    ∃ ys q', Good92 n ys ∧ q ≤ q' ∧ q' ≤ q + 2 ∧ Ev (fun k => spec_l92Form.j1 k xs b q) (ys, q') := by
  have g0 : Good92 n xs := ⟨hl, fun x h => (hx x h).1, fun hk => Or.inl (fun x h => (hx x h).2 ((formOk_iff.1 hk).1 x h))⟩
  by_cases c3 : (xs.length : Int) = 3
  · obtain ⟨v1, h1, g1, e1⟩ := pick_ev hb (p := q) (by omega) (by omega) (n := 2) (by omega)
    have st : ∀ v, Ev (fun k => if v1 = 0 then ((spec_FormValid.f k xs).bind fun t279 => (spec_l92Form.j2 k xs t279 b (q + 1))) else (spec_l92Form.j2 k xs false b (q + 1))) v → Ev (fun k => spec_l92Form.j1 k xs b q) v := by
      intro v hv
      apply Ev.step
      · intro k
        simp only [spec_l92Form.j1, if_pos c3]
        exact rfl
      · exact e1.bind hv
    by_cases c0 : v1 = 0
    · by_cases ck : formOk xs = true
      · obtain ⟨v2, h2, g2, e2⟩ := pick_ev hb (p := q + 1) (by omega) (by omega) (n := 2) (by omega)
        have hk := formOk_iff.1 ck
        obtain ⟨a, bb, c, rfl⟩ : ∃ a b c, xs = [a, b, c] := by
          match xs, c3 with
          | [a, b, c], _ => exact ⟨a, b, c, rfl⟩
          | [], h => simp at h
          | [_], h => simp at h
          | [_, _], h => simp at h
          | _ :: _ :: _ :: _ :: _, h => simp only [List.length_cons] at h; omega
        have ha := hx a (by simp); have hbb := hx bb (by simp)
        have sa := hk.1 a (by simp); have sb := hk.1 bb (by simp)
        have la := sa.2; have lb := sb.2
        have ta := ha.2 sa; have tb := hbb.2 sb
        have hc : v2 = 0 ∨ v2 = 1 := by omega
        have ht : ∃ t : Int, t.natAbs ≤ 90 ∧ wrap64 (wrap64 (-(wrap64 (rd [a, bb, c] 0 * wrap64 (1 + v2)))) - rd [a, bb, c] 1) = t := by
          have r0 : rd [a, bb, c] 0 = a := rfl
          have r1 : rd [a, bb, c] 1 = bb := rfl
          rw [r0, r1]
          rcases hc with rfl | rfl
          · refine ⟨-a - bb, by omega, ?_⟩
            rw [show wrap64 (1 + 0) = 1 from w64 (by omega) (by omega), Int.mul_one]; unfold wrap64; omega
          · refine ⟨-(a * 2) - bb, by omega, ?_⟩
            rw [show wrap64 (1 + 1) = 2 from w64 (by omega) (by omega)]; unfold wrap64; omega
        obtain ⟨t, ht1, ht2⟩ := ht
        have st2 : ∀ v, Ev (fun k => if t = 0 then (some ([a, bb, c], q + 1 + 1)) else ((spec_l1Size.f t).bind fun t284 => (if t284 ≤ 30 then (some (([a, bb, c].set (2 : Int).toNat t), q + 1 + 1)) else (some ([a, bb, c], q + 1 + 1))))) v → Ev (fun k => spec_l92Form.j1 k [a, bb, c] b q) v := by
          intro v hv
          apply st
          simp only [if_pos c0]
          refine (specFormValid_ev (xs := [a, bb, c]) (by simp)).bind ?_
          rw [ck]
          apply Ev.step
          · intro k
            simp only [spec_l92Form.j2, if_true, if_pos (show 0 < (([a, bb, c].length : Nat) : Int) from by simp), if_pos (show 1 < (([a, bb, c].length : Nat) : Int) from by simp), if_pos (show 2 < (([a, bb, c].length : Nat) : Int) from by simp)]
            exact rfl
          · refine e2.bind ?_
            simp only [ht2]
            exact hv
        by_cases t0 : t = 0
        · refine ⟨[a, bb, c], q + 1 + 1, g0, by omega, by omega, st2 _ ?_⟩
          simp only [if_pos t0]; exact Ev.now _
        · by_cases t30 : absI t ≤ 30
          · refine ⟨[a, bb, t], q + 1 + 1, ⟨hl, ?_, fun _ => Or.inr ⟨a, bb, t, rfl, ta, tb, ⟨t0, by unfold absI at t30; omega⟩⟩⟩, by omega, by omega, st2 _ ?_⟩
            · intro x h
              simp only [List.mem_cons, List.not_mem_nil, or_false] at h
              unfold absI at t30
              rcases h with rfl | rfl | rfl <;> omega
            · simp only [if_neg t0, spec_l1Size.f, Option.bind_some, Int.zero_sub, size_ev (n := t) (by omega) (by omega), if_pos t30]
              exact Ev.now _
          · refine ⟨[a, bb, c], q + 1 + 1, g0, by omega, by omega, st2 _ ?_⟩
            simp only [if_neg t0, spec_l1Size.f, Option.bind_some, Int.zero_sub, size_ev (n := t) (by omega) (by omega), if_neg t30]
            exact Ev.now _
      · refine ⟨xs, q + 1, g0, by omega, by omega, st _ ?_⟩
        simp only [if_pos c0]
        refine (specFormValid_ev (xs := xs) (by omega)).bind ?_
        rw [Bool.eq_false_iff.2 ck]
        exact j2_false
    · refine ⟨xs, q + 1, g0, by omega, by omega, st _ ?_⟩
      simp only [if_neg c0]
      exact j2_false
  · refine ⟨xs, q, g0, by omega, by omega, ?_⟩
    refine Ev.step (fun k => ?_) (j2_false (b := b) (q := q) (xs := xs))
    simp only [spec_l92Form.j1, if_neg c3]
theorem form92_l {b : List Int} (hb : BytesB b) (n : Nat) (hn5 : n ≤ 5) : ∀ (d : Nat) (out : List Int) (q : Int), out.length + d = n → 0 < out.length → (∀ x ∈ out, OneT x) → 0 ≤ q → q + 17200000000000 * d ≤ 960000000000000 →
    ∃ ys q', Good92 n ys ∧ q ≤ q' ∧ q' ≤ q + 17200000000000 * d + 2 ∧ Ev (fun k => spec_l92Form.l0 k n out b q) (ys, q') := by
  intro d
  induction d with
  | zero =>
    intro out q hl h0 hx hq hQ
    obtain ⟨ys, q', h1, h2, h3, h4⟩ := form92_end hb hq (by omega) (n := n) (xs := out) (by omega) hn5 hx
    refine ⟨ys, q', h1, h2, by omega, Ev.step (fun k => ?_) h4⟩
    simp only [spec_l92Form.l0, if_neg (show ¬ (out.length : Int) < (n : Int) by omega)]
  | succ d ih =>
    intro out q hl h0 hx hq hQ
    obtain ⟨j, hj, hne⟩ := pick_moves hb (q := q + 3) (by omega) (by omega)
    obtain ⟨x, q1, hx1, h1, h2, h3⟩ := one_more hb (n : Int) out (by omega) (by omega) (by omega) 4294967298000 q hq (by omega) ⟨j, hj, hne⟩
    obtain ⟨ys, q', g1, g2, g3, g4⟩ := ih (out ++ [x]) q1 (by simp; omega) (by simp) (by intro y hy; rcases List.mem_append.1 hy with e | e; exact hx y e; rw [List.mem_singleton.1 e]; exact hx1) (by omega) (by omega)
    exact ⟨ys, q', g1, by omega, by omega, h3 _ g4⟩
theorem form92_draw {b : List Int} (hb : BytesB b) {q : Int} (hq : 0 ≤ q) (n : Nat) (hn1 : 1 ≤ n) (hn5 : n ≤ 4) (hQ : q ≤ 800000000000000) : ∃ ys q', Good92 n ys ∧ q ≤ q' ∧ q' ≤ q + 51700000000000 ∧ Ev (fun k => spec_l92Form.f k b q n) (ys, q') := by
  obtain ⟨xs, q1, e, ⟨rfl, rfl, h⟩ | ⟨x, rfl, hx, h1, h2⟩⟩ := one_form hb (q := q) hq (by omega)
  · obtain ⟨ys, q', h1, h2, h3, h4⟩ := form92_end hb (q := q + 4) (by omega) (by omega) (n := n) (xs := []) (by simp) (by omega) (by simp)
    refine ⟨ys, q', h1, by omega, by omega, ?_⟩
    unfold spec_l92Form.f
    refine e.bind (Ev.step (fun k => ?_) h4)
    simp [spec_l92Form.l0]
  · obtain ⟨d, hd⟩ : ∃ d, n = d + 1 := ⟨n - 1, by omega⟩
    obtain ⟨ys, q', g1, g2, g3, g4⟩ := form92_l hb n (by omega) d [x] q1 (by simp; omega) (by simp) (by intro y hy; rw [List.mem_singleton.1 hy]; exact hx) (by omega) (by omega)
    refine ⟨ys, q', g1, by omega, by omega, ?_⟩
    unfold spec_l92Form.f
    exact e.bind g4


/-! ### roots -/
theorem squareRoot_l (n : Int) (h0 : 0 ≤ n) (hn : n < 4611686018427387904) : ∀ (d : Nat) (x bit : Int) (k : Nat), 0 ≤ x → x * x ≤ n → n < (x + 2 * bit) * (x + 2 * bit) → x + 2 * bit ≤ 2147483648 → bit = 2 ^ d → d + 1 < k →
    impl_squareRoot.l0 k n x bit = some (isq n, isq n * isq n == n) := by
  intro d
  have stop : ∀ (x : Int) (k : Nat), 0 ≤ x → x * x ≤ n → n < (x + 1) * (x + 1) → 0 < k → impl_squareRoot.l0 k n x 0 = some (isq n, isq n * isq n == n) := by
    intro x k hx hl hg hk
    obtain ⟨k, rfl⟩ : ∃ m, k = m + 1 := ⟨k - 1, by omega⟩
    simp only [impl_squareRoot.l0]
    have hb : x < 2147483648 := by
      rcases Int.lt_or_le x 2147483648 with h | h
      · exact h
      · have := sq_le (by omega) h; omega
    have hm : wrap64 (x * x) = x * x := w64' (sq_nonneg x) (by omega)
    rw [if_neg (by omega), hm, isq_unique hx hl hg]
  induction d with
  | zero =>
    intro x bit k hx hl hg hB hb hk
    obtain ⟨k, rfl⟩ : ∃ m, k = m + 1 := ⟨k - 1, by omega⟩
    obtain rfl : bit = 1 := by simpa using hb
    simp only [impl_squareRoot.l0]
    have hs := sq_le (a := x + 1) (b := 2147483648) (by omega) (by omega)
    rw [if_pos (by omega), w64 (x := x + 1) (by omega) (by omega), w64' (x := (x + 1) * (x + 1)) (sq_nonneg _) (by omega)]
    have e : wrap64 (Int.tdiv 1 2) = 0 := by decide +kernel
    rw [e]
    by_cases c : (x + 1) * (x + 1) ≤ n
    · rw [if_pos c]
      exact stop _ _ (by omega) c (by rw [show x + 1 + 1 = x + 2 * 1 from by omega]; exact hg) (by omega)
    · rw [if_neg c]
      exact stop _ _ hx hl (by omega) (by omega)
  | succ d ih =>
    intro x bit k hx hl hg hB hb hk
    obtain ⟨k, rfl⟩ : ∃ m, k = m + 1 := ⟨k - 1, by omega⟩
    have hp : (0 : Int) < 2 ^ d := Int.pow_pos (by omega)
    obtain ⟨c2, hc2⟩ : ∃ c2 : Int, c2 = 2 ^ d := ⟨_, rfl⟩
    have hb2 : bit = 2 * c2 := by rw [hb, Int.pow_succ, hc2]; omega
    subst hb2
    simp only [impl_squareRoot.l0]
    have hs := sq_le (a := x + 2 * c2) (b := 2147483648) (by omega) (by omega)
    have e : wrap64 (Int.tdiv (2 * c2) 2) = c2 := by rw [tdiv2 (by omega), w64 (by omega) (by omega)]; omega
    rw [if_pos (by omega), w64 (x := x + 2 * c2) (by omega) (by omega), w64' (x := (x + 2 * c2) * (x + 2 * c2)) (sq_nonneg _) (by omega), e]
    by_cases c : (x + 2 * c2) * (x + 2 * c2) ≤ n
    · rw [if_pos c]
      exact ih _ _ _ (by omega) c (by rw [show x + 2 * c2 + 2 * c2 = x + 2 * (2 * c2) from by omega]; exact hg) (by omega) hc2 (by omega)
    · rw [if_neg c]
      exact ih _ _ _ hx hl (by omega) (by omega) hc2 (by omega)
theorem squareRoot (n : Int) (h0 : 0 ≤ n) (hn : n < 4611686018427387904) (k : Nat) (hk : 31 < k) : impl_squareRoot.f k n = some (isq n, isq n * isq n == n) := by
  unfold impl_squareRoot.f
  rw [if_neg (by omega)]
  exact squareRoot_l n h0 hn 30 0 1073741824 k (by omega) (by omega) (by omega) (by omega) (by decide) (by omega)
theorem squareRoot_ev (n : Int) (h0 : 0 ≤ n) (hn : n < 4611686018427387904) : Ev (fun k => impl_squareRoot.f k n) (isq n, isq n * isq n == n) := ⟨32, fun k hk => squareRoot n h0 hn k (by omega)⟩


/-! ### what divides all; plain vectors -/
theorem gI_step {a n : Int} : gI a n = gI n (a.tmod n) := by
  have e := Int.mul_tdiv_add_tmod a n
  refine dvd_anti (gI_nonneg _ _) (gI_nonneg _ _) (dvd_gI (gI_dvd a n).2 ?_) (dvd_gI ?_ (gI_dvd n _).1)
  · have h1 := (gI_dvd a n).1
    have h2 : gI a n ∣ n * a.tdiv n := Int.dvd_trans (gI_dvd a n).2 (Int.dvd_mul_right _ _)
    have h3 := Int.dvd_sub h1 h2
    rw [show a - n * a.tdiv n = a.tmod n by omega] at h3
    exact h3
  · have h1 := (gI_dvd n (a.tmod n)).2
    have h2 : gI n (a.tmod n) ∣ n * a.tdiv n := Int.dvd_trans (gI_dvd n (a.tmod n)).1 (Int.dvd_mul_right _ _)
    have h3 := Int.dvd_add h2 h1
    rw [e] at h3
    exact h3
theorem gI_abs (a b : Int) : gI a (absI b) = gI a b := by unfold gI absI; simp [Int.gcd]
theorem gI_abs2 (a b : Int) : gI (absI a) b = gI a b := by rw [gI_comm, gI_abs, gI_comm]
theorem gI_zero {a : Int} (h : 0 ≤ a) : gI a 0 = a := by unfold gI; rw [Int.gcd_zero_right]; omega
theorem tmod_bd {a n : Int} (ha : 0 ≤ a) (hn : 0 < n) : 0 ≤ a.tmod n ∧ a.tmod n < n := ⟨Int.tmod_nonneg n ha, by rw [Int.tmod_eq_emod_of_nonneg ha]; exact Int.emod_lt_of_pos a hn⟩
theorem gcdIn_l (xs : List Int) (j : Nat) (hj : j < 1000000) (v : Int) : ∀ (d : Nat) (a n : Int), 0 ≤ a → 0 ≤ n → n.toNat ≤ d →
    Ev (fun k => impl_gcd.l0 k (gI a n) xs (xs.length : Int) ((j + 1 : Nat) : Int)) v → Ev (fun k => impl_gcd.l1 k a n xs (xs.length : Int) j) v := by
  intro d
  induction d with
  | zero =>
    intro a n ha hn hd hv
    obtain rfl : n = 0 := by omega
    rw [gI_zero ha] at hv
    refine Ev.step (fun k => ?_) hv
    simp only [impl_gcd.l1]
    rw [if_pos trivial, w64 (x := (j : Int) + 1) (by omega) (by omega)]
    rfl
  | succ d ih =>
    intro a n ha hn hd hv
    by_cases c : n = 0
    · subst c
      rw [gI_zero ha] at hv
      refine Ev.step (fun k => ?_) hv
      simp only [impl_gcd.l1]
      rw [if_pos trivial, w64 (x := (j : Int) + 1) (by omega) (by omega)]
      rfl
    · have hb := tmod_bd ha (show 0 < n by omega)
      rw [gI_step] at hv
      refine Ev.step (fun k => ?_) (ih n (a.tmod n) hn hb.1 (by omega) hv)
      simp only [impl_gcd.l1]
      rw [if_neg c]
theorem gcd_l (xs : List Int) (hx : ∀ x ∈ xs, x.natAbs ≤ 4000000000000000000) (hl : xs.length ≤ 100000) : ∀ (d j : Nat) (g : Int), j + d = xs.length → 0 ≤ g →
    Ev (fun k => impl_gcd.l0 k g xs (xs.length : Int) j) (gcdL (xs.drop j) g) := by
  intro d
  induction d with
  | zero =>
    intro j g hj hg
    rw [List.drop_of_length_le (by omega)]
    refine Ev.step (f := fun _ => some g) (fun k => ?_) (Ev.now _)
    simp only [impl_gcd.l0]
    rw [if_neg (by omega)]
  | succ d ih =>
    intro j g hj hg
    rw [rd_drop (show j < xs.length by omega)]
    have hm := hx _ (rd_mem (xs := xs) (j := j) (by omega))
    refine Ev.step (f := fun k => impl_gcd.l1 k g (absI (rd xs (j : Int))) xs (xs.length : Int) j) (fun k => ?_) ?_
    · simp only [impl_gcd.l0]
      rw [if_pos (by omega), if_pos (by omega), if_pos (by omega)]
      simp only [impl_size.f, Option.bind_some]
      rw [size_ev (n := rd xs (j : Int)) (by omega) (by omega)]
    · refine gcdIn_l xs j (by omega) _ (absI (rd xs (j : Int))).toNat g (absI (rd xs (j : Int))) hg (absI_bd _) (by omega) ?_
      rw [gI_abs]
      exact ih (j + 1) (gI g (rd xs (j : Int))) (by omega) (gI_nonneg _ _)
theorem gcd_ev (xs : List Int) (hx : ∀ x ∈ xs, x.natAbs ≤ 4000000000000000000) (hl : xs.length ≤ 100000) : Ev (fun k => impl_gcd.f k xs) (gcdF xs) := by
  unfold impl_gcd.f
  have := gcd_l xs hx hl xs.length 0 0 (by omega) (by omega)
  rw [List.drop_zero] at this
  exact this

theorem wr_tdiv {x d : Int} (h : x.natAbs ≤ 4000000000000000000) : wrap64 (x.tdiv d) = x.tdiv d := by
  have := tdiv_small (x := x) (d := d)
  exact w64 (by omega) (by omega)
theorem plain1_l {d : Int} (hd : d ≠ 0) (xs : List Int) (hx : ∀ x ∈ xs, x.natAbs ≤ 4000000000000000000) (hl : xs.length ≤ 100000) : ∀ (m j : Nat) (out : List Int), j + m = xs.length → out.length ≤ 5000 + j →
    Ev (fun k => impl_plain.l1 k d out xs (xs.length : Int) j) (out ++ (xs.drop j).map fun x => x.tdiv d) := by
  intro m
  induction m with
  | zero =>
    intro j out hj ho
    rw [List.drop_of_length_le (by omega)]
    refine Ev.step (f := fun _ => some out) (fun k => ?_) (by simpa using Ev.now _)
    simp only [impl_plain.l1]
    rw [if_neg (by omega)]
  | succ m ih =>
    intro j out hj ho
    rw [rd_drop (show j < xs.length by omega), List.map_cons]
    have hm := hx _ (rd_mem (xs := xs) (j := j) (by omega))
    have h2 := ih (j + 1) (out ++ [(rd xs (j : Int)).tdiv d]) (by omega) (by simp; omega)
    rw [List.append_assoc] at h2
    refine Ev.step (fun k => ?_) h2
    simp only [impl_plain.l1]
    rw [if_pos (by omega), if_pos (by omega), if_pos (by omega), if_neg hd, if_pos (by omega), wr_tdiv hm, w64 (x := (j : Int) + 1) (by omega) (by omega)]
    rfl
theorem plain0_l (xs : List Int) (hx : ∀ x ∈ xs, x.natAbs ≤ 4000000000000000000) (hl : xs.length ≤ 100000) (g : Int) (hg : 0 ≤ g) (hG : g ≤ 4000000000000000000) (v : List Int) : ∀ (m j : Nat), j + m = xs.length →
    Ev (fun k => impl_plain.j1 k xs (signF (xs.drop j) g)) v → Ev (fun k => impl_plain.l0 k xs g xs (xs.length : Int) j) v := by
  intro m
  induction m with
  | zero =>
    intro j hj hv
    rw [List.drop_of_length_le (by omega)] at hv
    refine Ev.step (fun k => ?_) hv
    simp only [impl_plain.l0, signF]
    rw [if_neg (by omega)]
  | succ m ih =>
    intro j hj hv
    rw [rd_drop (show j < xs.length by omega)] at hv
    simp only [signF] at hv
    by_cases c : rd xs (j : Int) = 0
    · rw [if_pos c] at hv
      refine Ev.step (fun k => ?_) (ih (j + 1) (by omega) hv)
      simp only [impl_plain.l0]
      rw [if_pos (by omega), if_pos (by omega), if_pos (by omega), if_pos c, w64 (x := (j : Int) + 1) (by omega) (by omega)]
      rfl
    · rw [if_neg c] at hv
      refine Ev.step (fun k => ?_) hv
      simp only [impl_plain.l0]
      rw [if_pos (by omega), if_pos (by omega), if_pos (by omega), if_neg c]
      by_cases c2 : rd xs (j : Int) < 0
      · rw [if_pos c2, if_pos c2, w64 (x := -g) (by omega) (by omega)]
      · rw [if_neg c2, if_neg c2]
theorem gcdF_bd {xs : List Int} {M : Nat} (h : ∃ x ∈ xs, x ≠ 0) (hx : ∀ x ∈ xs, x.natAbs ≤ M) : gcdF xs ≤ M := by
  obtain ⟨x, hm, h0⟩ := h
  have h1 := (gcdF_spec xs).2.1 x hm
  have h2 := Nat.le_of_dvd (by omega) (Int.natAbs_dvd_natAbs.2 h1)
  have h3 := hx x hm
  have := (gcdF_spec xs).1
  omega
theorem plain_ev {xs : List Int} (h : ∃ x ∈ xs, x ≠ 0) (hx : ∀ x ∈ xs, x.natAbs ≤ 4000000000000000000) (hl : xs.length ≤ 100000) : Ev (fun k => impl_plain.f k xs) (plainF xs) := by
  unfold impl_plain.f
  refine (gcd_ev xs hx hl).bind ?_
  refine plain0_l xs hx hl _ (gcdF_spec xs).1 (by have := gcdF_bd h hx; omega) _ xs.length 0 (by omega) ?_
  rw [List.drop_zero]
  refine Ev.step (f := fun k => impl_plain.l1 k (signF xs (gcdF xs)) [] xs (xs.length : Int) (0 : Nat)) (fun k => by simp only [impl_plain.j1]; rfl) ?_
  have := plain1_l (signF_ne h) xs hx hl xs.length 0 [] (by omega) (by simp)
  rw [List.drop_zero, List.nil_append] at this
  exact this
/-! ### normal terms -/
theorem Ev_eq {α : Type} {f g : Nat → Option α} {v : α} (h : ∀ k, f k = g k) (hg : Ev g v) : Ev f v := by
  have : f = g := funext h
  rw [this]; exact hg
def shP (a b c : Int) : Int × Int × Int := if 1 < gI a b then (0, 1, minP (gI a b)) else if 1 < gI a c then (0, 2, minP (gI a c)) else if 1 < gI b c then (1, 2, minP (gI b c)) else (0, 0, 0)
theorem gcdF_two (a b : Int) : gcdF [a, b] = gI a b := by
  unfold gcdF
  simp only [gcdL]
  have : gI 0 a = absI a := by unfold gI absI; rw [Int.gcd_zero_left]
  rw [this, gI_abs2]
theorem primes_pos {d : Int} (h : 1 < d) (hN : d.natAbs < 2 ^ 63) : 0 < (primes d).length := (minP_spec h hN).2.2
theorem shAt_ev {l0 : List Int} {p q a b : Int} {next : Nat → Option (Int × Int × Int)} {v : Int × Int × Int} (hp : rd l0 p = a) (hq : rd l0 q = b) (ha : a ≠ 0) (hA : a.natAbs ≤ 1000000000) (hB : b.natAbs ≤ 1000000000)
    (hn : ¬ 1 < gI a b → Ev next v) (hv : 1 < gI a b → v = (p, q, minP (gI a b))) : Ev (fun k => shAt l0 k p q (next k)) v := by
  unfold shAt
  rw [hp, hq]
  refine (gcd_ev [a, b] (by intro x hx; simp at hx; rcases hx with rfl | rfl <;> omega) (by simp)).bind ?_
  rw [gcdF_two]
  have h1 := gI_le (b := b) ha
  have h2 := gI_nonneg a b
  by_cases c : 1 < gI a b
  · refine Ev_eq (g := fun k => (impl_primesOf.f k (gI a b)).bind fun ps => if 0 < ps.length then some (p, q, rd ps 0) else none) (fun k => if_pos c) ?_
    refine (primesOf_ev (n := gI a b) (by omega) (by omega)).bind ?_
    refine Ev_eq (g := fun _ => some (p, q, rd (primes (gI a b)) 0)) (fun k => if_pos (primes_pos c (by omega))) ?_
    rw [hv c]; exact Ev.now _
  · exact Ev_eq (fun k => if_neg c) (hn c)
theorem shared_ev {a b c : Int} (ha : a ≠ 0) (hb : b ≠ 0) (hA : a.natAbs ≤ 1000000000) (hB : b.natAbs ≤ 1000000000) (hC : c.natAbs ≤ 1000000000) : Ev (fun k => impl_sharedPrime.f k [a, b, c]) (shP a b c) := by
  refine Ev_eq (g := fun k => shAt [a, b, c] k 0 1 (shAt [a, b, c] k 0 2 (shAt [a, b, c] k 1 2 (some (0, 0, 0))))) (fun k => by unfold impl_sharedPrime.f shF; exact if_pos (by simp)) ?_
  unfold shP
  refine shAt_ev (a := a) (b := b) rfl rfl ha hA hB (fun h1 => ?_) (fun h1 => if_pos h1)
  rw [if_neg h1]
  refine shAt_ev (a := a) (b := c) rfl rfl ha hA hC (fun h2 => ?_) (fun h2 => if_pos h2)
  rw [if_neg h2]
  refine shAt_ev (a := b) (b := c) rfl rfl hb hB hC (fun h3 => ?_) (fun h3 => if_pos h3)
  rw [if_neg h3]
  exact Ev.now _
theorem rd0 (a b c : Int) : rd [a, b, c] 0 = a := rfl
theorem rd1 (a b c : Int) : rd [a, b, c] 1 = b := rfl
theorem rd2 (a b c : Int) : rd [a, b, c] 2 = c := rfl
theorem st0 (a b c v : Int) : [a, b, c].set ((0 : Int)).toNat v = [v, b, c] := rfl
theorem st1 (a b c v : Int) : [a, b, c].set ((1 : Int)).toNat v = [a, v, c] := rfl
theorem st2 (a b c v : Int) : [a, b, c].set ((2 : Int)).toNat v = [a, b, v] := rfl
def outN3 (s : T6) : List Int × List Int × Bool := ([s.1.1, s.1.2.1, s.1.2.2], [s.2.1, s.2.2.1, s.2.2.2], true)
theorem ni_small {A B C l a b c x y z : Int} {M : Nat} (h : NI A B C M l a b c x y z) (hM : M ≤ 1000000000) : a.natAbs ≤ 1000000000 ∧ b.natAbs ≤ 1000000000 ∧ c.natAbs ≤ 1000000000 ∧ x ≤ 40000 ∧ y ≤ 40000 ∧ z ≤ 40000 := by
  have h1 := h.bd
  have h2 := h.turn.bd
  have h3 := h.back.bd
  have lt : ∀ {t : Int}, 1 ≤ t → t * t ≤ (M : Int) → t ≤ 40000 := fun {t} p q => by have := lt_of_sq (a := t) (b := 40001) (by omega) (by omega); omega
  exact ⟨by omega, by omega, by omega, lt h.hx h1.2.1, lt h.hy h2.2.1, lt h.hz h3.2.1⟩
theorem w_tdiv {a p : Int} (h : a.natAbs ≤ 1000000000) : wrap64 (a.tdiv p) = a.tdiv p := wr_tdiv (by omega)
theorem normal1_l {A B C : Int} {M : Nat} (hM : M ≤ 1000000000) : ∀ (m : Nat) (l a b c x y z : Int), NI A B C M l a b c x y z → (a * b * c).natAbs < 2 ^ m →
    Ev (fun k => impl_ZeroNormal.l1 k [a, b, c] [x, y, z]) (outN3 (nrm m a b c x y z)) := by
  intro m
  induction m with
  | zero =>
    intro l a b c x y z h hk
    have := Int.mul_ne_zero (Int.mul_ne_zero h.sa.1 h.sb.1) h.sc.1
    omega
  | succ m ih =>
    intro l a b c x y z h hk
    rw [Nat.pow_succ] at hk
    obtain ⟨b1, b2, b3, b4, b5, b6⟩ := ni_small h hM
    apply Ev.step
    · intro k
      simp only [impl_ZeroNormal.l1]
      rfl
    refine (shared_ev h.sa.1 h.sb.1 b1 b2 b3).bind ?_
    simp only [nrm]
    by_cases g1 : 1 < gI a b
    · simp only [shP, if_pos g1]
      obtain ⟨pp, pa, pb, _⟩ := gp h (by omega) g1
      have p2 := pp.1
      generalize minP (gI a b) = p at *
      have e3 : wrap64 (wrap64 (3 - 0) - 1) = 2 := by decide +kernel
      by_cases c1 : c.tmod p = 0
      · simp only [if_pos c1]
        obtain ⟨h1, h2⟩ := h.div3 pp pa pb (dvd_tmod.1 c1)
        refine Ev_eq (fun k => ?_) (ih _ _ _ _ _ _ _ h1 (by omega))
        rw [if_neg (by omega), if_pos (by omega), if_pos (by simp), Option.bind_some, if_pos (by omega), if_pos (by simp), Option.bind_some, e3, if_pos (by omega), if_pos (by simp)]
        simp only [rd0, rd1, rd2, st0, st1, st2, w_tdiv b1, w_tdiv b2, w_tdiv b3]
        rw [if_pos c1]
      · simp only [if_neg c1]
        obtain ⟨h1, h2⟩ := h.div2 pp pa pb (fun e => c1 (dvd_tmod.2 e))
        obtain ⟨s1, s2, s3, s4, s5, s6⟩ := ni_small h1 hM
        refine Ev_eq (fun k => ?_) (ih _ _ _ _ _ _ _ h1 (by omega))
        rw [if_neg (by omega), if_pos (by omega), if_pos (by simp), Option.bind_some, if_pos (by omega), if_pos (by simp), Option.bind_some, e3, if_pos (by omega), if_pos (by simp)]
        have hz := h1.hz
        simp only [rd0, rd1, rd2, st0, st1, st2, w_tdiv b1, w_tdiv b2]
        rw [if_neg c1, if_pos (by simp), w64 (x := c * p) (by omega) (by omega), w64 (x := z * p) (by omega) (by omega)]
    · simp only [shP, if_neg g1]
      by_cases g2 : 1 < gI a c
      · simp only [if_pos g2]
        obtain ⟨pp, pa, pb, _⟩ := gp h.swap (by omega) g2
        have p2 := pp.1
        generalize minP (gI a c) = p at *
        have e3 : wrap64 (wrap64 (3 - 0) - 2) = 1 := by decide +kernel
        by_cases c1 : b.tmod p = 0
        · simp only [if_pos c1]
          obtain ⟨h1, h2⟩ := h.div3 pp pa (dvd_tmod.1 c1) pb
          refine Ev_eq (fun k => ?_) (ih _ _ _ _ _ _ _ h1 (by omega))
          rw [if_neg (by omega), if_pos (by omega), if_pos (by simp), Option.bind_some, if_pos (by omega), if_pos (by simp), Option.bind_some, e3, if_pos (by omega), if_pos (by simp)]
          simp only [rd0, rd1, rd2, st0, st1, st2, w_tdiv b1, w_tdiv b2, w_tdiv b3]
          rw [if_pos c1]
        · simp only [if_neg c1]
          obtain ⟨h1, h2⟩ := h.swap.div2 pp pa pb (fun e => c1 (dvd_tmod.2 e))
          obtain ⟨s1, s2, s3, s4, s5, s6⟩ := ni_small h1 hM
          refine Ev_eq (fun k => ?_) (ih _ _ _ _ _ _ _ h1.swap ?_)
          · rw [if_neg (by omega), if_pos (by omega), if_pos (by simp), Option.bind_some, if_pos (by omega), if_pos (by simp), Option.bind_some, e3, if_pos (by omega), if_pos (by simp)]
            have hz := h1.hz
            simp only [rd0, rd1, rd2, st0, st1, st2, w_tdiv b1, w_tdiv b3]
            rw [if_neg c1, if_pos (by simp), w64 (x := b * p) (by omega) (by omega), w64 (x := y * p) (by omega) (by omega)]
          · rw [show a.tdiv p * (b * p) * c.tdiv p = a.tdiv p * c.tdiv p * (b * p) by grind]
            rw [show a * c * b = a * b * c by grind] at h2
            omega
      · simp only [if_neg g2]
        by_cases g3 : 1 < gI b c
        · simp only [if_pos g3]
          obtain ⟨pp, pa, pb, _⟩ := gp h.turn (by omega) g3
          have p2 := pp.1
          generalize minP (gI b c) = p at *
          have e3 : wrap64 (wrap64 (3 - 1) - 2) = 0 := by decide +kernel
          by_cases c1 : a.tmod p = 0
          · simp only [if_pos c1]
            obtain ⟨h1, h2⟩ := h.div3 pp (dvd_tmod.1 c1) pa pb
            refine Ev_eq (fun k => ?_) (ih _ _ _ _ _ _ _ h1 (by omega))
            rw [if_neg (by omega), if_pos (by omega), if_pos (by simp), Option.bind_some, if_pos (by omega), if_pos (by simp), Option.bind_some, e3, if_pos (by omega), if_pos (by simp)]
            simp only [rd0, rd1, rd2, st0, st1, st2, w_tdiv b1, w_tdiv b2, w_tdiv b3]
            rw [if_pos c1]
          · simp only [if_neg c1]
            obtain ⟨h1, h2⟩ := h.turn.div2 pp pa pb (fun e => c1 (dvd_tmod.2 e))
            obtain ⟨s1, s2, s3, s4, s5, s6⟩ := ni_small h1 hM
            refine Ev_eq (fun k => ?_) (ih _ _ _ _ _ _ _ h1.back ?_)
            · rw [if_neg (by omega), if_pos (by omega), if_pos (by simp), Option.bind_some, if_pos (by omega), if_pos (by simp), Option.bind_some, e3, if_pos (by omega), if_pos (by simp)]
              have hz := h1.hz
              simp only [rd0, rd1, rd2, st0, st1, st2, w_tdiv b2, w_tdiv b3]
              rw [if_neg c1, if_pos (by simp), w64 (x := a * p) (by omega) (by omega), w64 (x := x * p) (by omega) (by omega)]
            · rw [show a * p * b.tdiv p * c.tdiv p = b.tdiv p * c.tdiv p * (a * p) by grind]
              rw [show b * c * a = a * b * c by grind] at h2
              omega
        · simp only [if_neg g3]
          refine Ev_eq (g := fun _ => some ([a, b, c], [x, y, z], true)) (fun k => if_pos trivial) (Ev.now _)


theorem sm_core {a : Int} (h : Sm a) : 1 ≤ (coreF a).2 ∧ (coreF a).2 ≤ 5 ∧ (coreF a).1 ≠ 0 ∧ (coreF a).1.natAbs ≤ 30 := by
  have h1 := coreF_is h.1 (by have := h.2; omega)
  have h2 := core_le h1
  have := h.2
  refine ⟨h1.2.1, ?_, h1.2.2.1, by omega⟩
  rw [← Int.natAbs_mul] at h2
  have := sq_nonneg (coreF a).2
  have := lt_of_sq (a := (coreF a).2) (b := 6) (by omega) (by omega); omega
theorem rr {r s : Int} (h : 1 ≤ r ∧ r ≤ 5) (h' : 1 ≤ s ∧ s ≤ 5) : wrap64 (wrap64 (1 * r) * s) = r * s := by
  rw [Int.one_mul, w64 (x := r) (by omega) (by omega)]
  have := mul_le2 (show 0 ≤ r by omega) h.2 (show 0 ≤ s by omega) h'.2
  have := Int.mul_nonneg (show 0 ≤ r by omega) (show 0 ≤ s by omega)
  exact w64 (by omega) (by omega)
theorem bd3_le {a b c : Int} (ha : Sm a) (hb : Sm b) (hc : Sm c) : bd3 a b c ≤ 27000 := by
  unfold bd3
  rw [Int.natAbs_mul, Int.natAbs_mul]
  have := Nat.mul_le_mul (Nat.mul_le_mul ha.2 hb.2) hc.2
  omega
theorem implNormal_ev {a b c : Int} (ha : Sm a) (hb : Sm b) (hc : Sm c) : Ev (fun k => impl_ZeroNormal.f k [a, b, c]) (outN3 (nrm3 a b c)) := by
  have hs : ∀ x ∈ [a, b, c], Sm x := by intro x hx; simp at hx; rcases hx with rfl | rfl | rfl <;> assumption
  have hf : formOk [a, b, c] = true := formOk_iff.2 ⟨hs, by simp, by simp⟩
  unfold impl_ZeroNormal.f
  refine (implFormValid_ev (xs := [a, b, c]) (fun x hx => by have := (hs x hx).2; omega) (by simp)).bind ?_
  rw [hf]
  refine Ev_eq (g := fun k => impl_ZeroNormal.j0 k [a, b, c] false) (fun k => if_pos rfl) ?_
  refine Ev.step (f := fun k => impl_ZeroNormal.l0 k [a, b, c] [1, 1, 1] [a, b, c] 3 0) (fun k => ?_) ?_
  · simp only [impl_ZeroNormal.j0]
    rw [if_neg (by simp)]
    unfold slices_Clone_int_int.f
    rw [if_pos (by simp), Option.bind_some]
    rfl
  obtain ⟨a1, a2, a3, a4⟩ := sm_core ha
  obtain ⟨b1, b2, b3, b4⟩ := sm_core hb
  obtain ⟨c1, c2, c3, c4⟩ := sm_core hc
  have bound := bd3_le ha hb hc
  obtain ⟨l, hni⟩ := core_ni ha.1 hb.1 hc.1 (by omega)
  have fin := normal1_l (by omega) 62 _ _ _ _ _ _ _ hni (by have := hni.bd.2.2.1; omega)
  have A := implCore_ev ha.1 (by have := ha.2; omega)
  have B := implCore_ev hb.1 (by have := hb.2; omega)
  have C := implCore_ev hc.1 (by have := hc.2; omega)
  have m1 : (wrap64 (0 + 1)).tmod 3 = 1 := by decide +kernel
  have m2 : (wrap64 (0 + 2)).tmod 3 = 2 := by decide +kernel
  have m3 : (wrap64 (1 + 1)).tmod 3 = 2 := by decide +kernel
  have m4 : (wrap64 (1 + 2)).tmod 3 = 0 := by decide +kernel
  have m5 : (wrap64 (2 + 1)).tmod 3 = 0 := by decide +kernel
  have m6 : (wrap64 (2 + 2)).tmod 3 = 1 := by decide +kernel
  have w1 : wrap64 (0 + 1) = 1 := by decide +kernel
  have w2 : wrap64 (1 + 1) = 2 := by decide +kernel
  have w3 : wrap64 (2 + 1) = 3 := by decide +kernel
  unfold nrm3 
  generalize coreF a = ca at *
  generalize coreF b = cb at *
  generalize coreF c = cc at *
  apply Ev.step
  · intro k
    simp only [impl_ZeroNormal.l0]
    rw [if_pos (by omega), if_pos (by omega), if_pos (by simp), rd0]
  refine A.bind ?_
  refine Ev_eq (g := fun k => impl_ZeroNormal.l0 k [ca.1, b, c] [1, wrap64 (1 * ca.2), wrap64 (1 * ca.2)] [a, b, c] 3 1) (fun k => ?_) ?_
  · rw [if_pos (by simp), m1, if_pos (by omega), if_pos (by simp), Option.bind_some, m2, if_pos (by omega), if_pos (by simp), w1]
    rfl
  apply Ev.step
  · intro k
    simp only [impl_ZeroNormal.l0]
    rw [if_pos (by omega), if_pos (by omega), if_pos (by simp), rd1]
  refine B.bind ?_
  refine Ev_eq (g := fun k => impl_ZeroNormal.l0 k [ca.1, cb.1, c] [wrap64 (1 * cb.2), wrap64 (1 * ca.2), ca.2 * cb.2] [a, b, c] 3 2) (fun k => ?_) ?_
  · rw [if_pos (by simp), m3, if_pos (by omega), if_pos (by simp), Option.bind_some, m4, if_pos (by omega), if_pos (by simp), w2]
    have := rr ⟨a1, a2⟩ ⟨b1, b2⟩
    rw [← this]
    rfl
  apply Ev.step
  · intro k
    simp only [impl_ZeroNormal.l0]
    rw [if_pos (by omega), if_pos (by omega), if_pos (by simp), rd2]
  refine C.bind ?_
  refine Ev_eq (g := fun k => impl_ZeroNormal.l0 k [ca.1, cb.1, cc.1] [cb.2 * cc.2, ca.2 * cc.2, ca.2 * cb.2] [a, b, c] 3 3) (fun k => ?_) ?_
  · rw [if_pos (by simp), m5, if_pos (by omega), if_pos (by simp), Option.bind_some, m6, if_pos (by omega), if_pos (by simp), w3]
    rw [← rr ⟨b1, b2⟩ ⟨c1, c2⟩, ← rr ⟨a1, a2⟩ ⟨c1, c2⟩]
    rfl
  refine Ev.step (fun k => ?_) fin
  simp only [impl_ZeroNormal.l0]
  rw [if_neg (by omega)]

/-! ### the search -/
def orS (w : List Int × Bool) : Option (List Int) → List Int × Bool
  | some v => (v, true)
  | none => w
def resS (o : Option (List Int)) : List Int × Bool := match o with | some v => (v, true) | none => ([], false)
structure SB (a b c : Int) : Prop where
  ha : a.natAbs ≤ 27000
  hb : b.natAbs ≤ 27000
  hc : c.natAbs ≤ 27000
  h0 : c ≠ 0
  hbc : (b * c).natAbs ≤ 27000
  hac : (a * c).natAbs ≤ 27000
theorem mul_bd {a x : Int} {A X : Nat} (h : a.natAbs ≤ A) (h' : x.natAbs ≤ X) : (a * x).natAbs ≤ A * X := by rw [Int.natAbs_mul]; exact Nat.mul_le_mul h h'
theorem nmr_bd {a b c x y : Int} (h : SB a b c) (hx : 0 ≤ x) (hx2 : x ≤ 200) (hy : 0 ≤ y) (hy2 : y ≤ 200) :
    wrap64 (wrap64 (wrap64 (wrap64 (-a) * x) * x) - wrap64 (wrap64 (b * y) * y)) = nmr a b x y ∧ wrap64 (wrap64 (-(wrap64 (wrap64 (a * x) * x))) - wrap64 (wrap64 (b * y) * y)) = nmr a b x y ∧ (nmr a b x y).natAbs ≤ 3000000000 := by
  have ha := h.ha
  have hb := h.hb
  have e1 := mul_bd (a := -a) (x := x) (A := 27000) (X := 200) (by omega) (by omega)
  have e2 := mul_bd (a := -a * x) (x := x) (A := 5400000) (X := 200) (by omega) (by omega)
  have e3 := mul_bd (a := b) (x := y) (A := 27000) (X := 200) (by omega) (by omega)
  have e4 := mul_bd (a := b * y) (x := y) (A := 5400000) (X := 200) (by omega) (by omega)
  have e5 := mul_bd (a := a) (x := x) (A := 27000) (X := 200) (by omega) (by omega)
  have e6 := mul_bd (a := a * x) (x := x) (A := 5400000) (X := 200) (by omega) (by omega)
  unfold nmr
  refine ⟨?_, ?_, by omega⟩
  · rw [w64 (x := -a) (by omega) (by omega), w64 (x := -a * x) (by omega) (by omega), w64 (x := -a * x * x) (by omega) (by omega), w64 (x := b * y) (by omega) (by omega), w64 (x := b * y * y) (by omega) (by omega), w64 (by omega) (by omega)]
  · rw [w64 (x := a * x) (by omega) (by omega), w64 (x := a * x * x) (by omega) (by omega), w64 (x := -(a * x * x)) (by omega) (by omega), w64 (x := b * y) (by omega) (by omega), w64 (x := b * y * y) (by omega) (by omega)]
    have : -a * x * x = -(a * x * x) := by grind
    rw [this]
    rw [this] at e2
    rw [w64 (by omega) (by omega)]
theorem absI_abs {n : Int} (h : n.natAbs ≤ 27000) : mx n (wrap64 (-n)) = absI n := size_ev (by omega) (by omega)
theorem nmr_zero (a b : Int) : nmr a b 0 0 = 0 := by unfold nmr; grind
theorem isq_zero : isq 0 = 0 := isq_unique (by omega) (by omega) (by omega)
theorem implSearchY {a b c x : Int} (h : SB a b c) (hx : 0 ≤ x) (hx2 : x ≤ 200) {w : List Int × Bool} (hw : Ev (fun k => impl_ZeroSearch.l1 k a b c (x + 1)) w) : ∀ (n : Nat) (y : Int), 0 ≤ y → y + n = 200 →
    Ev (fun k => impl_ZeroSearch.l2 k a b c x y) (orS w (sY a b c x n y)) := by
  have hac := h.hac
  have start : ∀ (y : Int), impl_size.f (wrap64 (a * c)) = some (absI (a * c)) := fun y => by
    rw [w64 (x := a * c) (by omega) (by omega)]; simp only [impl_size.f]; rw [absI_abs hac]
  intro n
  induction n with
  | zero =>
    intro y hy hn
    simp only [sY]
    obtain rfl : y = 200 := by omega
    refine Ev.step (fun k => ?_) hw
    simp only [impl_ZeroSearch.l2]
    rw [start 0, Option.bind_some, w64 (x := (200 : Int) * 200) (by omega) (by omega), if_neg (by unfold absI; omega), w64 (x := x + 1) (by omega) (by omega)]
  | succ n ih =>
    intro y hy hn
    simp only [sY]
    have hyy : y * y ≤ 200 * 200 := mul_le2 hy (by omega) hy (by omega)
    have hy0 := sq_nonneg y
    by_cases c0 : y * y ≤ absI (a * c)
    · rw [if_pos c0]
      have next := ih (y + 1) (by omega) (by omega)
      obtain ⟨n1, _, n3⟩ := nmr_bd h hx hx2 hy (show y ≤ 200 by omega)
      have hh := h.h0
      have qb : ((nmr a b x y).tdiv c).natAbs ≤ 3000000000 := Nat.le_trans tdiv_small n3
      by_cases c1 : (nmr a b x y).tmod c = 0
      · by_cases c2 : 0 ≤ (nmr a b x y).tdiv c
        · apply Ev.step
          · intro k
            simp only [impl_ZeroSearch.l2]
            rw [start 0, Option.bind_some, w64 (x := y * y) (by omega) (by omega), if_pos c0, if_neg hh, n1, if_pos c1, w64 (x := (nmr a b x y).tdiv c) (by omega) (by omega), w64 (x := y + 1) (by omega) (by omega)]
          refine (squareRoot_ev _ c2 (by omega)).bind ?_
          by_cases c3 : isq ((nmr a b x y).tdiv c) * isq ((nmr a b x y).tdiv c) = (nmr a b x y).tdiv c
          · by_cases c4 : x = 0 ∧ y = 0
            · have hit0 : hit a b c x y = none := by unfold hit; rw [if_neg (fun e => e.2.2.2 c4)]
              rw [hit0]
              obtain ⟨rfl, rfl⟩ := c4
              have z : (nmr a b 0 0).tdiv c = 0 := by rw [nmr_zero]; exact Int.zero_tdiv _
              rw [z, isq_zero]
              refine Ev_eq (fun k => ?_) next
              rw [if_pos (by simp), if_pos rfl, if_pos rfl, if_pos rfl]
            · have hit1 : hit a b c x y = some [x, y, isq ((nmr a b x y).tdiv c)] := by unfold hit; rw [if_pos ⟨c1, c2, c3, c4⟩]
              rw [hit1]
              refine Ev_eq (g := fun _ => some ([x, y, isq ((nmr a b x y).tdiv c)], true)) (fun k => ?_) (Ev.now _)
              rw [if_pos (by simp [c3])]
              by_cases x0 : x = 0
              · rw [if_pos x0, if_neg (fun e => c4 ⟨x0, e⟩)]
              · rw [if_neg x0]
          · have hit0 : hit a b c x y = none := by unfold hit; rw [if_neg (fun e => c3 e.2.2.1)]
            rw [hit0]
            refine Ev_eq (fun k => ?_) next
            rw [if_neg (by simp [c3])]
        · have hit0 : hit a b c x y = none := by unfold hit; rw [if_neg (fun e => c2 e.2.1)]
          rw [hit0]
          refine Ev.step (fun k => ?_) next
          simp only [impl_ZeroSearch.l2]
          rw [start 0, Option.bind_some, w64 (x := y * y) (by omega) (by omega), if_pos c0, if_neg hh, n1, if_pos c1, w64 (x := (nmr a b x y).tdiv c) (by omega) (by omega), w64 (x := y + 1) (by omega) (by omega)]
          unfold impl_squareRoot.f
          rw [if_pos (by omega), Option.bind_some, if_neg (by simp)]
      · have hit0 : hit a b c x y = none := by unfold hit; rw [if_neg (fun e => c1 e.1)]
        rw [hit0]
        refine Ev.step (fun k => ?_) next
        simp only [impl_ZeroSearch.l2]
        rw [start 0, Option.bind_some, w64 (x := y * y) (by omega) (by omega), if_pos c0, if_neg hh, n1, if_neg c1, w64 (x := y + 1) (by omega) (by omega)]
    · rw [if_neg c0]
      refine Ev.step (fun k => ?_) hw
      simp only [impl_ZeroSearch.l2]
      rw [start 0, Option.bind_some, w64 (x := y * y) (by omega) (by omega), if_neg c0, w64 (x := x + 1) (by omega) (by omega)]
theorem implSearchX {a b c : Int} (h : SB a b c) : ∀ (n : Nat) (x : Int), 0 ≤ x → x + n = 200 → Ev (fun k => impl_ZeroSearch.l1 k a b c x) (resS (sX a b c n x)) := by
  have hbc := h.hbc
  have start : impl_size.f (wrap64 (b * c)) = some (absI (b * c)) := by
    rw [w64 (x := b * c) (by omega) (by omega)]; simp only [impl_size.f]; rw [absI_abs hbc]
  intro n
  induction n with
  | zero =>
    intro x hx hn
    simp only [sX]
    obtain rfl : x = 200 := by omega
    refine Ev.step (f := fun _ => some ([], false)) (fun k => ?_) (Ev.now _)
    simp only [impl_ZeroSearch.l1]
    rw [start, Option.bind_some, w64 (x := (200 : Int) * 200) (by omega) (by omega), if_neg (by unfold absI; omega)]
  | succ n ih =>
    intro x hx hn
    simp only [sX]
    have hxx : x * x ≤ 200 * 200 := mul_le2 hx (by omega) hx (by omega)
    have hx0 := sq_nonneg x
    by_cases c0 : x * x ≤ absI (b * c)
    · rw [if_pos c0]
      have := implSearchY h hx (show x ≤ 200 by omega) (ih (x + 1) (by omega) (by omega)) 200 0 (by omega) (by omega)
      refine Ev.step (f := fun k => impl_ZeroSearch.l2 k a b c x 0) (fun k => ?_) ?_
      · simp only [impl_ZeroSearch.l1]
        rw [start, Option.bind_some, w64 (x := x * x) (by omega) (by omega), if_pos c0]
      · cases hh : sY a b c x 200 0 with
        | some v => rw [hh] at this; exact this
        | none => rw [hh] at this; exact this
    · rw [if_neg c0]
      refine Ev.step (f := fun _ => some ([], false)) (fun k => ?_) (Ev.now _)
      simp only [impl_ZeroSearch.l1]
      rw [start, Option.bind_some, w64 (x := x * x) (by omega) (by omega), if_neg c0]
structure SN (a b c : Int) : Prop where
  sa : SqFree a
  sb : SqFree b
  sc : SqFree c
  hm : (a * b * c).natAbs ≤ 27000
  g1 : gI a b ≤ 1
  g2 : gI a c ≤ 1
  g3 : gI b c ≤ 1
theorem SN.bd {a b c : Int} (h : SN a b c) : SB a b c ∧ SB b a c := by
  have hm := h.hm
  have a0 := h.sa.1
  have b0 := h.sb.1
  have c0 := h.sc.1
  have e1 : (a * b * c).natAbs = a.natAbs * (b * c).natAbs := by rw [← Int.natAbs_mul]; congr 1; grind
  have e2 : (a * b * c).natAbs = b.natAbs * (a * c).natAbs := by rw [← Int.natAbs_mul]; congr 1; grind
  have e3 : (a * b * c).natAbs = c.natAbs * (a * b).natAbs := by rw [← Int.natAbs_mul]; congr 1; grind
  have hbc := Int.mul_ne_zero b0 c0
  have hac := Int.mul_ne_zero a0 c0
  have hab := Int.mul_ne_zero a0 b0
  have f1 := Nat.le_mul_of_pos_right a.natAbs (show 0 < (b * c).natAbs by omega)
  have f2 := Nat.le_mul_of_pos_left (b * c).natAbs (show 0 < a.natAbs by omega)
  have f3 := Nat.le_mul_of_pos_right b.natAbs (show 0 < (a * c).natAbs by omega)
  have f4 := Nat.le_mul_of_pos_left (a * c).natAbs (show 0 < b.natAbs by omega)
  have f5 := Nat.le_mul_of_pos_right c.natAbs (show 0 < (a * b).natAbs by omega)
  exact ⟨⟨by omega, by omega, by omega, c0, by omega, by omega⟩, ⟨by omega, by omega, by omega, c0, by omega, by omega⟩⟩
theorem sq_core {a : Int} (h : SqFree a) (hb : a.natAbs ≤ 27000) : coreF a = (a, 1) := core_is h.1 (by omega) ⟨by omega, by omega, h⟩
theorem implSearch1 {a b c t : Int} {j j1 : Int} (ht : SqFree t) (hb : t.natAbs ≤ 27000) (hr : rd [a, b, c] j = t) (h0 : 0 ≤ j) (h3 : j < 3) (hj : wrap64 (j + 1) = j1) {v : List Int × Bool} (hv : Ev (fun k => impl_ZeroSearch.l0 k [a, b, c] [a, b, c] 3 j1) v) :
    Ev (fun k => impl_ZeroSearch.l0 k [a, b, c] [a, b, c] 3 j) v := by
  have hs : impl_size.f t = some (absI t) := by simp only [impl_size.f]; rw [absI_abs hb]
  refine Ev.step (f := fun k => impl_ZeroSearch.j1 k [a, b, c] t [a, b, c] 3 j false) (fun k => ?_) ?_
  · simp only [impl_ZeroSearch.l0]
    rw [if_pos h3, if_pos h0, if_pos (by simpa using h3), hr, if_neg ht.1, hs, Option.bind_some]
    have : decide (absI t > 30000) = false := decide_eq_false (by unfold absI; omega)
    rw [this]
  apply Ev.step
  · intro k
    simp only [impl_ZeroSearch.j1]
    rw [if_neg (by simp), hj]
  refine (implCore_ev ht.1 (by omega)).bind ?_
  rw [sq_core ht hb]
  exact Ev_eq (fun k => if_pos rfl) hv
theorem product_l (xs : List Int) (hl : xs.length ≤ 1000) : ∀ (d j : Nat) (g : Int), j + d = xs.length → (∀ i, i ≤ d → (((xs.drop j).take i).foldl (· * ·) g).natAbs ≤ 1000000000000) → 
    Ev (fun k => impl_product.l0 k g xs (xs.length : Int) j) ((xs.drop j).foldl (· * ·) g) := by
  intro d
  induction d with
  | zero =>
    intro j g hj _
    rw [List.drop_of_length_le (by omega)]
    refine Ev.step (f := fun _ => some g) (fun k => ?_) (Ev.now _)
    simp only [impl_product.l0]
    rw [if_neg (by omega)]
  | succ d ih =>
    intro j g hj hb
    rw [rd_drop (show j < xs.length by omega)] at hb ⊢
    have h1 := hb 1 (by omega)
    simp only [List.take_succ_cons, List.take_zero, List.foldl_cons, List.foldl_nil] at h1
    simp only [List.foldl_cons]
    refine Ev.step (fun k => ?_) (ih (j + 1) (g * rd xs (j : Int)) (by omega) (fun i hi => ?_))
    · simp only [impl_product.l0]
      rw [if_pos (by omega), if_pos (by omega), if_pos (by omega), w64 (x := g * rd xs (j : Int)) (by omega) (by omega), w64 (x := (j : Int) + 1) (by omega) (by omega)]
      rfl
    · have := hb (i + 1) (by omega)
      simpa [List.take_succ_cons] using this
theorem implSearch_ev {a b c : Int} (h : SN a b c) : Ev (fun k => impl_ZeroSearch.f k [a, b, c]) (resS (zs a b c)) := by
  obtain ⟨sb, sb2⟩ := h.bd
  have ha := sb.ha
  have hb := sb.hb
  have hc := sb.hc
  have hm := h.hm
  refine Ev_eq (g := fun k => impl_ZeroSearch.l0 k [a, b, c] [a, b, c] 3 0) (fun k => by unfold impl_ZeroSearch.f; exact if_pos (by simp)) ?_
  refine implSearch1 h.sa ha (rd0 a b c) (by omega) (by omega) (show wrap64 (0 + 1) = 1 by decide +kernel) ?_
  refine implSearch1 h.sb hb (rd1 a b c) (by omega) (by omega) (show wrap64 (1 + 1) = 2 by decide +kernel) ?_
  refine implSearch1 h.sc hc (rd2 a b c) (by omega) (by omega) (show wrap64 (2 + 1) = 3 by decide +kernel) ?_
  apply Ev.step
  · intro k
    simp only [impl_ZeroSearch.l0]
    rw [if_neg (by omega)]
  refine (shared_ev h.sa.1 h.sb.1 (by omega) (by omega) (by omega)).bind ?_
  have e : shP a b c = (0, 0, 0) := by
    unfold shP
    rw [if_neg (by have := h.g1; omega), if_neg (by have := h.g2; omega), if_neg (by have := h.g3; omega)]
  rw [e]
  refine Ev_eq (fun k => if_pos rfl) ?_
  have hp : Ev (fun k => impl_product.f k [a, b, c]) (a * b * c) := by
    unfold impl_product.f
    have hab : (a * b).natAbs ≤ 27000 * 27000 := mul_bd ha hb
    have := product_l [a, b, c] (by simp) 3 0 1 (by simp) (fun i hi => ?_)
    · simpa using this
    · have : i = 0 ∨ i = 1 ∨ i = 2 ∨ i = 3 := by omega
      rcases this with rfl | rfl | rfl | rfl <;> simp <;> omega
  refine hp.bind ?_
  have hs : impl_size.f (a * b * c) = some (absI (a * b * c)) := by simp only [impl_size.f]; rw [absI_abs hm]
  refine Ev_eq (g := fun k => impl_ZeroSearch.j2 k [a, b, c] false) (fun k => ?_) ?_
  · rw [hs, Option.bind_some]
    have : decide (absI (a * b * c) > 30000) = false := decide_eq_false (by unfold absI; omega)
    rw [this]
  refine Ev.step (fun k => ?_) (implSearchX sb 200 0 (by omega) (by omega))
  simp only [impl_ZeroSearch.j2]
  rw [if_neg (by simp), if_pos (by simp), if_pos (by simp), if_pos (by simp)]
  rfl

/-! ### zeros -/
theorem nrm_sn {A B C : Int} {M : Nat} {s : T6} (h : Nrm A B C M s) (hM : M ≤ 27000) : SN s.1.1 s.1.2.1 s.1.2.2 := by
  obtain ⟨l, n, g1, g2, g3⟩ := h
  exact ⟨n.sa, n.sb, n.sc, by have := n.bd.2.2.1; omega, g1, g2, g3⟩
theorem sm3 {a b c : Int} (ha : Sm a) (hb : Sm b) (hc : Sm c) : ∀ x ∈ [a, b, c], Sm x := by intro x hx; simp at hx; rcases hx with rfl | rfl | rfl <;> assumption
theorem ok3 {a b c : Int} (ha : Sm a) (hb : Sm b) (hc : Sm c) : formOk [a, b, c] = true := formOk_iff.2 ⟨sm3 ha hb hc, by simp, by simp⟩
theorem implG_l {x y z u v w : Int} (h : ∀ t ∈ [u * x, v * y, w * z], t.natAbs ≤ 40000) (hn : ∃ t ∈ [u * x, v * y, w * z], t ≠ 0) :
    Ev (fun k => impl_ZeroFindG.l0 k [x, y, z] [u, v, w] 3 0) (plainF [u * x, v * y, w * z], true) := by
  have h1 := h (u * x) (by simp)
  have h2 := h (v * y) (by simp)
  have h3 := h (w * z) (by simp)
  have w1 : wrap64 (0 + 1) = 1 := by decide +kernel
  have w2 : wrap64 (1 + 1) = 2 := by decide +kernel
  have w3 : wrap64 (2 + 1) = 3 := by decide +kernel
  refine Ev.step (f := fun k => impl_ZeroFindG.l0 k [x, y, z] [u * x, v, w] 3 1) (fun k => ?_) ?_
  · simp only [impl_ZeroFindG.l0]
    rw [if_pos (by omega), if_pos (by omega), if_pos (by simp), if_pos (by simp), rd0, rd0, st0, w64 (x := u * x) (by omega) (by omega), w1]
  refine Ev.step (f := fun k => impl_ZeroFindG.l0 k [x, y, z] [u * x, v * y, w] 3 2) (fun k => ?_) ?_
  · simp only [impl_ZeroFindG.l0]
    rw [if_pos (by omega), if_pos (by omega), if_pos (by simp), if_pos (by simp), rd1, rd1, st1, w64 (x := v * y) (by omega) (by omega), w2]
  refine Ev.step (f := fun k => impl_ZeroFindG.l0 k [x, y, z] [u * x, v * y, w * z] 3 3) (fun k => ?_) ?_
  · simp only [impl_ZeroFindG.l0]
    rw [if_pos (by omega), if_pos (by omega), if_pos (by simp), if_pos (by simp), rd2, rd2, st2, w64 (x := w * z) (by omega) (by omega), w3]
  apply Ev.step
  · intro k
    simp only [impl_ZeroFindG.l0]
    rw [if_neg (by omega)]
  exact (plain_ev hn (fun t ht => by have := h t ht; omega) (by simp)).bind (Ev.now _)
theorem implG3_ev (z4 : Nat → List Int → Option (List Int × Bool)) {a b c : Int} (ha : Sm a) (hb : Sm b) (hc : Sm c) : Ev (fun k => impl_ZeroFindG.f z4 k [a, b, c]) (resS (z3 a b c)) := by
  unfold impl_ZeroFindG.f
  have hM := bd3_le ha hb hc
  have hN := nrm3_is ha.1 hb.1 hc.1 (by omega)
  refine (implFormValid_ev (xs := [a, b, c]) (fun x hx => by have := (sm3 ha hb hc x hx).2; omega) (by simp)).bind ?_
  rw [ok3 ha hb hc]
  refine Ev_eq (fun k => by rw [if_pos rfl, if_neg (by simp), if_pos (by simp)]) ?_
  refine (implNormal_ev ha hb hc).bind ?_
  have hS := implSearch_ev (nrm_sn hN hM)
  obtain ⟨l, n1, _⟩ := hN
  unfold z3
  generalize nrm3 a b c = s at *
  obtain ⟨⟨a', b', c'⟩, x, y, z⟩ := s
  simp only [outN3] at n1 hS ⊢
  refine hS.bind ?_
  cases hz : zs a' b' c' with
  | none => exact Ev_eq (g := fun _ => some ([], false)) (fun k => if_neg (by simp [resS])) (Ev.now _)
  | some t =>
    obtain ⟨u, v, w, rfl, _⟩ := zs_is hz
    obtain ⟨hne, hq, hsm⟩ := z3_pre n1 hM hz
    exact Ev_eq (fun k => if_pos rfl) (implG_l hsm hne)
theorem t4_w {a b x y : Int} (ha : Sm a) (hb : Sm b) (hx : 0 ≤ x) (hx3 : x ≤ 3) (hy : 0 ≤ y) (hy3 : y ≤ 3) : wrap64 (wrap64 (wrap64 (a * x) * x) + wrap64 (wrap64 (b * y) * y)) = t4 a b x y := by
  have h1 := ha.2
  have h2 := hb.2
  have e1 := mul_bd (a := a) (x := x) (A := 30) (X := 3) (by omega) (by omega)
  have e2 := mul_bd (a := a * x) (x := x) (A := 90) (X := 3) (by omega) (by omega)
  have e3 := mul_bd (a := b) (x := y) (A := 30) (X := 3) (by omega) (by omega)
  have e4 := mul_bd (a := b * y) (x := y) (A := 90) (X := 3) (by omega) (by omega)
  unfold t4
  rw [w64 (x := a * x) (by omega) (by omega), w64 (x := a * x * x) (by omega) (by omega), w64 (x := b * y) (by omega) (by omega), w64 (x := b * y * y) (by omega) (by omega), w64 (by omega) (by omega)]
theorem z4_plain {x y p q r h : Int} (hx : 0 ≤ x) (hx3 : x ≤ 3) (hy : 0 ≤ y) (hy3 : y ≤ 3) (hp : p.natAbs ≤ 40000) (hq : q.natAbs ≤ 40000) (hr : r.natAbs ≤ 40000) (hh : h.natAbs ≤ 540) :
    wrap64 (x * r) = x * r ∧ wrap64 (y * r) = y * r ∧ wrap64 (h * p) = h * p ∧ wrap64 (h * q) = h * q ∧ ∀ t ∈ [x * r, y * r, h * p, h * q], t.natAbs ≤ 4000000000000000000 := by
  have e1 := mul_bd (a := x) (x := r) (A := 3) (X := 40000) (by omega) (by omega)
  have e2 := mul_bd (a := y) (x := r) (A := 3) (X := 40000) (by omega) (by omega)
  have e3 := mul_bd (a := h) (x := p) (A := 540) (X := 40000) (by omega) (by omega)
  have e4 := mul_bd (a := h) (x := q) (A := 540) (X := 40000) (by omega) (by omega)
  refine ⟨w64 (by omega) (by omega), w64 (by omega) (by omega), w64 (by omega) (by omega), w64 (by omega) (by omega), ?_⟩
  intro t ht
  simp only [List.mem_cons, List.not_mem_nil, or_false] at ht
  rcases ht with rfl | rfl | rfl | rfl <;> omega
theorem z4_ne {x y p q r h : Int} (h0 : ¬ (x = 0 ∧ y = 0)) (hh : h ≠ 0) (hn : ∃ t ∈ [p, q, r], t ≠ 0) : ∃ t ∈ [x * r, y * r, h * p, h * q], t ≠ 0 := by
  by_cases hr : r = 0
  · by_cases hp : p = 0
    · refine ⟨h * q, by simp, Int.mul_ne_zero hh (fun e => ?_)⟩
      obtain ⟨t, ht, h1⟩ := hn
      simp [hr, hp, e] at ht; exact h1 ht
    · exact ⟨h * p, by simp, Int.mul_ne_zero hh hp⟩
  · by_cases hx0 : x = 0
    · exact ⟨y * r, by simp, Int.mul_ne_zero (fun e => h0 ⟨hx0, e⟩) hr⟩
    · exact ⟨x * r, by simp, Int.mul_ne_zero hx0 hr⟩
theorem plain4_ne {x y : Int} (h0 : ¬ (x = 0 ∧ y = 0)) : ∃ t ∈ [x, y, 0, 0], t ≠ 0 := by
  by_cases hx : x = 0
  · exact ⟨y, by simp, fun e => h0 ⟨hx, e⟩⟩
  · exact ⟨x, by simp, hx⟩
theorem core_small {t : Int} (h0 : t ≠ 0) (h : t.natAbs ≤ 540) : (coreF t).1 ≠ 0 ∧ (coreF t).1.natAbs ≤ 540 ∧ 1 ≤ (coreF t).2 ∧ (coreF t).2.natAbs ≤ 540 := by
  have h1 := coreF_is h0 (by omega)
  have h2 := core_le h1
  refine ⟨h1.2.2.1, by omega, h1.2.1, ?_⟩
  have := Nat.le_mul_of_pos_right (coreF t).2.natAbs (show 0 < (coreF t).2.natAbs by have := h1.2.1; omega)
  omega
theorem implFourY {a b c d x : Int} (ha : Sm a) (hb : Sm b) (hc : Sm c) (hd : Sm d) (hx : 0 ≤ x) (hx3 : x ≤ 3) {w : List Int × Bool} (hw : Ev (fun k => impl_zeroOfFour.l0 k a b c d (x + 1)) w) : ∀ (n : Nat) (y : Int), 0 ≤ y → y + n = 4 →
    Ev (fun k => impl_zeroOfFour.l1 k a b c d x y) (orS w (z4y a b c d x n y)) := by
  intro n
  induction n with
  | zero =>
    intro y hy hn
    simp only [z4y]
    refine Ev.step (fun k => ?_) hw
    simp only [impl_zeroOfFour.l1]
    rw [if_neg (by omega), w64 (x := x + 1) (by omega) (by omega)]
  | succ n ih =>
    intro y hy hn
    have hy3 : y ≤ 3 := by omega
    simp only [z4y]
    have next := ih (y + 1) (by omega) (by omega)
    by_cases c0 : x = 0 ∧ y = 0
    · have e : z4c a b c d x y = none := by unfold z4c; rw [if_pos c0]
      rw [e]
      refine Ev.step (f := fun k => impl_zeroOfFour.j2 k a b c d x y true) (fun k => ?_) ?_
      · simp only [impl_zeroOfFour.l1]
        have : (y == 0) = true := by simp [c0.2]
        rw [if_pos hy3, if_pos c0.1, this]
      refine Ev.step (fun k => ?_) next
      simp only [impl_zeroOfFour.j2]
      rw [if_pos trivial, w64 (x := y + 1) (by omega) (by omega)]
    · refine Ev.step (f := fun k => impl_zeroOfFour.j2 k a b c d x y false) (fun k => ?_) ?_
      · simp only [impl_zeroOfFour.l1]
        rw [if_pos hy3]
        by_cases x0 : x = 0
        · have : (y == 0) = false := by simpa using fun e => c0 ⟨x0, e⟩
          rw [if_pos x0, this]
        · rw [if_neg x0]
      have hT := t4_bd ha hb hx hx3 hy hy3
      have hw4 := t4_w ha hb hx hx3 hy hy3
      apply Ev.step
      · intro k
        simp only [impl_zeroOfFour.j2]
        rw [if_neg (by simp), hw4, w64 (x := y + 1) (by omega) (by omega)]
      by_cases c1 : t4 a b x y = 0
      · have e : z4c a b c d x y = some (plainF [x, y, 0, 0]) := by unfold z4c; rw [if_neg c0, if_pos c1]
        rw [e]
        refine Ev_eq (fun k => if_pos c1) ?_
        exact (plain_ev (plain4_ne c0) (by intro t ht; simp at ht; omega) (by simp)).bind (Ev.now _)
      · refine Ev_eq (fun k => if_neg c1) ?_
        obtain ⟨k1, k2, k3, k4⟩ := core_small c1 hT
        refine (implCore_ev c1 (by omega)).bind ?_
        by_cases c2 : 30 < absI (coreF (t4 a b x y)).1
        · have e : z4c a b c d x y = none := by unfold z4c; rw [if_neg c0, if_neg c1, if_pos c2]
          rw [e]
          have hf : formOk [c, d, (coreF (t4 a b x y)).1] = false := by
            rw [Bool.eq_false_iff]
            intro h
            have := (formOk_iff.1 h).1 (coreF (t4 a b x y)).1 (by simp)
            unfold absI at c2; have := this.2; omega
          have hv : Ev (fun k => impl_ZeroFindC.f k [c, d, (coreF (t4 a b x y)).1]) ([], false) := by
            unfold impl_ZeroFindC.f impl_ZeroFindG.f
            refine (implFormValid_ev (xs := [c, d, (coreF (t4 a b x y)).1]) (fun t ht => ?_) (by simp)).bind ?_
            · have := hc.2
              have := hd.2
              simp only [List.mem_cons, List.not_mem_nil, or_false] at ht
              rcases ht with rfl | rfl | rfl <;> omega
            · rw [hf]; exact Ev_eq (fun k => if_neg (by simp)) (Ev.now _)
          refine hv.bind ?_
          exact Ev_eq (fun k => if_neg (by simp)) next
        · have hs : Sm (coreF (t4 a b x y)).1 := ⟨k1, by unfold absI at c2; omega⟩
          have hv : Ev (fun k => impl_ZeroFindC.f k [c, d, (coreF (t4 a b x y)).1]) (resS (z3 c d (coreF (t4 a b x y)).1)) := implG3_ev _ hc hd hs
          refine hv.bind ?_
          cases hz : z3 c d (coreF (t4 a b x y)).1 with
          | none =>
            have e : z4c a b c d x y = none := by unfold z4c; rw [if_neg c0, if_neg c1, if_neg c2, hz]
            rw [e]
            exact Ev_eq (fun k => if_neg (by simp [resS])) next
          | some t =>
            obtain ⟨⟨p, q, r, rfl⟩, z0⟩ := z3_zero hc hd hs hz
            have e : z4c a b c d x y = some (plainF [x * r, y * r, (coreF (t4 a b x y)).2 * p, (coreF (t4 a b x y)).2 * q]) := by unfold z4c; rw [if_neg c0, if_neg c1, if_neg c2, hz]
            rw [e]
            obtain ⟨m1, m2, m3, m4, m5⟩ := z4_plain hx hx3 hy hy3 (z0.2.2.2 p (by simp)) (z0.2.2.2 q (by simp)) (z0.2.2.2 r (by simp)) k4
            refine Ev_eq (g := fun k => (impl_plain.f k [x * r, y * r, (coreF (t4 a b x y)).2 * p, (coreF (t4 a b x y)).2 * q]).bind fun t => some (t, true)) (fun k => ?_) ((plain_ev (z4_ne c0 (show (coreF (t4 a b x y)).2 ≠ 0 by omega) z0.2.2.1) m5 (by simp)).bind (Ev.now _))
            rw [show resS (some [p, q, r]) = ([p, q, r], true) from rfl, if_pos rfl, if_pos (by simp), if_pos (by simp), if_pos (by simp), rd0, rd1, rd2, m1, m2, m3, m4]
theorem implFourX {a b c d : Int} (ha : Sm a) (hb : Sm b) (hc : Sm c) (hd : Sm d) : ∀ (n : Nat) (x : Int), 0 ≤ x → x + n = 4 → Ev (fun k => impl_zeroOfFour.l0 k a b c d x) (resS (z4x a b c d n x)) := by
  intro n
  induction n with
  | zero =>
    intro x hx hn
    simp only [z4x]
    refine Ev.step (f := fun _ => some ([], false)) (fun k => ?_) (Ev.now _)
    simp only [impl_zeroOfFour.l0]
    rw [if_neg (by omega)]
  | succ n ih =>
    intro x hx hn
    simp only [z4x]
    have := implFourY ha hb hc hd hx (by omega) (ih (x + 1) (by omega) (by omega)) 4 0 (by omega) (by omega)
    refine Ev.step (f := fun k => impl_zeroOfFour.l1 k a b c d x 0) (fun k => ?_) ?_
    · simp only [impl_zeroOfFour.l0]
      rw [if_pos (by omega)]
    · cases hh : z4y a b c d x 4 0 with
      | some v => rw [hh] at this; exact this
      | none => rw [hh] at this; exact this
theorem implFour_ev {a b c d : Int} (ha : Sm a) (hb : Sm b) (hc : Sm c) (hd : Sm d) : Ev (fun k => impl_zeroOfFour.f k [a, b, c, d]) (resS (z4 a b c d)) := by
  refine Ev_eq (fun k => ?_) (implFourX ha hb hc hd 4 0 (by omega) (by omega))
  unfold impl_zeroOfFour.f
  rw [if_pos (by simp), if_pos (by simp), if_pos (by simp), if_pos (by simp)]
  rfl
theorem two_bd {a b : Int} (ha : Sm a) (hb : Sm b) : (∃ t ∈ [(coreF b).2, (coreF a).2], t ≠ 0) ∧ ∀ t ∈ [(coreF b).2, (coreF a).2], t.natAbs ≤ 4000000000000000000 := by
  have h1 := sm_core ha
  have h2 := sm_core hb
  exact ⟨⟨(coreF b).2, by simp, by omega⟩, by intro t ht; simp at ht; omega⟩
theorem implFind_ev {f : List Int} (hx : ∀ x ∈ f, x.natAbs ≤ 1000000) (hl : f.length ≤ 100) : Ev (fun k => impl_ZeroFind.f k f) (resS (zF f)) := by
  by_cases c : formOk f = true
  · have h := formOk_iff.1 c
    have c' := c
    match f, h, c, hx with
    | [a], h, c, hx =>
      have e : zF [a] = none := by unfold zF; rw [if_pos c]
      rw [e]
      unfold impl_ZeroFind.f impl_ZeroFindG.f
      refine (implFormValid_ev hx (by simp)).bind ?_
      rw [c]
      exact Ev_eq (g := fun _ => some ([], false)) (fun k => by rw [if_pos rfl, if_neg (by simp), if_neg (by simp), if_neg (by simp)]) (Ev.now _)
    | [a, b], h, c, hx =>
      have ha := h.1 a (by simp)
      have hb := h.1 b (by simp)
      unfold impl_ZeroFind.f impl_ZeroFindG.f
      refine (implFormValid_ev hx (by simp)).bind ?_
      rw [c]
      refine Ev_eq (fun k => by rw [if_pos rfl, if_pos (by simp), if_pos (by simp)]) ?_
      refine (implCore_ev ha.1 (by have := ha.2; omega)).bind ?_
      refine Ev_eq (fun k => if_pos (by simp)) ?_
      refine (implCore_ev hb.1 (by have := hb.2; omega)).bind ?_
      have k2 := sm_core hb
      rw [w64 (x := -(coreF b).1) (by omega) (by omega)]
      obtain ⟨t1, t2⟩ := two_bd ha hb
      by_cases c1 : (coreF a).1 + (coreF b).1 = 0
      · have e : zF [a, b] = some (plainF [(coreF b).2, (coreF a).2]) := by unfold zF; rw [if_pos c]; exact if_pos c1
        rw [e]
        exact Ev_eq (fun k => if_pos (show (coreF a).1 = -(coreF b).1 by omega)) ((plain_ev t1 t2 (by simp)).bind (Ev.now _))
      · have e : zF [a, b] = none := by unfold zF; rw [if_pos c]; exact if_neg c1
        rw [e]
        exact Ev_eq (fun k => if_neg (show ¬ (coreF a).1 = -(coreF b).1 by omega)) (Ev.now _)
    | [a, b, d], h, c, hx =>
      have e : zF [a, b, d] = z3 a b d := by unfold zF; rw [if_pos c]
      rw [e]
      exact implG3_ev _ (h.1 a (by simp)) (h.1 b (by simp)) (h.1 d (by simp))
    | [a, b, d, g], h, c, hx =>
      have e : zF [a, b, d, g] = z4 a b d g := by unfold zF; rw [if_pos c]
      rw [e]
      unfold impl_ZeroFind.f impl_ZeroFindG.f
      refine (implFormValid_ev hx (by simp)).bind ?_
      rw [c]
      refine Ev_eq (fun k => by rw [if_pos rfl, if_neg (by simp), if_neg (by simp), if_pos (by simp)]) ?_
      exact (implFour_ev (h.1 a (by simp)) (h.1 b (by simp)) (h.1 d (by simp)) (h.1 g (by simp))).bind (Ev.now _)
    | [], h, c, hx => simp at h
    | _ :: _ :: _ :: _ :: _ :: _, h, c, hx => simp at h
  · have e : zF f = none := by unfold zF; rw [if_neg c]
    rw [e]
    unfold impl_ZeroFind.f impl_ZeroFindG.f
    refine (implFormValid_ev hx hl).bind ?_
    rw [Bool.eq_false_iff.2 c]
    exact Ev_eq (fun k => if_neg (by simp)) (Ev.now _)
theorem gd_of {n : Nat} {xs : List Int} (h : Good92 n xs) (c : formOk xs = true) : Gd xs := h.2.2 c

/-! ### a plane and a term -/
def restF (xs : List Int) : Int × Bool := if xs.length = 3 ∧ formOk xs = true ∧ 0 < pall xs ∧ absI (disc xs) ≤ 30 then (-disc xs, true) else (0, false)
theorem disc_is {xs : List Int} (hx : ∀ x ∈ xs, Sm x) (hl : xs.length ≤ 5) : disc xs ≠ 0 ∧ (disc xs).natAbs ≤ 24300000 ∧ IsCore (prod xs) (disc xs) (coreF (prod xs)).2 := by
  have hb := prod_bd4 hx hl
  have hc := coreF_is hb.1 (by omega)
  have hle := core_le hc
  refine ⟨fun e => ?_, by unfold disc; omega, hc⟩
  have h1 := hc.1
  unfold disc at e
  rw [e, Int.zero_mul] at h1
  exact hb.1 h1
theorem implRest_ev {xs : List Int} (h31 : ∀ x ∈ xs, x.natAbs ≤ 1000000) (hl : xs.length ≤ 100) : Ev (fun k => impl_PlanesRest.f k xs) (restF xs) := by
  unfold impl_PlanesRest.f restF
  by_cases c3 : xs.length = 3
  · simp only [if_pos (show (xs.length : Int) = 3 by omega)]
    refine (implFormValid_ev (xs := xs) h31 hl).bind ?_
    by_cases c : formOk xs = true
    · have hk := formOk_iff.1 c
      have hd := disc_is hk.1 (by omega)
      simp only [if_pos c]
      have e1 := implFormBad_ev (xs := xs) h31 hl
      rw [if_pos c] at e1
      refine e1.bind ?_
      have e2 := implDisc_ev (xs := xs) h31 hl
      rw [if_pos c] at e2
      by_cases cb : 0 < pall xs
      · simp only [bad_nil.2 cb, List.length_nil, if_neg (show ¬ ((0 : Nat) : Int) > 0 by omega)]
        refine e2.bind ?_
        have hs : impl_size.f (disc xs) = some (absI (disc xs)) := by simp only [impl_size.f]; rw [size_ev (by omega) (by omega)]
        simp only [hs, Option.bind_some]
        by_cases cd : absI (disc xs) ≤ 30
        · rw [if_pos ⟨c3, c, cb, cd⟩]
          simp only [if_neg (show ¬ absI (disc xs) > 30 by omega)]
          refine e2.bind ?_
          simp only [w64 (x := -disc xs) (by omega) (by omega)]
          exact Ev.now _
        · rw [if_neg (fun h => cd h.2.2.2)]; simp only [if_pos (show absI (disc xs) > 30 by omega)]; exact Ev.now _
      · have hb : bad xs ≠ [] := fun h => cb (bad_nil.1 h)
        have hbl : 0 < (bad xs).length := List.length_pos_iff.2 hb
        rw [if_neg (fun h => cb h.2.2.1)]; simp only [if_pos (show ((bad xs).length : Int) > 0 by omega)]; exact Ev.now _
    · simp only [if_neg c]
      rw [if_neg (fun h => c h.2.1)]; exact Ev.now _
  · simp only [if_neg (show ¬ (xs.length : Int) = 3 by omega)]
    rw [if_neg (fun h => c3 h.1)]; exact Ev.now _
theorem specRest_ev {xs : List Int} (hl : xs.length ≤ 100) : Ev (fun k => spec_PlanesRest.f k xs) (restF xs) := by
  unfold spec_PlanesRest.f restF
  by_cases c3 : xs.length = 3
  · simp only [if_pos (show (xs.length : Int) = 3 by omega)]
    have e1 := specPlanesAll_ev (xs := xs) hl
    refine e1.bind ?_
    by_cases c : formOk xs = true
    · have hk := formOk_iff.1 c
      have hd := disc_is hk.1 (by omega)
      rw [if_pos c]
      have e2 := specDisc_ev (xs := xs) hl
      rw [if_pos c] at e2
      by_cases cb : 0 < pall xs
      · simp only [if_neg (show ¬ pall xs < 1 by omega)]
        refine e2.bind ?_
        simp only [specSize_eq (n := disc xs) (by omega), Option.bind_some]
        by_cases cd : absI (disc xs) ≤ 30
        · rw [if_pos ⟨c3, c, cb, cd⟩]
          simp only [if_neg (show ¬ absI (disc xs) > 30 by omega)]
          refine e2.bind ?_
          simp only [w64 (x := -disc xs) (by omega) (by omega)]
          exact Ev.now _
        · rw [if_neg (fun h => cd h.2.2.2)]; simp only [if_pos (show absI (disc xs) > 30 by omega)]; exact Ev.now _
      · rw [if_neg (fun h => cb h.2.2.1)]; simp only [if_pos (show pall xs < 1 by omega)]; exact Ev.now _
    · simp only [if_neg c, if_pos (show (-1 : Int) < 1 by omega)]; rw [if_neg (fun h => c h.2.1)]; exact Ev.now _
  · simp only [if_neg (show ¬ (xs.length : Int) = 3 by omega)]
    rw [if_neg (fun h => c3 h.1)]; exact Ev.now _
theorem restDraw_ev {l : List Int} (h : ∀ x ∈ l, (Lit.int .u8 x).wf = true) : ∃ xs, Good92 4 xs ∧ Ev (fun k => spec_DrawPlanesRest.f k l) xs := by
  obtain ⟨b, hb, ho⟩ := open_ev h
  obtain ⟨v1, h1, g1, e1⟩ := pick_ev hb (p := 0) (by omega) (by omega) (n := 12) (by omega)
  have ht : 0 ≤ v1.tdiv 11 ∧ v1.tdiv 11 ≤ 1 := by rw [Int.tdiv_eq_ediv_of_nonneg (by omega)]; omega
  obtain ⟨n, hn⟩ : ∃ n : Nat, 3 - v1.tdiv 11 = (n : Int) := ⟨(3 - v1.tdiv 11).toNat, by omega⟩
  obtain ⟨xs, q', hg, h3, h4, e3⟩ := form92_draw hb (q := 0 + 1) (by omega) n (by omega) (by omega) (by omega)
  refine ⟨xs, ⟨by have := hg.1; omega, hg.2⟩, ?_⟩
  simp only [spec_DrawPlanesRest.f, ho, Option.bind_some]
  refine e1.bind ?_
  simp only [w64 (x := v1.tdiv 11) (by omega) (by omega), w64 (x := 3 - v1.tdiv 11) (by omega) (by omega)]
  rw [hn]
  exact e3.bind (Ev.now _)
/-- A form of three terms that vanishes is like the plane and the opposite of its discriminant. -/
theorem rest_alike {p a b c D r : Int} (h : Plc p) (ha : Sm a) (hb : Sm b) (hc : Sm c) (hD : Sm D) (hr : r ≠ 0) (e : prod [a, b, c] = D * r * r) (hv : van [a, b, c] p = true) : alk [1, -1, -D] [a, b, c] p = true := by
  have hx : ∀ x ∈ [a, b, c], Sm x := by intro x hx; simp at hx; rcases hx with rfl | rfl | rfl <;> assumption
  have hy : ∀ x ∈ [1, -1, -D], Sm x := by intro x hx; simp at hx; rcases hx with rfl | rfl | rfl; exact ⟨by omega, by omega⟩; exact ⟨by omega, by omega⟩; exact sm_opp hD
  have pb := prod_bd4 hx (by simp)
  have hD1 := hD.1
  have hD2 := hD.2
  have kc : code p (prod [a, b, c]) = code p D := by
    rw [e]; rw [e] at pb; exact code_sqm h hD1 hr (by omega)
  have pd : prod [1, -1, -D] = D := by rw [prod3]; omega
  unfold alk
  by_cases c0 : p = 0
  · subst c0
    rw [if_pos rfl, beq_iff_eq]
    rw [van0] at hv
    have k3 := code3 h ha hb hc
    rw [← prod3, kc, code0, code0, code0, code0] at k3
    simp only [less, lessF, List.length_cons, List.length_nil] at hv ⊢
    by_cases a1 : a < 0 <;> by_cases b1 : b < 0 <;> by_cases c1 : c < 0 <;> by_cases d1 : D < 0 <;> simp [a1, b1, c1, d1] at hv k3 ⊢ <;> omega
  · rw [if_neg c0, pd, Bool.and_eq_true]
    have m := pp_sm (xs := [1, -1, -D]) (ys := [a, b, c]) hy hx (by simp) (by simp)
    rw [pd] at m
    constructor
    · rw [sq_code, code_mul h hD1 pb.1 (by omega), kc, Nat.xor_self]; rfl
    · rw [beq_iff_eq]
      unfold van at hv
      rw [if_neg c0, if_neg (by simp), if_pos (by simp), beq_iff_eq] at hv
      rw [hv, inv3]
      have o : code p (-prod [a, b, c]) = code p (-D) := by rw [code_opp h pb.1 (by omega), code_opp h hD1 (by omega), kc]
      have s1 : sym (-1) (-prod [a, b, c]) p = sym (-1) (-D) p := by unfold sym; rw [o]
      have i1 := code_in (p := p) (n := -1) (by omega) (by omega)
      have i2 := code_in (p := p) (n := -D) (by omega) (by omega)
      have t1 : sym (-1) 1 p = 1 := by unfold sym; rw [code_one h]; exact (symC_one h i1).2
      have t2 : sym (-D) 1 p = 1 := by unfold sym; rw [code_one h]; exact (symC_one h i2).2
      rw [s1, t1, t2, sym_comm (-D) (-1)]
      omega
theorem holds : laws_FnRest.Pure := by
  intro l0 _ _ hw
  refine Ev.rounds ?_
  unfold laws_FnRest.f
  by_cases big : (l0.length : Int) > 1048576
  · simp only [if_pos big]; exact Ev.now _
  obtain ⟨xs, hg, hd⟩ := restDraw_ev hw
  have hl := hg.1
  have h31 := hg.2.1
  have hb31 : ∀ x ∈ xs, x.natAbs ≤ 1000000 := fun x h => by have := h31 x h; omega
  simp only [if_neg big]
  refine hd.bind ((implRest_ev hb31 (by omega)).bind ((specRest_ev (xs := xs) (by omega)).bind ?_))
  simp only [bne_self_eq_false, Bool.false_eq_true, if_false, if_true]
  unfold restF
  by_cases c : xs.length = 3 ∧ formOk xs = true ∧ 0 < pall xs ∧ absI (disc xs) ≤ 30
  · rw [if_pos c]
    obtain ⟨c3, c1, cp, cd⟩ := c
    have hk := formOk_iff.1 c1
    have hds := disc_is hk.1 (by omega)
    apply Ev.step
    · intro k
      simp only [laws_FnRest.j0, Bool.not_true, Bool.false_eq_true, if_false]
      exact rfl
    refine (implFind_ev (f := xs) hb31 (by omega)).bind ?_
    match xs, c3, hk, hds, cp, cd, hg, c1 with
    | [a, b, c], _, hk, hds, cp, cd, hg, c1 =>
      have ha := hk.1 a (by simp)
      have hb := hk.1 b (by simp)
      have hc := hk.1 c (by simp)
      have hD : Sm (disc [a, b, c]) := ⟨hds.1, by unfold absI at cd; omega⟩
      have hv : ∀ p, Plc p → van [a, b, c] p = true := fun p hp => pall_van hp hk.1 (by simp) cp
      obtain ⟨g1, g2, g3⟩ := gd_three (gd_of hg c1)
      have hz : (zF [a, b, c]).isSome = true := by
        unfold zF
        rw [if_pos c1]
        exact z3_found g1 g2 g3 hv
      obtain ⟨z, hz⟩ := Option.isSome_iff_exists.1 hz
      simp only [hz, resS, if_true]
      have hy : formOk [1, -1, -disc [a, b, c]] = true := formOk_iff.2 ⟨by intro x hx; simp at hx; rcases hx with rfl | rfl | rfl; exact ⟨by omega, by omega⟩; exact ⟨by omega, by omega⟩; exact sm_opp hD, by simp, by simp⟩
      have pb := prod_bd4 hk.1 (by simp)
      have hdd : disc [1, -1, -disc [a, b, c]] = disc [a, b, c] := by
        have pd : prod [1, -1, -disc [a, b, c]] = disc [a, b, c] := by rw [prod3]; omega
        show (coreF (prod [1, -1, -disc [a, b, c]])).1 = _
        rw [pd]
        show (coreF (coreF (prod [a, b, c])).1).1 = _
        rw [core_core pb.1 (by omega)]; rfl
      refine (implSame_true (xs := [1, -1, -disc [a, b, c]]) (ys := [a, b, c]) hy c1 (by simp) hdd (fun p hp => ?_)).bind (Ev.now _)
      have hr := hds.2.2.2.1
      exact rest_alike (plc_plc hp) ha hb hc hD (r := (coreF (prod [a, b, c])).2) (by omega) (by rw [Int.mul_assoc]; exact hds.2.2.1) (hv p (plc_plc hp))
  · rw [if_neg c]
    apply Ev.step
    · intro k
      simp only [laws_FnRest.j0, Bool.not_false, if_true, beq_self_eq_true]
      exact rfl
    exact Ev.now _

end Go.Proofs.Ytnnpafjgghpecaa.QFnRest
