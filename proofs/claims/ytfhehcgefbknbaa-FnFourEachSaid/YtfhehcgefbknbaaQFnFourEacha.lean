/- Draws, ways of two and four squares. -/
import Derived.Test.YtfhehcgefbknbaaPFnFourEachx2
import Derived.Test.YtfhehcgefbknbaaFast
set_option linter.unusedVariables false
set_option linter.unusedSimpArgs false
namespace Go.Proofs.Ytfhehcgefbknbaa.QFnFourEach
open Go.RowKit Go.Proofs.Ytfhehcgefbknbaa.PFnFourEach Go.Proofs.YtfhehcgefbknbaaW.PrintWords Go.Proofs.YtfhehcgefbknbaaW.PrintLast Locg

/-! ### draws -/
theorem xor_i64_nat (a b : Nat) (ha : a < 9223372036854775808) (hb : b < 9223372036854775808) : Go.bits .xor .i64 (a : Int) (b : Int) = ((a ^^^ b : Nat) : Int) := by
  have hx : a ^^^ b < 2 ^ 63 := Nat.xor_lt_two_pow (by omega) (by omega)
  have h1 : (BitVec.ofInt 64 (a : Int)).toNat = a := by
    rw [BitVec.ofInt_natCast, BitVec.toNat_ofNat]; exact Nat.mod_eq_of_lt (by omega)
  have h2 : (BitVec.ofInt 64 (b : Int)).toNat = b := by
    rw [BitVec.ofInt_natCast, BitVec.toNat_ofNat]; exact Nat.mod_eq_of_lt (by omega)
  show IntKind.i64.wrap ((BitVec.ofInt 64 (a : Int) ^^^ BitVec.ofInt 64 (b : Int)).toNat : Int) = _
  rw [BitVec.toNat_xor, h1, h2]
  have hw : ∀ n : Int, IntKind.i64.wrap n = wrap64 n := fun n => by simp [IntKind.wrap, wrap64, IntKind.bits, IntKind.signed]; omega
  rw [hw]
  exact w64' (by omega) (by omega)
theorem xor_nonneg (a b : Int) (ha : 0 ≤ a) (hA : a < 9223372036854775808) (hb : 0 ≤ b) (hB : b < 9223372036854775808) : 0 ≤ Go.bits .xor .i64 a b := by
  obtain ⟨a, rfl⟩ := Int.eq_ofNat_of_zero_le ha
  obtain ⟨b, rfl⟩ := Int.eq_ofNat_of_zero_le hb
  rw [xor_i64_nat a b (by omega) (by omega)]
  exact Int.natCast_nonneg _
theorem tmod_range {x n : Int} (hx : 0 ≤ x) (hn : 1 ≤ n) : 0 ≤ x.tmod n ∧ x.tmod n < n := by
  rw [Int.tmod_eq_emod_of_nonneg hx]; exact ⟨Int.emod_nonneg _ (by omega), Int.emod_lt_of_pos _ (by omega)⟩
def BytesB (b : List Int) : Prop := (∀ x ∈ b, 0 ≤ x ∧ x ≤ 255) ∧ b.length ≤ 2000
theorem BytesB.rd_ {b : List Int} (h : BytesB b) (i : Int) : 0 ≤ rd b i ∧ rd b i ≤ 255 := by
  unfold rd
  by_cases c : i.toNat < b.length
  · have := h.1 (b[i.toNat]) (by simp)
    simpa [List.getElem?_eq_getElem c] using this
  · simp [List.getElem?_eq_none (show b.length ≤ i.toNat by omega)]
theorem pick_ev {b : List Int} (hb : BytesB b) {p : Int} (hp : 0 ≤ p) (hP : p ≤ 1000000) {n : Int} (hn : 1 ≤ n) :
    ∃ v, 0 ≤ v ∧ v < n ∧ Ev (fun k => spec_l6Rd_pick.f k b p n) (v, p + 1) := by
  have hl := hb.2
  rcases Nat.eq_zero_or_pos b.length with h0 | h0
  · refine ⟨0, by omega, by omega, Ev.step (f := fun _ => some (0, p + 1)) (fun k => ?_) (Ev.now _)⟩
    simp only [spec_l6Rd_pick.f, spec_l6Rd_pick.j0]
    rw [if_neg (by omega), w64 (x := p + 1) (by omega) (by omega), if_pos (by simp [h0])]
  · have e : ∀ k, spec_l6Rd_pick.f (k + 1) b p n = spec_l6Rd_pick.j0 (k + 1) n false b (p + 1) := by
      intro k
      simp only [spec_l6Rd_pick.f]
      rw [if_neg (by omega), w64 (x := p + 1) (by omega) (by omega)]
      congr 1
      simp; intro h; rw [h] at h0; simp at h0
    have hq : wrap64 (p + 1 - 1) = p := by rw [w64 (by omega) (by omega)]; omega
    by_cases c : p < b.length
    · refine ⟨(rd b p).tmod n, ?_, ?_, Ev.step (f := fun _ => some ((rd b p).tmod n, p + 1)) (fun k => ?_) (Ev.now _)⟩
      · exact (tmod_range (hb.rd_ p).1 hn).1
      · exact (tmod_range (hb.rd_ p).1 hn).2
      · have := hb.rd_ p
        rw [e]
        simp only [spec_l6Rd_pick.j0, hq]
        rw [if_neg (by simp), if_pos c, if_pos hp, if_neg (by omega), w64 (x := rd b p) (by omega) (by omega)]
    · have hm := tmod_range hp (n := b.length) (by omega)
      have e7 : wrap64 (p * 7) = p * 7 := w64 (by omega) (by omega)
      have e73 : wrap64 (p * 7 + 3) = p * 7 + 3 := w64 (by omega) (by omega)
      have e29 : wrap64 (p * 29) = p * 29 := w64 (by omega) (by omega)
      have hm2 := tmod_range (x := p * 7 + 3) (by omega) (n := b.length) (by omega)
      have hA := hb.rd_ (p.tmod b.length)
      have hB := hb.rd_ ((p * 7 + 3).tmod b.length)
      have hd : 0 ≤ p.tdiv b.length ∧ p.tdiv b.length ≤ p := by
        rw [Int.tdiv_eq_ediv_of_nonneg hp]; exact ⟨Int.ediv_nonneg hp (by omega), Int.ediv_le_self _ hp⟩
      generalize hAe : rd b (p.tmod b.length) = A at hA
      generalize hBe : rd b ((p * 7 + 3).tmod b.length) = B at hB
      generalize hDe : p.tdiv b.length = D at hd
      have hx64 : 0 ≤ (A * 131 + B * 1117 + p * 29 + D * 53).tdiv 64 ∧ (A * 131 + B * 1117 + p * 29 + D * 53).tdiv 64 ≤ A * 131 + B * 1117 + p * 29 + D * 53 := by
        rw [Int.tdiv_eq_ediv_of_nonneg (by omega)]; omega
      have hx := xor_nonneg (A * 131 + B * 1117 + p * 29 + D * 53) ((A * 131 + B * 1117 + p * 29 + D * 53).tdiv 64) (by omega) (by omega) (by omega) (by omega)
      refine ⟨(Go.bits .xor .i64 (A * 131 + B * 1117 + p * 29 + D * 53) ((A * 131 + B * 1117 + p * 29 + D * 53).tdiv 64)).tmod n, (tmod_range hx hn).1, (tmod_range hx hn).2, Ev.step (f := fun _ => some (_, p + 1)) (fun k => ?_) (Ev.now _)⟩
      rw [e]
      simp only [spec_l6Rd_pick.j0, hq, e7, e73, hAe, hBe, hDe, e29]
      rw [if_neg (by simp), if_neg c, if_neg (by omega), if_pos hm.1, if_pos hm.2, if_pos hm2.1, if_pos hm2.2, if_neg (by omega)]
      rw [w64 (x := A) (by omega) (by omega), w64 (x := B) (by omega) (by omega), w64 (x := D) (by omega) (by omega), w64 (x := A * 131) (by omega) (by omega), w64 (x := B * 1117) (by omega) (by omega),
        w64 (x := A * 131 + B * 1117) (by omega) (by omega), w64 (x := A * 131 + B * 1117 + p * 29) (by omega) (by omega), w64 (x := D * 53) (by omega) (by omega),
        w64 (x := A * 131 + B * 1117 + p * 29 + D * 53) (by omega) (by omega), w64 (x := (A * 131 + B * 1117 + p * 29 + D * 53).tdiv 64) (by omega) (by omega)]
theorem open_ev {l : List Int} (h : ∀ x ∈ l, (Lit.int .u8 x).wf = true) : ∃ b, BytesB b ∧ spec_l6Open.f l = some (b, 0) := by
  have h' : ∀ x ∈ l, 0 ≤ x ∧ x ≤ 255 := fun x hx => by
    have := h x hx
    simp only [Lit.wf, Bool.and_eq_true, decide_eq_true_eq] at this
    have e1 : IntKind.u8.min = 0 := by decide
    have e2 : IntKind.u8.max = 255 := by decide
    omega
  unfold spec_l6Open.f
  by_cases c : (l.length : Int) > 2000
  · refine ⟨l.take 2000, ⟨fun x hx => h' x (List.mem_of_mem_take hx), by simp; omega⟩, ?_⟩
    rw [if_pos c, if_pos (by omega)]
  · exact ⟨l, ⟨h', by omega⟩, by rw [if_neg c]⟩

/-! ### roots -/
theorem l5Root_l (n : Int) (h0 : 0 ≤ n) : ∀ (d : Nat) (lo hi : Int) (k : Nat), 0 ≤ lo → lo ≤ hi → hi ≤ 1048576 → (hi - lo).toNat ≤ d → d < k → n ≤ hi * hi → (lo = 0 ∨ (lo - 1) * (lo - 1) < n) →
    spec_l5Root.l0 k n lo hi = some (if isq n * isq n = n then isq n else -1) := by
  intro d
  induction d with
  | zero =>
    intro k_ hi k hlo hle hhi hd hk hn hl
    obtain ⟨k, rfl⟩ : ∃ m, k = m + 1 := ⟨k - 1, by omega⟩
    obtain rfl : k_ = hi := by omega
    simp only [spec_l5Root.l0]
    rw [if_neg (by omega), wmul hlo (by omega) hlo (by omega)]
    by_cases e : k_ * k_ = n
    · have hq : isq n = k_ := by rw [← e]; exact isq_sq hlo
      rw [if_pos e, hq, if_pos e]
    · rw [if_neg e]
      have h1 : (k_ - 1) * (k_ - 1) < n := by
        rcases hl with h | h
        · subst h; omega
        · exact h
      have hp : 0 < k_ := by
        rcases Int.lt_or_le 0 k_ with h | h
        · exact h
        · obtain rfl : k_ = 0 := by omega
          omega
      have hq : isq n = k_ - 1 := isq_unique (by omega) (by omega) (by rw [show k_ - 1 + 1 = k_ from by omega]; omega)
      rw [hq, if_neg (by omega)]
  | succ d ih =>
    intro lo hi k hlo hle hhi hd hk hn hl
    rcases Int.lt_or_le lo hi with hlt | hge
    · obtain ⟨k, rfl⟩ : ∃ m, k = m + 1 := ⟨k - 1, by omega⟩
      simp only [spec_l5Root.l0]
      rw [if_pos hlt]
      have e1 : wrap64 (lo + hi) = lo + hi := w64 (by omega) (by omega)
      have e2 : Int.tdiv (lo + hi) 2 = (lo + hi) / 2 := tdiv2 (by omega)
      have e3 : wrap64 ((lo + hi) / 2) = (lo + hi) / 2 := w64 (by omega) (by omega)
      rw [e1, e2, e3, wmul (a := (lo + hi) / 2) (b := (lo + hi) / 2) (by omega) (by omega) (by omega) (by omega)]
      by_cases c : (lo + hi) / 2 * ((lo + hi) / 2) < n
      · rw [if_pos c, w64 (x := (lo + hi) / 2 + 1) (by omega) (by omega)]
        exact ih _ _ _ (by omega) (by omega) (by omega) (by omega) (by omega) hn (.inr (by rw [show (lo + hi) / 2 + 1 - 1 = (lo + hi) / 2 from by omega]; exact c))
      · rw [if_neg c]
        exact ih _ _ _ (by omega) (by omega) (by omega) (by omega) (by omega) (by omega) hl
    · exact ih _ _ _ hlo hle hhi (by omega) (by omega) hn hl
theorem l5Root (n : Int) (h0 : 0 ≤ n) (hn : n ≤ 1099511627776) (k : Nat) (hk : 1048577 < k) : spec_l5Root.f k n = some (if isq n * isq n = n then isq n else -1) :=
  l5Root_l n h0 1048576 0 1048576 k (by omega) (by omega) (by omega) (by omega) (by omega) (by omega) (.inl rfl)
theorem l5Root_ev (n : Int) (h0 : 0 ≤ n) (hn : n ≤ 1099511627776) : Ev (fun k => spec_l5Root.f k n) (if isq n * isq n = n then isq n else -1) := ⟨1048578, fun k hk => l5Root n h0 hn k (by omega)⟩

theorem squareRoot_l (n : Int) (h0 : 0 ≤ n) (hn : n < 4611686018427387904) : ∀ (d : Nat) (x bit : Int) (k : Nat), 0 ≤ x → x * x ≤ n → n < (x + 2 * bit) * (x + 2 * bit) → x + 2 * bit ≤ 2147483648 → bit = 2 ^ d → d + 1 < k →
    impl_squareRoot.l0 k n x bit = some (isq n, isq n * isq n == n) := by
  intro d
  have stop : ∀ (x : Int) (k : Nat), 0 ≤ x → x * x ≤ n → n < (x + 1) * (x + 1) → 0 < k → impl_squareRoot.l0 k n x 0 = some (isq n, isq n * isq n == n) := by
    intro x k hx hl hg hk
    obtain ⟨k, rfl⟩ : ∃ m, k = m + 1 := ⟨k - 1, by omega⟩
    simp only [impl_squareRoot.l0]
    have hb : x < 2147483648 := by
      rcases Int.lt_or_le x 2147483648 with h | h
      · exact h
      · have := sq_le (by omega) h; omega
    have hm : wrap64 (x * x) = x * x := w64' (sq_nonneg x) (by omega)
    rw [if_neg (by omega), hm, isq_unique hx hl hg]
  induction d with
  | zero =>
    intro x bit k hx hl hg hB hb hk
    obtain ⟨k, rfl⟩ : ∃ m, k = m + 1 := ⟨k - 1, by omega⟩
    obtain rfl : bit = 1 := by simpa using hb
    simp only [impl_squareRoot.l0]
    have hs := sq_le (a := x + 1) (b := 2147483648) (by omega) (by omega)
    rw [if_pos (by omega), w64 (x := x + 1) (by omega) (by omega), w64' (x := (x + 1) * (x + 1)) (sq_nonneg _) (by omega)]
    have e : wrap64 (Int.tdiv 1 2) = 0 := by decide +kernel
    rw [e]
    by_cases c : (x + 1) * (x + 1) ≤ n
    · rw [if_pos c]
      exact stop _ _ (by omega) c (by rw [show x + 1 + 1 = x + 2 * 1 from by omega]; exact hg) (by omega)
    · rw [if_neg c]
      exact stop _ _ hx hl (by omega) (by omega)
  | succ d ih =>
    intro x bit k hx hl hg hB hb hk
    obtain ⟨k, rfl⟩ : ∃ m, k = m + 1 := ⟨k - 1, by omega⟩
    have hp : (0 : Int) < 2 ^ d := Int.pow_pos (by omega)
    obtain ⟨c2, hc2⟩ : ∃ c2 : Int, c2 = 2 ^ d := ⟨_, rfl⟩
    have hb2 : bit = 2 * c2 := by rw [hb, Int.pow_succ, hc2]; omega
    subst hb2
    simp only [impl_squareRoot.l0]
    have hs := sq_le (a := x + 2 * c2) (b := 2147483648) (by omega) (by omega)
    have e : wrap64 (Int.tdiv (2 * c2) 2) = c2 := by rw [tdiv2 (by omega), w64 (by omega) (by omega)]; omega
    rw [if_pos (by omega), w64 (x := x + 2 * c2) (by omega) (by omega), w64' (x := (x + 2 * c2) * (x + 2 * c2)) (sq_nonneg _) (by omega), e]
    by_cases c : (x + 2 * c2) * (x + 2 * c2) ≤ n
    · rw [if_pos c]
      exact ih _ _ _ (by omega) c (by rw [show x + 2 * c2 + 2 * c2 = x + 2 * (2 * c2) from by omega]; exact hg) (by omega) hc2 (by omega)
    · rw [if_neg c]
      exact ih _ _ _ hx hl (by omega) (by omega) hc2 (by omega)
theorem squareRoot (n : Int) (h0 : 0 ≤ n) (hn : n < 4611686018427387904) (k : Nat) (hk : 31 < k) : impl_squareRoot.f k n = some (isq n, isq n * isq n == n) := by
  unfold impl_squareRoot.f
  rw [if_neg (by omega)]
  exact squareRoot_l n h0 hn 30 0 1073741824 k (by omega) (by omega) (by omega) (by omega) (by decide) (by omega)
theorem squareRoot_ev (n : Int) (h0 : 0 ≤ n) (hn : n < 4611686018427387904) : Ev (fun k => impl_squareRoot.f k n) (isq n, isq n * isq n == n) := ⟨32, fun k hk => squareRoot n h0 hn k (by omega)⟩

/-! ### ways of two squares -/
theorem l8Two_l (n : Int) (h0 : 0 ≤ n) (hn : n ≤ 1000000) : ∀ (d : Nat) (acc x : Int) (k : Nat), 0 ≤ x → x + d = isq n + 1 → 0 ≤ acc → acc ≤ 4 * x → d + 1048578 < k →
    spec_l8Two.l0 k n acc x = some (acc + r2from n d x) := by
  have hq : isq n < 1001 := isq_bound h0 (by omega) (by omega)
  have hq1 := isq_lt h0
  have hq2 := isq_le h0
  intro d
  induction d with
  | zero =>
    intro acc x k hx hd ha hA hk
    obtain ⟨k, rfl⟩ : ∃ m, k = m + 1 := ⟨k - 1, by omega⟩
    have e : x = isq n + 1 := by omega
    simp only [spec_l8Two.l0, r2from]
    rw [wmul hx (by omega) hx (by omega), e, if_neg (by omega)]
    simp
  | succ d ih =>
    intro acc x k hx hd ha hA hk
    obtain ⟨k, rfl⟩ : ∃ m, k = m + 1 := ⟨k - 1, by omega⟩
    have hxq := sq_le hx (show x ≤ isq n by omega)
    have hx0 := sq_nonneg x
    simp only [spec_l8Two.l0, r2from]
    rw [wmul hx (by omega) hx (by omega), if_pos (by omega), w64 (x := n - x * x) (by omega) (by omega), l5Root _ (by omega) (by omega) k (by omega)]
    simp only [Option.bind_some]
    rw [w64 (x := x + 1) (by omega) (by omega)]
    have hw := wayW_bd n x
    rw [← Int.add_assoc]
    unfold wayW at hw ⊢
    have hi := isq_nonneg (n - x * x)
    by_cases c : isq (n - x * x) * isq (n - x * x) = n - x * x
    · simp only [if_pos c] at hw ⊢
      rw [if_pos (by omega)]
      by_cases c1 : x > 0 <;> by_cases c2 : isq (n - x * x) > 0 <;> simp only [if_pos, if_neg, c1, c2, not_false_eq_true] at hw ⊢ <;> rw [w64 (by omega) (by omega)] <;> exact ih _ _ _ (by omega) (by omega) (by omega) (by omega) (by omega)
    · simp only [if_neg c] at hw ⊢
      rw [if_neg (by omega)]
      simpa using ih _ _ _ (by omega) (by omega) (by omega) (by omega) (by omega)
theorem l8Two_ev (n : Int) (h0 : 0 ≤ n) (hn : n ≤ 1000000) : Ev (fun k => spec_l8Two.f k n) (r2 n) := by
  refine ⟨(isq n + 1).toNat + 1048579, fun k hk => ?_⟩
  have := l8Two_l n h0 hn (isq n + 1).toNat 0 0 k (by omega) (by have := isq_nonneg n; omega) (by omega) (by omega) (by omega)
  simpa [spec_l8Two.f, r2] using this
theorem twoWays_l (n : Int) (h0 : 0 ≤ n) (hn : n ≤ 1000000) : ∀ (d : Nat) (acc x : Int) (k : Nat), 0 ≤ x → x + d = isq n + 1 → 0 ≤ acc → acc ≤ 4 * x → d + 32 < k →
    impl_twoWays.l0 k n acc x = some (acc + r2from n d x) := by
  have hq : isq n < 1001 := isq_bound h0 (by omega) (by omega)
  have hq1 := isq_lt h0
  have hq2 := isq_le h0
  intro d
  induction d with
  | zero =>
    intro acc x k hx hd ha hA hk
    obtain ⟨k, rfl⟩ : ∃ m, k = m + 1 := ⟨k - 1, by omega⟩
    have e : x = isq n + 1 := by omega
    simp only [impl_twoWays.l0, r2from]
    rw [wmul hx (by omega) hx (by omega), e, if_neg (by omega)]
    simp
  | succ d ih =>
    intro acc x k hx hd ha hA hk
    obtain ⟨k, rfl⟩ : ∃ m, k = m + 1 := ⟨k - 1, by omega⟩
    have hxq := sq_le hx (show x ≤ isq n by omega)
    have hx0 := sq_nonneg x
    simp only [impl_twoWays.l0, r2from]
    rw [wmul hx (by omega) hx (by omega), if_pos (by omega), w64 (x := n - x * x) (by omega) (by omega), squareRoot _ (by omega) (by omega) k (by omega)]
    simp only [Option.bind_some]
    rw [w64 (x := x + 1) (by omega) (by omega)]
    have hw := wayW_bd n x
    rw [← Int.add_assoc]
    unfold wayW at hw ⊢
    have hi := isq_nonneg (n - x * x)
    by_cases c : isq (n - x * x) * isq (n - x * x) = n - x * x
    · simp only [if_pos c] at hw ⊢
      rw [if_pos (by rw [beq_iff_eq]; exact c)]
      by_cases c1 : x > 0 <;> by_cases c2 : isq (n - x * x) > 0 <;> simp only [if_pos, if_neg, c1, c2, not_false_eq_true] at hw ⊢ <;> rw [w64 (by omega) (by omega)] <;> exact ih _ _ _ (by omega) (by omega) (by omega) (by omega) (by omega)
    · simp only [if_neg c] at hw ⊢
      rw [if_neg (by rw [beq_iff_eq]; exact c)]
      simpa using ih _ _ _ (by omega) (by omega) (by omega) (by omega) (by omega)
theorem twoWays_ev (n : Int) (h0 : 0 ≤ n) (hn : n ≤ 1000000) : Ev (fun k => impl_twoWays.f k n) (r2 n) := by
  refine ⟨(isq n + 1).toNat + 33, fun k hk => ?_⟩
  have := twoWays_l n h0 hn (isq n + 1).toNat 0 0 k (by omega) (by have := isq_nonneg n; omega) (by omega) (by omega) (by omega)
  simpa [impl_twoWays.f, r2] using this

/-! ### FourEach -/
theorem specFour_l (n : Int) (h0 : 0 ≤ n) (hn : n ≤ 300) : ∀ (d : Nat) (acc x : Int), 0 ≤ x → x + d = n + 1 → 0 ≤ acc → acc ≤ 6000 * x →
    Ev (fun k => spec_FourEach.l0 k n acc x) (acc + conv n d x) := by
  intro d
  induction d with
  | zero =>
    intro acc x hx hd ha hA
    refine Ev.step (f := fun _ => some acc) (fun k => ?_) (by simpa [conv] using Ev.now acc)
    simp only [spec_FourEach.l0]
    rw [if_neg (by omega)]
  | succ d ih =>
    intro acc x hx hd ha hA
    have b1 := r2_bd hx
    have b2 := r2_bd (n := n - x) (by omega)
    have q1 : isq x < 18 := isq_bound hx (by omega) (by omega)
    have q2 : isq (n - x) < 18 := isq_bound (by omega) (by omega) (by omega)
    have hm := Int.mul_nonneg b1.1 b2.1
    have hM := mul_le2 b1.1 (show r2 x ≤ 72 by omega) b2.1 (show r2 (n - x) ≤ 72 by omega)
    refine Ev.step (f := fun k => (spec_l8Two.f k x).bind fun t103 => ((spec_l8Two.f k (n - x)).bind fun t104 => (spec_FourEach.l0 k n (wrap64 (acc + (wrap64 (t103 * t104)))) (x + 1)))) (fun k => ?_) ?_
    · simp only [spec_FourEach.l0]
      rw [if_pos (by omega), w64 (x := n - x) (by omega) (by omega), w64 (x := x + 1) (by omega) (by omega)]
    · refine (l8Two_ev x hx (by omega)).bind ((l8Two_ev (n - x) (by omega) (by omega)).bind ?_)
      rw [w64 (x := r2 x * r2 (n - x)) (by omega) (by omega), w64 (x := acc + r2 x * r2 (n - x)) (by omega) (by omega)]
      have := ih (acc + r2 x * r2 (n - x)) (x + 1) (by omega) (by omega) (by omega) (by omega)
      simpa [conv, Int.add_assoc] using this
theorem specFourEach_ev (n : Int) : Ev (fun k => spec_FourEach.f k n) (if 0 ≤ n ∧ n ≤ 300 then r4 n else -1) := by
  unfold spec_FourEach.f spec_l6In.f
  by_cases h : 0 ≤ n ∧ n ≤ 300
  · simp only [ge_iff_le, if_pos h.1, Option.bind_some, decide_eq_true h.2, if_true, if_pos h]
    simpa [r4] using specFour_l n h.1 h.2 (n + 1).toNat 0 0 (by omega) (by omega) (by omega) (by omega)
  · rw [if_neg h]
    by_cases h0 : 0 ≤ n
    · have h2 : ¬ n ≤ 300 := fun h2 => h ⟨h0, h2⟩
      simp only [ge_iff_le, if_pos h0, Option.bind_some, decide_eq_false h2, Bool.false_eq_true, if_false]
      exact Ev.now _
    · simp only [ge_iff_le, if_neg h0, Option.bind_some, Bool.false_eq_true, if_false]
      exact Ev.now _
theorem implFour_l (n : Int) (h0 : 0 ≤ n) (hn : n ≤ 300) : ∀ (d : Nat) (acc x : Int), 0 ≤ x → x + d = n + 1 → 0 ≤ acc → acc ≤ 6000 * x →
    Ev (fun k => impl_FourEach.l0 k n acc x) (acc + conv n d x) := by
  intro d
  induction d with
  | zero =>
    intro acc x hx hd ha hA
    refine Ev.step (f := fun _ => some acc) (fun k => ?_) (by simpa [conv] using Ev.now acc)
    simp only [impl_FourEach.l0]
    rw [if_neg (by omega)]
  | succ d ih =>
    intro acc x hx hd ha hA
    have b1 := r2_bd hx
    have b2 := r2_bd (n := n - x) (by omega)
    have q1 : isq x < 18 := isq_bound hx (by omega) (by omega)
    have q2 : isq (n - x) < 18 := isq_bound (by omega) (by omega) (by omega)
    have hm := Int.mul_nonneg b1.1 b2.1
    have hM := mul_le2 b1.1 (show r2 x ≤ 72 by omega) b2.1 (show r2 (n - x) ≤ 72 by omega)
    refine Ev.step (f := fun k => (impl_twoWays.f k x).bind fun t103 => ((impl_twoWays.f k (n - x)).bind fun t104 => (impl_FourEach.l0 k n (wrap64 (acc + (wrap64 (t103 * t104)))) (x + 1)))) (fun k => ?_) ?_
    · simp only [impl_FourEach.l0]
      rw [if_pos (by omega), w64 (x := n - x) (by omega) (by omega), w64 (x := x + 1) (by omega) (by omega)]
    · refine (twoWays_ev x hx (by omega)).bind ((twoWays_ev (n - x) (by omega) (by omega)).bind ?_)
      rw [w64 (x := r2 x * r2 (n - x)) (by omega) (by omega), w64 (x := acc + r2 x * r2 (n - x)) (by omega) (by omega)]
      have := ih (acc + r2 x * r2 (n - x)) (x + 1) (by omega) (by omega) (by omega) (by omega)
      simpa [conv, Int.add_assoc] using this
theorem implFourEach_ev (n : Int) : Ev (fun k => impl_FourEach.f k n) (if 0 ≤ n ∧ n ≤ 300 then r4 n else -1) := by
  unfold impl_FourEach.f
  by_cases h : 0 ≤ n ∧ n ≤ 300
  · simp only [if_neg (show ¬ n < 0 by omega), decide_eq_false (show ¬ n > 300 by omega), if_pos h]
    refine Ev.step (f := fun k => impl_FourEach.l0 k n 0 0) (fun k => by simp [impl_FourEach.j0]) ?_
    simpa [r4] using implFour_l n h.1 h.2 (n + 1).toNat 0 0 (by omega) (by omega) (by omega) (by omega)
  · rw [if_neg h]
    refine Ev.step (f := fun _ => some (-1)) (fun k => ?_) (Ev.now _)
    by_cases h0 : n < 0
    · simp [impl_FourEach.j0, h0]
    · simp [impl_FourEach.j0, h0, show n > 300 by omega]
theorem implTwoEach_ev (n : Int) : Ev (fun k => impl_TwoEach.f k n) (if 0 ≤ n ∧ n ≤ 2000 then r2 n else -1) := by
  unfold impl_TwoEach.f
  by_cases h : 0 ≤ n ∧ n ≤ 2000
  · simp only [if_neg (show ¬ n < 0 by omega), if_neg (show ¬ n > 2000 by omega), if_pos h]
    exact (twoWays_ev n h.1 (by omega)).bind (Ev.now _)
  · rw [if_neg h]
    by_cases h0 : n < 0
    · simp only [if_pos h0]; exact Ev.now _
    · simp only [if_neg h0, if_pos (show n > 2000 by omega)]; exact Ev.now _

theorem draw_ev {l : List Int} (h : ∀ x ∈ l, (Lit.int .u8 x).wf = true) : ∃ n, -1 ≤ n ∧ n ≤ 300 ∧ Ev (fun k => spec_DrawFourEach.f k l) n := by
  obtain ⟨b, hb, ho⟩ := open_ev h
  obtain ⟨v1, h1, g1, e1⟩ := pick_ev hb (p := 0) (by omega) (by omega) (n := 100) (by omega)
  obtain ⟨v2, h2, g2, e2⟩ := pick_ev hb (p := 0 + 1) (by omega) (by omega) (n := 20) (by omega)
  obtain ⟨v3, h3, g3, e3⟩ := pick_ev hb (p := 0 + 1 + 1) (by omega) (by omega) (n := 20) (by omega)
  have d2 : v2.tdiv 19 = v2 / 19 := Int.tdiv_eq_ediv_of_nonneg h2
  have d3 : v3.tdiv 19 = v3 / 19 := Int.tdiv_eq_ediv_of_nonneg h3
  refine ⟨v1 - v2 / 19 + v3 / 19 * 201, by omega, by omega, ?_⟩
  simp only [spec_DrawFourEach.f, ho, Option.bind_some]
  refine e1.bind (e2.bind (e3.bind ?_))
  simp only [d2, d3]
  rw [w64 (x := v2 / 19) (by omega) (by omega), w64 (x := v3 / 19) (by omega) (by omega), w64 (x := v1 - v2 / 19) (by omega) (by omega), w64 (x := v3 / 19 * 201) (by omega) (by omega),
    w64 (x := v1 - v2 / 19 + v3 / 19 * 201) (by omega) (by omega)]
  exact Ev.now _
theorem r4_ge {n : Int} (h0 : 0 ≤ n) (hn : n ≤ 300) : r2 n ≤ r4 n := by
  have e : r4 n = r2 0 * r2 (n - 0) + conv n n.toNat (0 + 1) := by
    unfold r4; rw [show (n + 1).toNat = n.toNat + 1 from by omega]; rfl
  have hz : ∀ (d : Nat) (k : Int), 0 ≤ k → k + d ≤ n + 1 → 0 ≤ conv n d k := by
    intro d
    induction d with
    | zero => intro k _ _; simp [conv]
    | succ d ih =>
      intro k h1 h2
      have := ih (k + 1) (by omega) (by omega)
      have := Int.mul_nonneg (r2_bd h1).1 (r2_bd (n := n - k) (by omega)).1
      simp only [conv]; omega
  have h1 := hz n.toNat 1 (by omega) (by omega)
  have h2 : r2 0 = 1 := by have := r2N_eq (n := 0) (by omega); rw [show r2 0 = r2 ((0 : Nat) : Int) from rfl, this]; decide +kernel
  rw [e, h2, Int.sub_zero, Int.zero_add]; omega
theorem s4_pos (n : Nat) (h : 1 ≤ n) : 1 ≤ s4 n n := by
  have : ∀ k, 1 ≤ k → 1 ≤ s4 n k := by
    intro k
    induction k with
    | zero => intro h; omega
    | succ k ih =>
      intro _
      have e : s4 n (k + 1) = s4 n k + (bif Nat.beq (n % (k + 1)) 0 then (bif Nat.beq ((k + 1) % 4) 0 then 0 else (k + 1)) else 0) := rfl
      rcases Nat.eq_zero_or_pos k with h0 | h0
      · subst h0; rw [e]; simp [Nat.mod_one]; exact Nat.le_add_left 1 _
      · have := ih h0; omega
  exact this n h
theorem holds : laws_FnFourEach.Pure := by
  intro l0 _ _ hw
  refine Ev.rounds ?_
  unfold laws_FnFourEach.f
  by_cases big : (l0.length : Int) > 1048576
  · simp only [if_pos big]; exact Ev.now _
  obtain ⟨n, h1, h2, hd⟩ := draw_ev hw
  simp only [if_neg big]
  refine hd.bind ((implFourEach_ev n).bind ((specFourEach_ev n).bind ?_))
  simp only [if_true, beq_self_eq_true]
  rcases Int.lt_or_le n 0 with hn | hn
  · simp only [if_neg (show ¬ (0 ≤ n ∧ n ≤ 300) by omega), show ((-1 : Int) < 0) by decide, if_true]; exact Ev.now _
  · simp only [if_pos (show 0 ≤ n ∧ n ≤ 300 by omega)]
    have hr := r4_eq n.toNat (by omega)
    rw [show ((n.toNat : Nat) : Int) = n from by omega] at hr
    have hg := r4_ge hn h2
    have ht := implTwoEach_ev n
    rw [if_pos (by omega)] at ht
    rcases Int.lt_or_le 0 n with hp | hp
    · have hs := s4_pos n.toNat (by omega)
      rw [if_neg (by omega)] at hr
      generalize s4 n.toNat n.toNat = s at hr hs
      have hm : (r4 n).tmod 8 = 0 := by rw [Int.tmod_eq_emod_of_nonneg (by omega)]; omega
      simp only [if_neg (show ¬ r4 n < 0 by omega), if_pos (show r4 n ≥ 1 by omega), if_neg (show ¬ n = 0 by omega), if_pos (show n > 0 by omega), if_pos hm]
      refine ht.bind ?_
      simp only [decide_eq_true (show r4 n ≥ r2 n by omega)]
      exact Ev.now _
    · obtain rfl : n = 0 := by omega
      have hr1 : r4 0 = 1 := by rw [hr]; rfl
      simp only [hr1, show ¬ ((1 : Int) < 0) by decide, if_false, show (1 : Int) ≥ 1 by decide, if_true]
      refine ht.bind ?_
      simp only [decide_eq_true (show (1 : Int) ≥ r2 0 by omega)]
      exact Ev.now _

end Go.Proofs.Ytfhehcgefbknbaa.QFnFourEach
