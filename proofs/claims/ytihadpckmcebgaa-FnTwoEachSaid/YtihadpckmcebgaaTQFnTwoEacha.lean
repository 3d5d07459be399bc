/- Ways of two squares. -/
import Derived.Test.YtihadpckmcebgaaTPFnTwoEachx2
import Derived.Test.YtihadpckmcebgaaTVcn
import Derived.Test.YtihadpckmcebgaaTPlain
set_option linter.unusedVariables false
set_option linter.unusedSimpArgs false
namespace Go.Proofs.Ytihadpckmcebgaa.QFnTwoEach
open Go.RowKit Go.Proofs.Ytihadpckmcebgaa.PFnTwoEach Go.Proofs.YtihadpckmcebgaaW.PrintWords Go.Proofs.YtihadpckmcebgaaW.PrintLast Go.Proofs.YtihadpckmcebgaaW.PrintMore Locg

/-! ### draws -/
theorem xor_i64_nat (a b : Nat) (ha : a < 9223372036854775808) (hb : b < 9223372036854775808) : Go.bits .xor .i64 (a : Int) (b : Int) = ((a ^^^ b : Nat) : Int) := by
  have hx : a ^^^ b < 2 ^ 63 := Nat.xor_lt_two_pow (by omega) (by omega)
  have h1 : (BitVec.ofInt 64 (a : Int)).toNat = a := by
    rw [BitVec.ofInt_natCast, BitVec.toNat_ofNat]; exact Nat.mod_eq_of_lt (by omega)
  have h2 : (BitVec.ofInt 64 (b : Int)).toNat = b := by
    rw [BitVec.ofInt_natCast, BitVec.toNat_ofNat]; exact Nat.mod_eq_of_lt (by omega)
  show IntKind.i64.wrap ((BitVec.ofInt 64 (a : Int) ^^^ BitVec.ofInt 64 (b : Int)).toNat : Int) = _
  rw [BitVec.toNat_xor, h1, h2]
  have hw : ∀ n : Int, IntKind.i64.wrap n = wrap64 n := fun n => by simp [IntKind.wrap, wrap64, IntKind.bits, IntKind.signed]; omega
  rw [hw]
  exact w64' (by omega) (by omega)
theorem xor_nonneg (a b : Int) (ha : 0 ≤ a) (hA : a < 9223372036854775808) (hb : 0 ≤ b) (hB : b < 9223372036854775808) : 0 ≤ Go.bits .xor .i64 a b := by
  obtain ⟨a, rfl⟩ := Int.eq_ofNat_of_zero_le ha
  obtain ⟨b, rfl⟩ := Int.eq_ofNat_of_zero_le hb
  rw [xor_i64_nat a b (by omega) (by omega)]
  exact Int.natCast_nonneg _
theorem tmod_range {x n : Int} (hx : 0 ≤ x) (hn : 1 ≤ n) : 0 ≤ x.tmod n ∧ x.tmod n < n := by
  rw [Int.tmod_eq_emod_of_nonneg hx]; exact ⟨Int.emod_nonneg _ (by omega), Int.emod_lt_of_pos _ (by omega)⟩
def BytesB (b : List Int) : Prop := (∀ x ∈ b, 0 ≤ x ∧ x ≤ 255) ∧ b.length ≤ 2000
theorem BytesB.rd_ {b : List Int} (h : BytesB b) (i : Int) : 0 ≤ rd b i ∧ rd b i ≤ 255 := by
  unfold rd
  by_cases c : i.toNat < b.length
  · have := h.1 (b[i.toNat]) (by simp)
    simpa [List.getElem?_eq_getElem c] using this
  · simp [List.getElem?_eq_none (show b.length ≤ i.toNat by omega)]
/-- What the reader mixes at a place. -/
def pv (b : List Int) (p : Int) : Int := if b.length = 0 then 0 else if p < (b.length : Int) then rd b p else
  Go.bits .xor .i64 (rd b (p.tmod b.length) * 131 + rd b ((p * 7 + 3).tmod b.length) * 1117 + p * 29 + p.tdiv b.length * 53) ((rd b (p.tmod b.length) * 131 + rd b ((p * 7 + 3).tmod b.length) * 1117 + p * 29 + p.tdiv b.length * 53).tdiv 64)
theorem pick_at {b : List Int} (hb : BytesB b) {p : Int} (hp : 0 ≤ p) (hP : p ≤ 1000000000000000) {n : Int} (hn : 1 ≤ n) :
    0 ≤ pv b p ∧ Ev (fun k => spec_l6Rd_pick.f k b p n) ((pv b p).tmod n, p + 1) := by
  have hl := hb.2
  unfold pv
  rcases Nat.eq_zero_or_pos b.length with h0 | h0
  · rw [if_pos h0, Int.zero_tmod]
    refine ⟨by omega, Ev.step (f := fun _ => some (0, p + 1)) (fun k => ?_) (Ev.now _)⟩
    simp only [spec_l6Rd_pick.f, spec_l6Rd_pick.j0]
    rw [if_neg (by omega), w64 (x := p + 1) (by omega) (by omega), if_pos (by simp [h0])]
  · have e : ∀ k, spec_l6Rd_pick.f (k + 1) b p n = spec_l6Rd_pick.j0 (k + 1) n false b (p + 1) := by
      intro k
      simp only [spec_l6Rd_pick.f]
      rw [if_neg (by omega), w64 (x := p + 1) (by omega) (by omega)]
      congr 1
      simp; intro h; rw [h] at h0; simp at h0
    have hq : wrap64 (p + 1 - 1) = p := by rw [w64 (by omega) (by omega)]; omega
    rw [if_neg (by omega)]
    by_cases c : p < b.length
    · rw [if_pos c]
      refine ⟨(hb.rd_ p).1, Ev.step (f := fun _ => some ((rd b p).tmod n, p + 1)) (fun k => ?_) (Ev.now _)⟩
      have := hb.rd_ p
      rw [e]
      simp only [spec_l6Rd_pick.j0, hq]
      rw [if_neg (by simp), if_pos c, if_pos hp, if_neg (by omega), w64 (x := rd b p) (by omega) (by omega)]
    · rw [if_neg c]
      have hm := tmod_range hp (n := b.length) (by omega)
      have e7 : wrap64 (p * 7) = p * 7 := w64 (by omega) (by omega)
      have e73 : wrap64 (p * 7 + 3) = p * 7 + 3 := w64 (by omega) (by omega)
      have e29 : wrap64 (p * 29) = p * 29 := w64 (by omega) (by omega)
      have hm2 := tmod_range (x := p * 7 + 3) (by omega) (n := b.length) (by omega)
      have hA := hb.rd_ (p.tmod b.length)
      have hB := hb.rd_ ((p * 7 + 3).tmod b.length)
      have hd : 0 ≤ p.tdiv b.length ∧ p.tdiv b.length ≤ p := by
        rw [Int.tdiv_eq_ediv_of_nonneg hp]; exact ⟨Int.ediv_nonneg hp (by omega), Int.ediv_le_self _ hp⟩
      generalize hAe : rd b (p.tmod b.length) = A at hA
      generalize hBe : rd b ((p * 7 + 3).tmod b.length) = B at hB
      generalize hDe : p.tdiv b.length = D at hd
      have hx64 : 0 ≤ (A * 131 + B * 1117 + p * 29 + D * 53).tdiv 64 ∧ (A * 131 + B * 1117 + p * 29 + D * 53).tdiv 64 ≤ A * 131 + B * 1117 + p * 29 + D * 53 := by
        rw [Int.tdiv_eq_ediv_of_nonneg (by omega)]; omega
      have hx := xor_nonneg (A * 131 + B * 1117 + p * 29 + D * 53) ((A * 131 + B * 1117 + p * 29 + D * 53).tdiv 64) (by omega) (by omega) (by omega) (by omega)
      refine ⟨hx, Ev.step (f := fun _ => some (_, p + 1)) (fun k => ?_) (Ev.now _)⟩
      rw [e]
      simp only [spec_l6Rd_pick.j0, hq, e7, e73, hAe, hBe, hDe, e29]
      rw [if_neg (by simp), if_neg c, if_neg (by omega), if_pos hm.1, if_pos hm.2, if_pos hm2.1, if_pos hm2.2, if_neg (by omega)]
      rw [w64 (x := A) (by omega) (by omega), w64 (x := B) (by omega) (by omega), w64 (x := D) (by omega) (by omega), w64 (x := A * 131) (by omega) (by omega), w64 (x := B * 1117) (by omega) (by omega),
        w64 (x := A * 131 + B * 1117) (by omega) (by omega), w64 (x := A * 131 + B * 1117 + p * 29) (by omega) (by omega), w64 (x := D * 53) (by omega) (by omega),
        w64 (x := A * 131 + B * 1117 + p * 29 + D * 53) (by omega) (by omega), w64 (x := (A * 131 + B * 1117 + p * 29 + D * 53).tdiv 64) (by omega) (by omega)]
theorem pick_ev {b : List Int} (hb : BytesB b) {p : Int} (hp : 0 ≤ p) (hP : p ≤ 1000000000000000) {n : Int} (hn : 1 ≤ n) :
    ∃ v, 0 ≤ v ∧ v < n ∧ Ev (fun k => spec_l6Rd_pick.f k b p n) (v, p + 1) := by
  obtain ⟨h, e⟩ := pick_at hb hp hP hn
  exact ⟨_, (tmod_range h hn).1, (tmod_range h hn).2, e⟩
theorem open_ev {l : List Int} (h : ∀ x ∈ l, (Lit.int .u8 x).wf = true) : ∃ b, BytesB b ∧ spec_l6Open.f l = some (b, 0) := by
  have h' : ∀ x ∈ l, 0 ≤ x ∧ x ≤ 255 := fun x hx => by
    have := h x hx
    simp only [Lit.wf, Bool.and_eq_true, decide_eq_true_eq] at this
    have e1 : IntKind.u8.min = 0 := by decide
    have e2 : IntKind.u8.max = 255 := by decide
    omega
  unfold spec_l6Open.f
  by_cases c : (l.length : Int) > 2000
  · refine ⟨l.take 2000, ⟨fun x hx => h' x (List.mem_of_mem_take hx), by simp; omega⟩, ?_⟩
    rw [if_pos c, if_pos (by omega)]
  · exact ⟨l, ⟨h', by omega⟩, by rw [if_neg c]⟩


/-! ### roots -/
theorem l5Root_l (n : Int) (h0 : 0 ≤ n) : ∀ (d : Nat) (lo hi : Int) (k : Nat), 0 ≤ lo → lo ≤ hi → hi ≤ 1048576 → (hi - lo).toNat ≤ d → d < k → n ≤ hi * hi → (lo = 0 ∨ (lo - 1) * (lo - 1) < n) →
    spec_l5Root.l0 k n lo hi = some (if isq n * isq n = n then isq n else -1) := by
  intro d
  induction d with
  | zero =>
    intro k_ hi k hlo hle hhi hd hk hn hl
    obtain ⟨k, rfl⟩ : ∃ m, k = m + 1 := ⟨k - 1, by omega⟩
    obtain rfl : k_ = hi := by omega
    simp only [spec_l5Root.l0]
    rw [if_neg (by omega), wmul hlo (by omega) hlo (by omega)]
    by_cases e : k_ * k_ = n
    · have hq : isq n = k_ := by rw [← e]; exact isq_sq hlo
      rw [if_pos e, hq, if_pos e]
    · rw [if_neg e]
      have h1 : (k_ - 1) * (k_ - 1) < n := by
        rcases hl with h | h
        · subst h; omega
        · exact h
      have hp : 0 < k_ := by
        rcases Int.lt_or_le 0 k_ with h | h
        · exact h
        · obtain rfl : k_ = 0 := by omega
          omega
      have hq : isq n = k_ - 1 := isq_unique (by omega) (by omega) (by rw [show k_ - 1 + 1 = k_ from by omega]; omega)
      rw [hq, if_neg (by omega)]
  | succ d ih =>
    intro lo hi k hlo hle hhi hd hk hn hl
    rcases Int.lt_or_le lo hi with hlt | hge
    · obtain ⟨k, rfl⟩ : ∃ m, k = m + 1 := ⟨k - 1, by omega⟩
      simp only [spec_l5Root.l0]
      rw [if_pos hlt]
      have e1 : wrap64 (lo + hi) = lo + hi := w64 (by omega) (by omega)
      have e2 : Int.tdiv (lo + hi) 2 = (lo + hi) / 2 := tdiv2 (by omega)
      have e3 : wrap64 ((lo + hi) / 2) = (lo + hi) / 2 := w64 (by omega) (by omega)
      rw [e1, e2, e3, wmul (a := (lo + hi) / 2) (b := (lo + hi) / 2) (by omega) (by omega) (by omega) (by omega)]
      by_cases c : (lo + hi) / 2 * ((lo + hi) / 2) < n
      · rw [if_pos c, w64 (x := (lo + hi) / 2 + 1) (by omega) (by omega)]
        exact ih _ _ _ (by omega) (by omega) (by omega) (by omega) (by omega) hn (.inr (by rw [show (lo + hi) / 2 + 1 - 1 = (lo + hi) / 2 from by omega]; exact c))
      · rw [if_neg c]
        exact ih _ _ _ (by omega) (by omega) (by omega) (by omega) (by omega) (by omega) hl
    · exact ih _ _ _ hlo hle hhi (by omega) (by omega) hn hl
theorem l5Root (n : Int) (h0 : 0 ≤ n) (hn : n ≤ 1099511627776) (k : Nat) (hk : 1048577 < k) : spec_l5Root.f k n = some (if isq n * isq n = n then isq n else -1) :=
  l5Root_l n h0 1048576 0 1048576 k (by omega) (by omega) (by omega) (by omega) (by omega) (by omega) (.inl rfl)
theorem squareRoot_l (n : Int) (h0 : 0 ≤ n) (hn : n < 4611686018427387904) : ∀ (d : Nat) (x bit : Int) (k : Nat), 0 ≤ x → x * x ≤ n → n < (x + 2 * bit) * (x + 2 * bit) → x + 2 * bit ≤ 2147483648 → bit = 2 ^ d → d + 1 < k →
    impl_squareRoot.l0 k n x bit = some (isq n, isq n * isq n == n) := by
  intro d
  have stop : ∀ (x : Int) (k : Nat), 0 ≤ x → x * x ≤ n → n < (x + 1) * (x + 1) → 0 < k → impl_squareRoot.l0 k n x 0 = some (isq n, isq n * isq n == n) := by
    intro x k hx hl hg hk
    obtain ⟨k, rfl⟩ : ∃ m, k = m + 1 := ⟨k - 1, by omega⟩
    simp only [impl_squareRoot.l0]
    have hb : x < 2147483648 := by
      rcases Int.lt_or_le x 2147483648 with h | h
      · exact h
      · have := sq_le (by omega) h; omega
    have hm : wrap64 (x * x) = x * x := w64' (sq_nonneg x) (by omega)
    rw [if_neg (by omega), hm, isq_unique hx hl hg]
  induction d with
  | zero =>
    intro x bit k hx hl hg hB hb hk
    obtain ⟨k, rfl⟩ : ∃ m, k = m + 1 := ⟨k - 1, by omega⟩
    obtain rfl : bit = 1 := by simpa using hb
    simp only [impl_squareRoot.l0]
    have hs := sq_le (a := x + 1) (b := 2147483648) (by omega) (by omega)
    rw [if_pos (by omega), w64 (x := x + 1) (by omega) (by omega), w64' (x := (x + 1) * (x + 1)) (sq_nonneg _) (by omega)]
    have e : wrap64 (Int.tdiv 1 2) = 0 := by decide +kernel
    rw [e]
    by_cases c : (x + 1) * (x + 1) ≤ n
    · rw [if_pos c]
      exact stop _ _ (by omega) c (by rw [show x + 1 + 1 = x + 2 * 1 from by omega]; exact hg) (by omega)
    · rw [if_neg c]
      exact stop _ _ hx hl (by omega) (by omega)
  | succ d ih =>
    intro x bit k hx hl hg hB hb hk
    obtain ⟨k, rfl⟩ : ∃ m, k = m + 1 := ⟨k - 1, by omega⟩
    have hp : (0 : Int) < 2 ^ d := Int.pow_pos (by omega)
    obtain ⟨c2, hc2⟩ : ∃ c2 : Int, c2 = 2 ^ d := ⟨_, rfl⟩
    have hb2 : bit = 2 * c2 := by rw [hb, Int.pow_succ, hc2]; omega
    subst hb2
    simp only [impl_squareRoot.l0]
    have hs := sq_le (a := x + 2 * c2) (b := 2147483648) (by omega) (by omega)
    have e : wrap64 (Int.tdiv (2 * c2) 2) = c2 := by rw [tdiv2 (by omega), w64 (by omega) (by omega)]; omega
    rw [if_pos (by omega), w64 (x := x + 2 * c2) (by omega) (by omega), w64' (x := (x + 2 * c2) * (x + 2 * c2)) (sq_nonneg _) (by omega), e]
    by_cases c : (x + 2 * c2) * (x + 2 * c2) ≤ n
    · rw [if_pos c]
      exact ih _ _ _ (by omega) c (by rw [show x + 2 * c2 + 2 * c2 = x + 2 * (2 * c2) from by omega]; exact hg) (by omega) hc2 (by omega)
    · rw [if_neg c]
      exact ih _ _ _ hx hl (by omega) (by omega) hc2 (by omega)
theorem squareRoot (n : Int) (h0 : 0 ≤ n) (hn : n < 4611686018427387904) (k : Nat) (hk : 31 < k) : impl_squareRoot.f k n = some (isq n, isq n * isq n == n) := by
  unfold impl_squareRoot.f
  rw [if_neg (by omega)]
  exact squareRoot_l n h0 hn 30 0 1073741824 k (by omega) (by omega) (by omega) (by omega) (by decide) (by omega)
/-! ### ways of two squares -/
theorem l8Two_l (n : Int) (h0 : 0 ≤ n) (hn : n ≤ 1000000) : ∀ (d : Nat) (acc x : Int) (k : Nat), 0 ≤ x → x + d = isq n + 1 → 0 ≤ acc → acc ≤ 4 * x → d + 1048578 < k →
    spec_l8Two.l0 k n acc x = some (acc + r2from n d x) := by
  have hq : isq n < 1001 := isq_bound h0 (by omega) (by omega)
  have hq1 := isq_lt h0
  have hq2 := isq_le h0
  intro d
  induction d with
  | zero =>
    intro acc x k hx hd ha hA hk
    obtain ⟨k, rfl⟩ : ∃ m, k = m + 1 := ⟨k - 1, by omega⟩
    have e : x = isq n + 1 := by omega
    simp only [spec_l8Two.l0, r2from]
    rw [wmul hx (by omega) hx (by omega), e, if_neg (by omega)]
    simp
  | succ d ih =>
    intro acc x k hx hd ha hA hk
    obtain ⟨k, rfl⟩ : ∃ m, k = m + 1 := ⟨k - 1, by omega⟩
    have hxq := sq_le hx (show x ≤ isq n by omega)
    have hx0 := sq_nonneg x
    simp only [spec_l8Two.l0, r2from]
    rw [wmul hx (by omega) hx (by omega), if_pos (by omega), w64 (x := n - x * x) (by omega) (by omega), l5Root _ (by omega) (by omega) k (by omega)]
    simp only [Option.bind_some]
    rw [w64 (x := x + 1) (by omega) (by omega)]
    have hw := wayW_bd n x
    rw [← Int.add_assoc]
    unfold wayW at hw ⊢
    have hi := isq_nonneg (n - x * x)
    by_cases c : isq (n - x * x) * isq (n - x * x) = n - x * x
    · simp only [if_pos c] at hw ⊢
      rw [if_pos (by omega)]
      by_cases c1 : x > 0 <;> by_cases c2 : isq (n - x * x) > 0 <;> simp only [if_pos, if_neg, c1, c2, not_false_eq_true] at hw ⊢ <;> rw [w64 (by omega) (by omega)] <;> exact ih _ _ _ (by omega) (by omega) (by omega) (by omega) (by omega)
    · simp only [if_neg c] at hw ⊢
      rw [if_neg (by omega)]
      simpa using ih _ _ _ (by omega) (by omega) (by omega) (by omega) (by omega)
theorem l8Two_ev (n : Int) (h0 : 0 ≤ n) (hn : n ≤ 1000000) : Ev (fun k => spec_l8Two.f k n) (r2 n) := by
  refine ⟨(isq n + 1).toNat + 1048579, fun k hk => ?_⟩
  have := l8Two_l n h0 hn (isq n + 1).toNat 0 0 k (by omega) (by have := isq_nonneg n; omega) (by omega) (by omega) (by omega)
  simpa [spec_l8Two.f, r2] using this
theorem twoWays_l (n : Int) (h0 : 0 ≤ n) (hn : n ≤ 1000000) : ∀ (d : Nat) (acc x : Int) (k : Nat), 0 ≤ x → x + d = isq n + 1 → 0 ≤ acc → acc ≤ 4 * x → d + 32 < k →
    impl_twoWays.l0 k n acc x = some (acc + r2from n d x) := by
  have hq : isq n < 1001 := isq_bound h0 (by omega) (by omega)
  have hq1 := isq_lt h0
  have hq2 := isq_le h0
  intro d
  induction d with
  | zero =>
    intro acc x k hx hd ha hA hk
    obtain ⟨k, rfl⟩ : ∃ m, k = m + 1 := ⟨k - 1, by omega⟩
    have e : x = isq n + 1 := by omega
    simp only [impl_twoWays.l0, r2from]
    rw [wmul hx (by omega) hx (by omega), e, if_neg (by omega)]
    simp
  | succ d ih =>
    intro acc x k hx hd ha hA hk
    obtain ⟨k, rfl⟩ : ∃ m, k = m + 1 := ⟨k - 1, by omega⟩
    have hxq := sq_le hx (show x ≤ isq n by omega)
    have hx0 := sq_nonneg x
    simp only [impl_twoWays.l0, r2from]
    rw [wmul hx (by omega) hx (by omega), if_pos (by omega), w64 (x := n - x * x) (by omega) (by omega), squareRoot _ (by omega) (by omega) k (by omega)]
    simp only [Option.bind_some]
    rw [w64 (x := x + 1) (by omega) (by omega)]
    have hw := wayW_bd n x
    rw [← Int.add_assoc]
    unfold wayW at hw ⊢
    have hi := isq_nonneg (n - x * x)
    by_cases c : isq (n - x * x) * isq (n - x * x) = n - x * x
    · simp only [if_pos c] at hw ⊢
      rw [if_pos (by rw [beq_iff_eq]; exact c)]
      by_cases c1 : x > 0 <;> by_cases c2 : isq (n - x * x) > 0 <;> simp only [if_pos, if_neg, c1, c2, not_false_eq_true] at hw ⊢ <;> rw [w64 (by omega) (by omega)] <;> exact ih _ _ _ (by omega) (by omega) (by omega) (by omega) (by omega)
    · simp only [if_neg c] at hw ⊢
      rw [if_neg (by rw [beq_iff_eq]; exact c)]
      simpa using ih _ _ _ (by omega) (by omega) (by omega) (by omega) (by omega)
theorem twoWays_ev (n : Int) (h0 : 0 ≤ n) (hn : n ≤ 1000000) : Ev (fun k => impl_twoWays.f k n) (r2 n) := by
  refine ⟨(isq n + 1).toNat + 33, fun k hk => ?_⟩
  have := twoWays_l n h0 hn (isq n + 1).toNat 0 0 k (by omega) (by have := isq_nonneg n; omega) (by omega) (by omega) (by omega)
  simpa [impl_twoWays.f, r2] using this


/-! ### TwoEach -/
theorem specTwoEach_ev (n : Int) : Ev (fun k => spec_TwoEach.f k n) (if 0 ≤ n ∧ n ≤ 2000 then r2 n else -1) := by
  unfold spec_TwoEach.f spec_l8Sum.f spec_l6In.f
  by_cases h : 0 ≤ n ∧ n ≤ 2000
  · simp only [ge_iff_le, if_pos h.1, Option.bind_some, decide_eq_true h.2, if_true, if_pos h]
    exact (l8Two_ev n h.1 (by omega)).bind (Ev.now _)
  · rw [if_neg h]
    by_cases h0 : 0 ≤ n
    · have h2 : ¬ n ≤ 2000 := fun h2 => h ⟨h0, h2⟩
      simp only [ge_iff_le, if_pos h0, Option.bind_some, decide_eq_false h2, Bool.false_eq_true, if_false]
      exact Ev.now _
    · simp only [ge_iff_le, if_neg h0, Option.bind_some, Bool.false_eq_true, if_false]
      exact Ev.now _
theorem implTwoEach_ev (n : Int) : Ev (fun k => impl_TwoEach.f k n) (if 0 ≤ n ∧ n ≤ 2000 then r2 n else -1) := by
  unfold impl_TwoEach.f
  by_cases h : 0 ≤ n ∧ n ≤ 2000
  · simp only [if_neg (show ¬ n < 0 by omega), if_neg (show ¬ n > 2000 by omega), if_pos h]
    exact (twoWays_ev n h.1 (by omega)).bind (Ev.now _)
  · rw [if_neg h]
    by_cases h0 : n < 0
    · simp only [if_pos h0]; exact Ev.now _
    · simp only [if_neg h0, if_pos (show n > 2000 by omega)]; exact Ev.now _


theorem sumDraw_ev' {b : List Int} (hb : BytesB b) (p0 : Int) (hp0 : 0 ≤ p0) (hp1 : p0 ≤ 1000) : ∃ n p, (n = -1 ∨ n = 2000 ∨ n = 2001 ∨ 0 ≤ n ∧ n ≤ 494) ∧ Ev (fun k => spec_l92Sum.f k b p0) (n, p) := by
  obtain ⟨v1, h1, g1, e1⟩ := pick_ev hb (p := p0) (by omega) (by omega) (n := 20) (by omega)
  by_cases c : v1 = 0
  · obtain ⟨v2, h2, g2, e2⟩ := pick_ev hb (p := p0 + 1) (by omega) (by omega) (n := 4) (by omega)
    refine ⟨rd [(-1), 0, 2000, 2001] v2, p0 + 1 + 1, ?_, ?_⟩
    · have : v2 = 0 ∨ v2 = 1 ∨ v2 = 2 ∨ v2 = 3 := by omega
      rcases this with rfl | rfl | rfl | rfl <;> simp [rd]
    · simp only [spec_l92Sum.f]
      refine e1.bind ?_
      simp only [if_pos c, Option.bind_some]
      refine e2.bind ?_
      simp only [if_pos h2, if_pos (show v2 < ((List.length [(-1 : Int), 0, 2000, 2001] : Nat) : Int) from by simp; omega)]
      exact Ev.now _
  · obtain ⟨v2, h2, g2, e2⟩ := pick_ev hb (p := p0 + 1) (by omega) (by omega) (n := 100) (by omega)
    obtain ⟨v3, h3, g3, e3⟩ := pick_ev hb (p := p0 + 1 + 1) (by omega) (by omega) (n := 6) (by omega)
    obtain ⟨v4, h4, g4, e4⟩ := pick_ev hb (p := p0 + 1 + 1 + 1) (by omega) (by omega) (n := 80) (by omega)
    have hm := Int.mul_nonneg h3 h4
    have hM := mul_le2 h3 (show v3 ≤ 5 by omega) h4 (show v4 ≤ 79 by omega)
    refine ⟨v2 + v3 * v4, p0 + 1 + 1 + 1 + 1, .inr (.inr (.inr ⟨by omega, by omega⟩)), ?_⟩
    simp only [spec_l92Sum.f]
    refine e1.bind ?_
    simp only [if_neg c]
    refine e2.bind (e3.bind (e4.bind ?_))
    simp only [w64 (x := v3 * v4) (by omega) (by omega), w64 (x := v2 + v3 * v4) (by omega) (by omega)]
    exact Ev.now _
theorem sumDraw_ev {b : List Int} (hb : BytesB b) : ∃ n p, (n = -1 ∨ n = 2000 ∨ n = 2001 ∨ 0 ≤ n ∧ n ≤ 494) ∧ Ev (fun k => spec_l92Sum.f k b 0) (n, p) := sumDraw_ev' hb 0 (by omega) (by omega)


/-! ### forms -/
theorem implFormValid_l (xs : List Int) (hx : ∀ x ∈ xs, x.natAbs ≤ 1000000) (hl : xs.length ≤ 100) : ∀ (d j : Nat), j + d = xs.length →
    Ev (fun k => impl_FormValid.l0 k xs xs (xs.length : Int) j) ((xs.drop j).all (fun x => decide (x ≠ 0) && decide (x.natAbs ≤ 30)) && (decide (1 ≤ xs.length) && decide (xs.length ≤ 4))) := by
  intro d
  induction d with
  | zero =>
    intro j hj
    rw [List.drop_of_length_le (by omega)]
    refine Ev.step (f := fun _ => some (decide (1 ≤ xs.length) && decide (xs.length ≤ 4))) (fun k => ?_) (by simpa using Ev.now _)
    simp only [impl_FormValid.l0]
    rw [if_neg (by omega)]
    by_cases c : 1 ≤ xs.length
    · rw [if_pos (by omega), decide_eq_true c, Bool.true_and]; congr 1; exact decide_eq_decide.2 (by omega)
    · rw [if_neg (by omega), decide_eq_false c, Bool.false_and]
  | succ d ih =>
    intro j hj
    have hm := hx _ (rd_mem (xs := xs) (j := j) (by omega))
    rw [rd_drop (show j < xs.length by omega)]
    have := ih (j + 1) (by omega)
    generalize hp : rd xs (j : Int) = p at hm
    rw [List.all_cons]
    by_cases c0 : p = 0
    · rw [decide_eq_false (by omega : ¬ p ≠ 0), Bool.false_and, Bool.false_and, Bool.false_and]
      refine Ev.step (f := fun _ => some false) (fun k => ?_) (Ev.now _)
      simp only [impl_FormValid.l0]
      rw [if_pos (by omega), if_pos (by omega), if_pos (by omega), hp, if_pos c0]
    · have hs : impl_size.f p = some (absI p) := by simp only [impl_size.f]; rw [size_ev (by omega) (by omega)]
      by_cases c : p.natAbs ≤ 30
      · rw [decide_eq_true c0, decide_eq_true c, Bool.true_and, Bool.true_and]
        refine Ev.step (fun k => ?_) this
        simp only [impl_FormValid.l0]
        rw [if_pos (by omega), if_pos (by omega), if_pos (by omega), hp, if_neg c0, hs, Option.bind_some, if_neg (by unfold absI; omega), w64 (x := (j : Int) + 1) (by omega) (by omega)]
        rfl
      · rw [decide_eq_false c, Bool.and_false, Bool.false_and, Bool.false_and]
        refine Ev.step (f := fun _ => some false) (fun k => ?_) (Ev.now _)
        simp only [impl_FormValid.l0]
        rw [if_pos (by omega), if_pos (by omega), if_pos (by omega), hp, if_neg c0, hs, Option.bind_some, if_pos (by unfold absI; omega)]
theorem implFormValid_ev {xs : List Int} (hx : ∀ x ∈ xs, x.natAbs ≤ 1000000) (hl : xs.length ≤ 100) : Ev (fun k => impl_FormValid.f k xs) (formOk xs) :=
  implFormValid_l xs hx hl xs.length 0 (by omega)
/-! ### vectors at which a form has a value, counted -/
theorem sumO_ev {G : Nat → Int → Option Int} {H : Int → Int} : ∀ (m : Nat) (x : Int), (∀ y, x ≤ y → y < x + m → Ev (fun k => G k y) (H y)) → Ev (fun k => sumO (G k) m x) (sumF H m x)
  | 0, x, h => by simp only [sumO, sumF]; exact Ev.now _
  | m + 1, x, h => by
    simp only [sumO, sumF]
    exact (h x (by omega) (by omega)).bind ((sumO_ev m (x + 1) (fun y a b => h y (by omega) (by omega))).bind (Ev.now _))
theorem cntO_ev {g : Nat → List Int → Option Bool} {P : List Int → Bool} {n : Nat} : ∀ (d : Nat) (v : List Int), (∀ x ∈ v, x.natAbs ≤ n) → (∀ u : List Int, u.length = v.length + d → (∀ x ∈ u, x.natAbs ≤ n) → Ev (fun k => g k u) (P u)) → Ev (fun k => cntO (g k) n d v) (cntV P n d v)
  | 0, v, hv, h => by
    simp only [cntO, cntV]
    exact (h v rfl hv).bind (Ev.now _)
  | d + 1, v, hv, h => by
    simp only [cntO, cntV]
    refine sumO_ev _ _ (fun y h1 h2 => ?_)
    exact cntO_ev d (v ++ [y]) (by intro x hx; rcases List.mem_append.1 hx with e | e; exact hv x e; rw [List.mem_singleton.1 e]; omega) (fun u hu hb => h u (by simp at hu; omega) hb)
theorem mul_bd2 {a x : Int} {A X : Nat} (h : a.natAbs ≤ A) (h' : x.natAbs ≤ X) : (a * x).natAbs ≤ A * X := by rw [Int.natAbs_mul]; exact Nat.mul_le_mul h h'
theorem implPair_l {f v : List Int} (hl : f.length = v.length) (h4 : f.length ≤ 100) (hf : ∀ x ∈ f, x.natAbs ≤ 30) (hv : ∀ x ∈ v, x.natAbs ≤ 1000) : ∀ (d j : Nat) (acc : Int), j + d = f.length → acc.natAbs ≤ 30000000 * j →
    Ev (fun k => impl_pair.l0 k v v acc f (f.length : Int) j) (acc + qv (f.drop j) (v.drop j)) := by
  intro d
  induction d with
  | zero =>
    intro j acc hj hb
    rw [List.drop_of_length_le (show f.length ≤ j by omega)]
    simp only [qv, Int.add_zero]
    refine Ev.step (f := fun _ => some acc) (fun k => ?_) (Ev.now _)
    simp only [impl_pair.l0]
    rw [if_neg (by omega)]
  | succ d ih =>
    intro j acc hj hb
    have h1 := hf _ (rd_mem (xs := f) (j := j) (by omega))
    have h2 := hv _ (rd_mem (xs := v) (j := j) (by omega))
    have m1 := mul_bd2 h1 h2
    have m2 := mul_bd2 (a := rd f (j : Int) * rd v (j : Int)) (x := rd v (j : Int)) m1 h2
    rw [rd_drop (show j < f.length by omega), rd_drop (show j < v.length by omega)]
    simp only [qv]
    rw [← Int.add_assoc]
    refine Ev.step (fun k => ?_) (ih (j + 1) (acc + rd f (j : Int) * rd v (j : Int) * rd v (j : Int)) (by omega) (by omega))
    simp only [impl_pair.l0]
    rw [if_pos (by omega), if_pos (by omega), if_pos (by omega), if_pos (by omega), if_pos (by omega), w64 (x := rd f (j : Int) * rd v (j : Int)) (by omega) (by omega), w64 (x := rd f (j : Int) * rd v (j : Int) * rd v (j : Int)) (by omega) (by omega), w64 (x := acc + rd f (j : Int) * rd v (j : Int) * rd v (j : Int)) (by omega) (by omega), w64 (x := (j : Int) + 1) (by omega) (by omega)]
    rfl
theorem implPair_ev {f v : List Int} (hl : f.length = v.length) (h4 : f.length ≤ 100) (hf : ∀ x ∈ f, x.natAbs ≤ 30) (hv : ∀ x ∈ v, x.natAbs ≤ 1000) : Ev (fun k => impl_pair.f k f v v) (qv f v) := by
  have := implPair_l hl h4 hf hv f.length 0 0 (by omega) (by omega)
  rw [List.drop_zero, List.drop_zero, Int.zero_add] at this
  exact this
def manyF (xs : List Int) (t n : Int) : Int := if formOk xs = true ∧ (-1000 ≤ t ∧ t ≤ 1000) ∧ (1 ≤ n ∧ n ≤ 6) then cq n.toNat xs t else -1
theorem pow13 {n d : Nat} (hn : n ≤ 6) (hd : d ≤ 4) : (2 * n + 1) ^ d ≤ 28561 :=
  Nat.le_trans (Nat.pow_le_pow_left (show 2 * n + 1 ≤ 13 by omega) d) (Nat.le_trans (Nat.pow_le_pow_right (show 13 > 0 by omega) hd) (by decide))
theorem cntV_bd4 (P : List Int → Bool) {n d : Nat} (hn : n ≤ 6) (hd : d ≤ 4) (v : List Int) : 0 ≤ cntV P n d v ∧ cntV P n d v ≤ 28561 := by
  have h1 := cntV_bd P n d v
  have h2 := pow13 hn hd
  exact ⟨cntV_nonneg P n d v, by omega⟩
theorem implMany_ev {xs : List Int} {t n : Int} (h31 : ∀ x ∈ xs, x.natAbs ≤ 1000000) (hl : xs.length ≤ 100) : Ev (fun k => impl_ValueMany.f k xs t n) (manyF xs t n) := by
  unfold impl_ValueMany.f manyF
  refine (implFormValid_ev (xs := xs) h31 hl).bind ?_
  by_cases c : formOk xs = true
  · simp only [if_pos c]
    have hk := formOk_iff.1 c
    by_cases c1 : t < -1000
    · simp only [if_pos c1]; rw [if_neg (fun h => absurd h.2.1.1 (by omega))]; exact Ev.now _
    · simp only [if_neg c1]
      by_cases c2 : t > 1000
      · simp only [if_pos c2]; rw [if_neg (fun h => absurd h.2.1.2 (by omega))]; exact Ev.now _
      · simp only [if_neg c2]
        by_cases c3 : n < 1
        · simp only [if_pos c3]; rw [if_neg (fun h => absurd h.2.2.1 (by omega))]; exact Ev.now _
        · simp only [if_neg c3]
          by_cases c4 : n > 6
          · simp only [if_pos c4]; rw [if_neg (fun h => absurd h.2.2.2 (by omega))]; exact Ev.now _
          · simp only [if_neg c4, if_pos (show xs.length ≤ 1000 by omega)]
            rw [if_pos ⟨c, ⟨by omega, by omega⟩, by omega, by omega⟩, ← cntV_form]
            have hb := cntV_bd4 (fun u => qv xs u == t) (n := n.toNat) (d := xs.length) (by omega) hk.2.2 []
            refine (cntO_ev (g := fun k => tellM k xs t) (P := fun u => qv xs u == t) xs.length [] (by simp) (fun u hu hb => ?_)).bind ?_
            · simp only [tellM]
              exact (implPair_ev (f := xs) (v := u) (by simp at hu; omega) (by omega) (fun x h => (hk.1 x h).2) (fun x h => by have := hb x h; omega)).bind (Ev.now _)
            · rw [w64 (by omega) (by omega)]; exact Ev.now _
  · simp only [if_neg c]; rw [if_neg (fun h => c h.1)]; exact Ev.now _

def iZ (t : Int) : Int := if t = 0 then 1 else 0
def c1Z (t : Int) : Int := iZ t + 2 * (iZ (t - 1) + iZ (t - 4) + iZ (t - 9) + iZ (t - 16) + iZ (t - 25) + iZ (t - 36))
def c2Z (t : Int) : Int := c1Z t + 2 * (c1Z (t - 1) + c1Z (t - 4) + c1Z (t - 9) + c1Z (t - 16) + c1Z (t - 25) + c1Z (t - 36))
theorem sum6 (g : Int → Int) (he : ∀ x, g (-x) = g x) : sumF g (2 * 6 + 1) (-((6 : Nat) : Int)) = g 0 + 2 * (g 1 + g 2 + g 3 + g 4 + g 5 + g 6) := by
  rw [sumF_both, sumF_even g he]
  have e : sumF g 6 1 = g 1 + (g (1 + 1) + (g (1 + 1 + 1) + (g (1 + 1 + 1 + 1) + (g (1 + 1 + 1 + 1 + 1) + (g (1 + 1 + 1 + 1 + 1 + 1) + 0))))) := rfl
  rw [e]
  simp only [show (1 : Int) + 1 = 2 from rfl, show (2 : Int) + 1 = 3 from rfl, show (3 : Int) + 1 = 4 from rfl, show (4 : Int) + 1 = 5 from rfl, show (5 : Int) + 1 = 6 from rfl]
  omega
theorem cq1Z (t : Int) : cq 6 [1] t = c1Z t := by
  have h := sum6 (fun x => cq 6 [] (t - 1 * x * x)) (fun x => by have : (1 : Int) * -x * -x = 1 * x * x := by grind
                                                                 simp only [this])
  simp only [cq] at h ⊢
  rw [h]
  simp only [c1Z, iZ, show (1 : Int) * 0 * 0 = 0 from rfl, show (1 : Int) * 1 * 1 = 1 from rfl, show (1 : Int) * 2 * 2 = 4 from rfl, show (1 : Int) * 3 * 3 = 9 from rfl, show (1 : Int) * 4 * 4 = 16 from rfl, show (1 : Int) * 5 * 5 = 25 from rfl, show (1 : Int) * 6 * 6 = 36 from rfl, Int.sub_zero]
theorem cq2Z (t : Int) : cq 6 [1, 1] t = c2Z t := by
  have h := sum6 (fun x => cq 6 [1] (t - 1 * x * x)) (fun x => by have : (1 : Int) * -x * -x = 1 * x * x := by grind
                                                                  simp only [this])
  have e : cq 6 [1, 1] t = sumF (fun x => cq 6 [1] (t - 1 * x * x)) (2 * 6 + 1) (-((6 : Nat) : Int)) := rfl
  rw [e, h]
  simp only [cq1Z, c2Z, show (1 : Int) * 0 * 0 = 0 from rfl, show (1 : Int) * 1 * 1 = 1 from rfl, show (1 : Int) * 2 * 2 = 4 from rfl, show (1 : Int) * 3 * 3 = 9 from rfl, show (1 : Int) * 4 * 4 = 16 from rfl, show (1 : Int) * 5 * 5 = 25 from rfl, show (1 : Int) * 6 * 6 = 36 from rfl, Int.sub_zero]
def twoChk (n : Nat) : Bool := decide (c2Z n ≤ r2N n) && (decide (49 ≤ n) || decide (c2Z n = r2N n)) && (if n = 0 then r2N n == 1 else r2N n % 4 == 0)
theorem two_chk : ∀ n ∈ List.range 495, twoChk n = true := by decide +kernel
theorem two_2000 : r2N 2000 % 4 = 0 := by decide +kernel
theorem holds : laws_FnTwoEach.Pure := by
  intro l0 _ _ hw
  refine Ev.rounds ?_
  unfold laws_FnTwoEach.f
  by_cases big : (l0.length : Int) > 1048576
  · simp only [if_pos big]; exact Ev.now _
  obtain ⟨b, hb, ho⟩ := open_ev hw
  obtain ⟨n, p, hn, hd⟩ := sumDraw_ev hb
  have hdraw : Ev (fun k => spec_DrawTwoEach.f k l0) n := by
    simp only [spec_DrawTwoEach.f, ho, Option.bind_some]
    exact hd.bind (Ev.now _)
  simp only [if_neg big]
  refine hdraw.bind ((implTwoEach_ev n).bind ((specTwoEach_ev n).bind ?_))
  simp only [if_true, beq_self_eq_true]
  by_cases c : 0 ≤ n ∧ n ≤ 2000
  · rw [if_pos c]
    have hr := r2_bd c.1
    simp only [if_neg (show ¬ r2 n < 0 by omega)]
    refine (implMany_ev (xs := [1, 1]) (t := n) (n := 6) (by intro x hx; simp at hx; rcases hx with rfl | rfl <;> decide) (by simp)).bind ?_
    have ok : formOk [1, 1] = true := by decide
    obtain ⟨m, rfl⟩ := Int.eq_ofNat_of_zero_le c.1
    have e2 := r2N_eq (n := m) (by omega)
    rcases (show m = 2000 ∨ m ≤ 494 by omega) with e | e
    · subst e
      have hm : manyF [1, 1] ((2000 : Nat) : Int) 6 = -1 := by unfold manyF; rw [if_neg (fun h => absurd h.2.1.2 (by omega))]
      have h4 : (r2 ((2000 : Nat) : Int)).tmod 4 = 0 := by
        have := two_2000
        rw [e2, Int.tmod_eq_emod_of_nonneg (by omega)]; omega
      simp only [hm, if_neg (show ¬ ((2000 : Nat) : Int) = 0 by omega), if_pos (show ((2000 : Nat) : Int) > 0 by omega), if_pos h4, if_true]
      exact Ev.now _
    · have hm : manyF [1, 1] (m : Int) 6 = c2Z m := by
        unfold manyF
        rw [if_pos ⟨ok, ⟨by omega, by omega⟩, by omega, by omega⟩]
        exact cq2Z m
      have h := two_chk m (List.mem_range.2 (by omega))
      unfold twoChk at h
      simp only [Bool.and_eq_true, Bool.or_eq_true, decide_eq_true_eq] at h
      obtain ⟨⟨h1, h2⟩, h3⟩ := h
      have hc0 : ¬ c2Z m = -1 := by
        have := cntV_nonneg (fun u => qv [1, 1] u == (m : Int)) 6 2 []
        have e := cntV_form 6 (m : Int) [1, 1]
        simp only [List.length_cons, List.length_nil] at e
        rw [e, cq2Z] at this; omega
      rw [hm]
      by_cases c0 : (m : Int) = 0
      · have hm0 : m = 0 := by omega
        subst hm0
        simp only [if_true, beq_iff_eq] at h3
        have hr1 : r2 ((0 : Nat) : Int) = 1 := by rw [e2, h3]; rfl
        have hcc : c2Z ((0 : Nat) : Int) = 1 := by rcases h2 with h2 | h2; omega; rw [h2, h3]; rfl
        simp only [if_pos c0, hr1, if_true, hcc, if_neg (show ¬ (1 : Int) = -1 by omega), if_pos (Int.le_refl 1), if_neg (show ¬ ((0 : Nat) : Int) ≥ 49 by omega), beq_self_eq_true]
        exact Ev.now _
      · rw [if_neg (show ¬ m = 0 by omega), beq_iff_eq] at h3
        have h4 : (r2 (m : Int)).tmod 4 = 0 := by rw [e2, Int.tmod_eq_emod_of_nonneg (by omega)]; omega
        simp only [if_neg c0, if_pos (show (m : Int) > 0 by omega), if_pos h4, if_neg hc0, if_pos (show c2Z m ≤ r2 m by rw [e2]; exact h1)]
        by_cases c49 : (m : Int) ≥ 49
        · simp only [if_pos c49]; exact Ev.now _
        · have he : c2Z m = r2 m := by rcases h2 with h2 | h2; omega; rw [h2, e2]
          simp only [if_neg c49, he, beq_self_eq_true]; exact Ev.now _
  · rw [if_neg c]
    simp only [if_pos (show (-1 : Int) < 0 by omega)]
    exact Ev.now _

end Go.Proofs.Ytihadpckmcebgaa.QFnTwoEach
