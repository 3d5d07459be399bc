/- Forms. -/
import Derived.Test.YtihadpckmcebgaaPFnAlikex6
import Derived.Test.YtihadpckmcebgaaAlk
set_option linter.unusedVariables false
set_option linter.unusedSimpArgs false
namespace Go.Proofs.Ytihadpckmcebgaa.QFnAlike
open Go.RowKit Go.Proofs.Ytihadpckmcebgaa.PFnAlike Go.Proofs.YtihadpckmcebgaaW.PrintWords Go.Proofs.YtihadpckmcebgaaW.PrintLast Go.Proofs.YtihadpckmcebgaaW.PrintMore Locg

/-! ### draws -/
theorem xor_i64_nat (a b : Nat) (ha : a < 9223372036854775808) (hb : b < 9223372036854775808) : Go.bits .xor .i64 (a : Int) (b : Int) = ((a ^^^ b : Nat) : Int) := by
  have hx : a ^^^ b < 2 ^ 63 := Nat.xor_lt_two_pow (by omega) (by omega)
  have h1 : (BitVec.ofInt 64 (a : Int)).toNat = a := by
    rw [BitVec.ofInt_natCast, BitVec.toNat_ofNat]; exact Nat.mod_eq_of_lt (by omega)
  have h2 : (BitVec.ofInt 64 (b : Int)).toNat = b := by
    rw [BitVec.ofInt_natCast, BitVec.toNat_ofNat]; exact Nat.mod_eq_of_lt (by omega)
  show IntKind.i64.wrap ((BitVec.ofInt 64 (a : Int) ^^^ BitVec.ofInt 64 (b : Int)).toNat : Int) = _
  rw [BitVec.toNat_xor, h1, h2]
  have hw : ∀ n : Int, IntKind.i64.wrap n = wrap64 n := fun n => by simp [IntKind.wrap, wrap64, IntKind.bits, IntKind.signed]; omega
  rw [hw]
  exact w64' (by omega) (by omega)
theorem xor_nonneg (a b : Int) (ha : 0 ≤ a) (hA : a < 9223372036854775808) (hb : 0 ≤ b) (hB : b < 9223372036854775808) : 0 ≤ Go.bits .xor .i64 a b := by
  obtain ⟨a, rfl⟩ := Int.eq_ofNat_of_zero_le ha
  obtain ⟨b, rfl⟩ := Int.eq_ofNat_of_zero_le hb
  rw [xor_i64_nat a b (by omega) (by omega)]
  exact Int.natCast_nonneg _
theorem tmod_range {x n : Int} (hx : 0 ≤ x) (hn : 1 ≤ n) : 0 ≤ x.tmod n ∧ x.tmod n < n := by
  rw [Int.tmod_eq_emod_of_nonneg hx]; exact ⟨Int.emod_nonneg _ (by omega), Int.emod_lt_of_pos _ (by omega)⟩
def BytesB (b : List Int) : Prop := (∀ x ∈ b, 0 ≤ x ∧ x ≤ 255) ∧ b.length ≤ 2000
theorem BytesB.rd_ {b : List Int} (h : BytesB b) (i : Int) : 0 ≤ rd b i ∧ rd b i ≤ 255 := by
  unfold rd
  by_cases c : i.toNat < b.length
  · have := h.1 (b[i.toNat]) (by simp)
    simpa [List.getElem?_eq_getElem c] using this
  · simp [List.getElem?_eq_none (show b.length ≤ i.toNat by omega)]
theorem pick_ev {b : List Int} (hb : BytesB b) {p : Int} (hp : 0 ≤ p) (hP : p ≤ 1000000) {n : Int} (hn : 1 ≤ n) :
    ∃ v, 0 ≤ v ∧ v < n ∧ Ev (fun k => spec_l6Rd_pick.f k b p n) (v, p + 1) := by
  have hl := hb.2
  rcases Nat.eq_zero_or_pos b.length with h0 | h0
  · refine ⟨0, by omega, by omega, Ev.step (f := fun _ => some (0, p + 1)) (fun k => ?_) (Ev.now _)⟩
    simp only [spec_l6Rd_pick.f, spec_l6Rd_pick.j0]
    rw [if_neg (by omega), w64 (x := p + 1) (by omega) (by omega), if_pos (by simp [h0])]
  · have e : ∀ k, spec_l6Rd_pick.f (k + 1) b p n = spec_l6Rd_pick.j0 (k + 1) n false b (p + 1) := by
      intro k
      simp only [spec_l6Rd_pick.f]
      rw [if_neg (by omega), w64 (x := p + 1) (by omega) (by omega)]
      congr 1
      simp; intro h; rw [h] at h0; simp at h0
    have hq : wrap64 (p + 1 - 1) = p := by rw [w64 (by omega) (by omega)]; omega
    by_cases c : p < b.length
    · refine ⟨(rd b p).tmod n, ?_, ?_, Ev.step (f := fun _ => some ((rd b p).tmod n, p + 1)) (fun k => ?_) (Ev.now _)⟩
      · exact (tmod_range (hb.rd_ p).1 hn).1
      · exact (tmod_range (hb.rd_ p).1 hn).2
      · have := hb.rd_ p
        rw [e]
        simp only [spec_l6Rd_pick.j0, hq]
        rw [if_neg (by simp), if_pos c, if_pos hp, if_neg (by omega), w64 (x := rd b p) (by omega) (by omega)]
    · have hm := tmod_range hp (n := b.length) (by omega)
      have e7 : wrap64 (p * 7) = p * 7 := w64 (by omega) (by omega)
      have e73 : wrap64 (p * 7 + 3) = p * 7 + 3 := w64 (by omega) (by omega)
      have e29 : wrap64 (p * 29) = p * 29 := w64 (by omega) (by omega)
      have hm2 := tmod_range (x := p * 7 + 3) (by omega) (n := b.length) (by omega)
      have hA := hb.rd_ (p.tmod b.length)
      have hB := hb.rd_ ((p * 7 + 3).tmod b.length)
      have hd : 0 ≤ p.tdiv b.length ∧ p.tdiv b.length ≤ p := by
        rw [Int.tdiv_eq_ediv_of_nonneg hp]; exact ⟨Int.ediv_nonneg hp (by omega), Int.ediv_le_self _ hp⟩
      generalize hAe : rd b (p.tmod b.length) = A at hA
      generalize hBe : rd b ((p * 7 + 3).tmod b.length) = B at hB
      generalize hDe : p.tdiv b.length = D at hd
      have hx64 : 0 ≤ (A * 131 + B * 1117 + p * 29 + D * 53).tdiv 64 ∧ (A * 131 + B * 1117 + p * 29 + D * 53).tdiv 64 ≤ A * 131 + B * 1117 + p * 29 + D * 53 := by
        rw [Int.tdiv_eq_ediv_of_nonneg (by omega)]; omega
      have hx := xor_nonneg (A * 131 + B * 1117 + p * 29 + D * 53) ((A * 131 + B * 1117 + p * 29 + D * 53).tdiv 64) (by omega) (by omega) (by omega) (by omega)
      refine ⟨(Go.bits .xor .i64 (A * 131 + B * 1117 + p * 29 + D * 53) ((A * 131 + B * 1117 + p * 29 + D * 53).tdiv 64)).tmod n, (tmod_range hx hn).1, (tmod_range hx hn).2, Ev.step (f := fun _ => some (_, p + 1)) (fun k => ?_) (Ev.now _)⟩
      rw [e]
      simp only [spec_l6Rd_pick.j0, hq, e7, e73, hAe, hBe, hDe, e29]
      rw [if_neg (by simp), if_neg c, if_neg (by omega), if_pos hm.1, if_pos hm.2, if_pos hm2.1, if_pos hm2.2, if_neg (by omega)]
      rw [w64 (x := A) (by omega) (by omega), w64 (x := B) (by omega) (by omega), w64 (x := D) (by omega) (by omega), w64 (x := A * 131) (by omega) (by omega), w64 (x := B * 1117) (by omega) (by omega),
        w64 (x := A * 131 + B * 1117) (by omega) (by omega), w64 (x := A * 131 + B * 1117 + p * 29) (by omega) (by omega), w64 (x := D * 53) (by omega) (by omega),
        w64 (x := A * 131 + B * 1117 + p * 29 + D * 53) (by omega) (by omega), w64 (x := (A * 131 + B * 1117 + p * 29 + D * 53).tdiv 64) (by omega) (by omega)]
theorem open_ev {l : List Int} (h : ∀ x ∈ l, (Lit.int .u8 x).wf = true) : ∃ b, BytesB b ∧ spec_l6Open.f l = some (b, 0) := by
  have h' : ∀ x ∈ l, 0 ≤ x ∧ x ≤ 255 := fun x hx => by
    have := h x hx
    simp only [Lit.wf, Bool.and_eq_true, decide_eq_true_eq] at this
    have e1 : IntKind.u8.min = 0 := by decide
    have e2 : IntKind.u8.max = 255 := by decide
    omega
  unfold spec_l6Open.f
  by_cases c : (l.length : Int) > 2000
  · refine ⟨l.take 2000, ⟨fun x hx => h' x (List.mem_of_mem_take hx), by simp; omega⟩, ?_⟩
    rw [if_pos c, if_pos (by omega)]
  · exact ⟨l, ⟨h', by omega⟩, by rw [if_neg c]⟩


/-! ### split -/
theorem split_l {p : Int} (hp : 2 ≤ p) : ∀ (d : Nat) (n j : Int), n ≠ 0 → n.natAbs < 2 ^ d → d ≤ 63 → 0 ≤ j → j + d ≤ 1000 →
    ∀ k, d < k → impl_split.l0 k n p j = some (j + (spl p d n).1, (spl p d n).2) := by
  intro d
  induction d with
  | zero => intro n j hn h; simp at h; omega
  | succ d ih =>
    intro n j hn h hd hj hJ k hk
    obtain ⟨k, rfl⟩ : ∃ m, k = m + 1 := ⟨k - 1, by omega⟩
    simp only [impl_split.l0]
    rw [if_neg (by omega)]
    by_cases c : n.tmod p = 0
    · obtain ⟨h0, h1, h2, h3, _⟩ := tdiv_abs hp hn c
      have hlt : n.natAbs < 2 ^ 63 := Nat.lt_of_lt_of_le h (Nat.pow_le_pow_right (by omega) hd)
      rw [if_pos c, w64 (x := n.tdiv p) (by omega) (by omega), spl_dvd d c, w64 (x := j + 1) (by omega) (by omega),
        ih (n.tdiv p) (j + 1) h0 (by rw [Nat.pow_succ] at h; omega) (by omega) (by omega) (by omega) k (by omega)]
      simp only [Option.some.injEq, Prod.mk.injEq, and_true]; omega
    · rw [if_neg c, spl_not d c]
      simp
theorem split_at {n p : Int} (hp : 2 ≤ p) (hn : n ≠ 0) (h : n.natAbs < 2 ^ 63) (k : Nat) (hk : 63 < k) : impl_split.f k n p = some (val p n, unit p n) := by
  unfold impl_split.f val unit
  rw [split_l hp 63 n 0 hn h (by omega) (by omega) (by omega) k hk, ← spl_more hp 63 n hn h]
  simp
theorem split_ev {n p : Int} (hp : 2 ≤ p) (hn : n ≠ 0) (h : n.natAbs < 2 ^ 63) : Ev (fun k => impl_split.f k n p) (val p n, unit p n) := ⟨64, fun k hk => split_at hp hn h k (by omega)⟩


/-! ### valuations -/
theorem valuation_l {p : Int} (hp : 2 ≤ p) : ∀ (d : Nat) (n j : Int), n ≠ 0 → n.natAbs < 2 ^ d → d ≤ 63 → 0 ≤ j → j + d ≤ 1000 →
    ∀ k, d < k → spec_l1Valuation.l0 k n p j = some (j + (spl p d n).1, (spl p d n).2) := by
  intro d
  induction d with
  | zero => intro n j hn h; simp at h; omega
  | succ d ih =>
    intro n j hn h hd hj hJ k hk
    obtain ⟨k, rfl⟩ : ∃ m, k = m + 1 := ⟨k - 1, by omega⟩
    simp only [spec_l1Valuation.l0]
    rw [if_neg (by omega)]
    by_cases c : n.tmod p = 0
    · obtain ⟨h0, h1, h2, h3, _⟩ := tdiv_abs hp hn c
      have hlt : n.natAbs < 2 ^ 63 := Nat.lt_of_lt_of_le h (Nat.pow_le_pow_right (by omega) hd)
      rw [if_pos c, w64 (x := n.tdiv p) (by omega) (by omega), spl_dvd d c, w64 (x := j + 1) (by omega) (by omega),
        ih (n.tdiv p) (j + 1) h0 (by rw [Nat.pow_succ] at h; omega) (by omega) (by omega) (by omega) k (by omega)]
      simp only [Option.some.injEq, Prod.mk.injEq, and_true]; omega
    · rw [if_neg c, spl_not d c]
      simp
theorem valuation_at {n p : Int} (hp : 2 ≤ p) (hn : n ≠ 0) (h : n.natAbs < 2 ^ 63) (k : Nat) (hk : 63 < k) : spec_l1Valuation.f k n p = some (val p n, unit p n) := by
  unfold spec_l1Valuation.f val unit
  rw [valuation_l hp 63 n 0 hn h (by omega) (by omega) (by omega) k hk, ← spl_more hp 63 n hn h]
  simp
theorem valuation_ev {n p : Int} (hp : 2 ≤ p) (hn : n ≠ 0) (h : n.natAbs < 2 ^ 63) : Ev (fun k => spec_l1Valuation.f k n p) (val p n, unit p n) := ⟨64, fun k hk => valuation_at hp hn h k (by omega)⟩


/-! ### residues, squares and symbols at a place -/
theorem implRest_eq {a m : Int} (h : 0 < m) (hm : m ≤ 1000) (ha : a.natAbs < 2 ^ 63) : impl_rest.f a m = some (a % m) := by
  unfold impl_rest.f
  have h1 := Int.tmod_lt_of_pos a h
  have h2 : -m < Int.tmod a m := by
    have := Int.tmod_lt_of_pos (-a) h; rw [Int.neg_tmod] at this; omega
  rw [if_neg (by omega), w64 (by omega) (by omega), rest_eq a h]
theorem specMod_eq {a m : Int} (h : 0 < m) (hm : m ≤ 1000) (ha : a.natAbs < 2 ^ 63) : spec_l1Mod.f a m = some (a % m) := by
  unfold spec_l1Mod.f
  have h1 := Int.tmod_lt_of_pos a h
  have h2 : -m < Int.tmod a m := by
    have := Int.tmod_lt_of_pos (-a) h; rw [Int.neg_tmod] at this; omega
  rw [if_neg (by omega), w64 (by omega) (by omega), rest_eq a h]
theorem implResidue_l {p r : Int} (hp : 3 ≤ p) (hP : p ≤ 1000) : ∀ (d : Nat) (x : Int), 1 ≤ x → p.tdiv 2 + 2 ≤ x + d → x ≤ 1001 →
    Ev (fun k => impl_residue.l0 k p r x) (resS p r d x) := by
  have e2 : p.tdiv 2 = p / 2 := tdiv2 (by omega)
  intro d
  induction d with
  | zero =>
    intro x h1 h2 h3
    refine Ev.step (f := fun _ => some (-1)) (fun k => ?_) (Ev.now _)
    simp only [impl_residue.l0]
    rw [w64 (x := p.tdiv 2) (by omega) (by omega), if_neg (by omega)]
  | succ d ih =>
    intro x h1 h2 h3
    by_cases c : x ≤ p.tdiv 2
    · have hxx := wmul (a := x) (b := x) (by omega) (by omega) (by omega) (by omega)
      by_cases c2 : (x * x).tmod p = r
      · refine Ev.step (f := fun _ => some 1) (fun k => ?_) (by simp only [resS, if_pos c, if_pos c2]; exact Ev.now _)
        simp only [impl_residue.l0]
        rw [w64 (x := p.tdiv 2) (by omega) (by omega), if_pos c, if_neg (by omega), hxx, if_pos c2]
      · refine Ev.step (fun k => ?_) (by simp only [resS, if_pos c, if_neg c2]; exact ih (x + 1) (by omega) (by omega) (by omega))
        simp only [impl_residue.l0]
        rw [w64 (x := p.tdiv 2) (by omega) (by omega), if_pos c, if_neg (by omega), hxx, if_neg c2, w64 (x := x + 1) (by omega) (by omega)]
    · refine Ev.step (f := fun _ => some (-1)) (fun k => ?_) (by simp only [resS, if_neg c]; exact Ev.now _)
      simp only [impl_residue.l0]
      rw [w64 (x := p.tdiv 2) (by omega) (by omega), if_neg c]
theorem implResidue_ev {p u : Int} (h : p ∈ P6) (hu : u.natAbs < 2 ^ 63) : Ev (fun k => impl_residue.f k u p) (res p u) := by
  have hp := P6_bd h
  unfold impl_residue.f
  simp only [implRest_eq (show 0 < p by omega) (by omega) hu, Option.bind_some]
  unfold res resR
  by_cases c : u % p = 0
  · simp only [if_pos c]; exact Ev.now _
  · simp only [if_neg c]
    exact implResidue_l (by omega) (by omega) _ 1 (by omega) (by rw [tdiv2 (by omega)]; omega) (by omega)
theorem specPower_l {m : Int} (hm : 3 ≤ m) (hM : m ≤ 1000) : ∀ (d : Nat) (b e acc : Int), 0 ≤ b → b < m → 0 ≤ acc → acc < m → 0 ≤ e → e < 2 ^ d → e ≤ 1000 →
    Ev (fun k => spec_l1Power.l0 k b e m acc) (powS m d b e acc) := by
  intro d
  induction d with
  | zero =>
    intro b e acc h1 h2 h3 h4 h5 h6 h7
    refine Ev.step (f := fun _ => some acc) (fun k => ?_) (Ev.now _)
    simp only [spec_l1Power.l0]
    rw [if_neg (by simp at h6; omega)]
  | succ d ih =>
    intro b e acc h1 h2 h3 h4 h5 h6 h7
    by_cases c : e > 0
    · have hbb := wmul (a := b) (b := b) (by omega) (by omega) (by omega) (by omega)
      have hab := wmul (a := acc) (b := b) (by omega) (by omega) (by omega) (by omega)
      have ht := tdiv2 (n := e) (by omega)
      have hb2 := tmod_range (x := b * b) (n := m) (sq_nonneg b) (by omega)
      have ha2 := tmod_range (x := acc * b) (n := m) (Int.mul_nonneg h3 h1) (by omega)
      have he2 : e.tdiv 2 < 2 ^ d := by rw [ht]; rw [Int.pow_succ] at h6; omega
      by_cases c2 : e.tmod 2 = 1
      · refine Ev.step (fun k => ?_) (by simp only [powS, if_pos c, if_pos c2]; exact ih ((b * b).tmod m) (e.tdiv 2) ((acc * b).tmod m) hb2.1 hb2.2 ha2.1 ha2.2 (by omega) he2 (by omega))
        simp only [spec_l1Power.l0]
        rw [if_pos c, if_pos c2, if_neg (by omega), hbb, hab, w64 (x := e.tdiv 2) (by omega) (by omega)]
      · refine Ev.step (fun k => ?_) (by simp only [powS, if_pos c, if_neg c2]; exact ih ((b * b).tmod m) (e.tdiv 2) acc hb2.1 hb2.2 h3 h4 (by omega) he2 (by omega))
        simp only [spec_l1Power.l0]
        rw [if_pos c, if_neg c2, if_neg (by omega), hbb, w64 (x := e.tdiv 2) (by omega) (by omega)]
    · refine Ev.step (f := fun _ => some acc) (fun k => ?_) (by simp only [powS, if_neg c]; exact Ev.now _)
      simp only [spec_l1Power.l0]
      rw [if_neg c]
theorem specResidue_ev {p u : Int} (h : p ∈ P6) (hu : u.natAbs < 2 ^ 63) : Ev (fun k => spec_l1Residue.f k u p) (res p u) := by
  have hp := P6_bd h
  rw [res_pow h]
  unfold spec_l1Residue.f spec_l1Power.f
  have hr := Int.emod_nonneg u (show p ≠ 0 by omega)
  have hr2 := Int.emod_lt_of_pos u (show 0 < p by omega)
  have h1 := Int.emod_nonneg 1 (show p ≠ 0 by omega)
  have h12 := Int.emod_lt_of_pos 1 (show 0 < p by omega)
  have ht := tdiv2 (n := p - 1) (by omega)
  simp only [if_neg (show ¬ p = 0 by omega), specMod_eq (show 0 < p by omega) (by omega) hu, Option.bind_some, w64 (x := p - 1) (by omega) (by omega), w64 (x := (p - 1).tdiv 2) (by omega) (by omega)]
  refine (specPower_l (by omega) (by omega) 8 (u % p) ((p - 1).tdiv 2) (1 % p) hr hr2 h1 h12 (by omega) (by omega) (by omega)).bind ?_
  unfold resPR powR
  split <;> exact Ev.now _
theorem P8_of6 {p : Int} (h : p ∈ P6) : p ∈ (2 :: P6) := List.mem_cons_of_mem _ h
theorem implSq_ev {n p : Int} (h : p ∈ P8) (hn : n ≠ 0) (hN : n.natAbs < 2 ^ 63) : Ev (fun k => impl_localSquare.f k n p) (sqAt n p) := by
  unfold impl_localSquare.f
  rcases List.mem_cons.1 h with rfl | h
  · simp only [if_true, code_zero hn]; exact Ev.now _
  · have hp := P7_bd h
    obtain ⟨_, v2, v3, v4, v5, v6, _⟩ := val_spec hp hn hN
    simp only [if_neg (show ¬ p = 0 by omega)]
    refine (split_ev hp hn hN).bind ?_
    simp only
    have hpar := par_cases (val p n)
    have hm : (val p n).tmod 2 = val p n % 2 := Int.tmod_eq_emod_of_nonneg v3
    by_cases c : (val p n).tmod 2 = 0
    · simp only [if_pos c]
      rcases List.mem_cons.1 h with rfl | h6
      · simp only [if_true, implRest_eq (a := unit 2 n) (m := 8) (by omega) (by omega) (by omega), Option.bind_some]
        have := unit2 hn hN
        have e : sqAt n 2 = (unit 2 n % 8 == 1) := by
          unfold sqAt code
          simp only [show ¬ (2 : Int) = 0 from by omega, if_false, if_true, show par (val 2 n) = 0 from by omega]
          rcases this with h | h | h | h <;> rw [h] <;> rfl
        rw [e]; exact Ev.now _
      · have h2 := P6_bd h6
        simp only [if_neg (show ¬ p = 2 by omega)]
        refine (implResidue_ev h6 (by omega)).bind ?_
        have e : sqAt n p = (res p (unit p n) == 1) := by
          unfold sqAt code
          simp only [if_neg (show ¬ p = 0 by omega), if_neg (show ¬ p = 2 by omega), show par (val p n) = 0 from by omega]
          by_cases c : res p (unit p n) = 1
          · simp [c]
          · simp [c]
        rw [e]; exact Ev.now _
    · simp only [if_neg c]
      have e : sqAt n p = false := by
        unfold sqAt code
        simp only [if_neg (show ¬ p = 0 by omega), show par (val p n) = 1 from by omega]
        split
        · rename_i h2; subst h2; rw [show par (val 2 n) = 1 from by omega]; simp
        · simp
      rw [e]; exact Ev.now _
theorem specSq_ev {n p : Int} (h : p ∈ P8) (hn : n ≠ 0) (hN : n.natAbs < 2 ^ 63) : Ev (fun k => spec_l2Square.f k n p) (sqAt n p) := by
  unfold spec_l2Square.f
  rcases List.mem_cons.1 h with rfl | h
  · simp only [if_true, code_zero hn]; exact Ev.now _
  · have hp := P7_bd h
    obtain ⟨_, v2, v3, v4, v5, v6, _⟩ := val_spec hp hn hN
    simp only [if_neg (show ¬ p = 0 by omega)]
    refine (valuation_ev hp hn hN).bind ?_
    simp only
    have hpar := par_cases (val p n)
    have hm : (val p n).tmod 2 = val p n % 2 := Int.tmod_eq_emod_of_nonneg v3
    by_cases c : (val p n).tmod 2 = 0
    · simp only [if_pos c]
      rcases List.mem_cons.1 h with rfl | h6
      · simp only [if_true, specMod_eq (a := unit 2 n) (m := 8) (by omega) (by omega) (by omega), Option.bind_some]
        have := unit2 hn hN
        have e : sqAt n 2 = (unit 2 n % 8 == 1) := by
          unfold sqAt code
          simp only [show ¬ (2 : Int) = 0 from by omega, if_false, if_true, show par (val 2 n) = 0 from by omega]
          rcases this with h | h | h | h <;> rw [h] <;> rfl
        rw [e]; exact Ev.now _
      · have h2 := P6_bd h6
        simp only [if_neg (show ¬ p = 2 by omega)]
        refine (specResidue_ev h6 (by omega)).bind ?_
        have e : sqAt n p = (res p (unit p n) == 1) := by
          unfold sqAt code
          simp only [if_neg (show ¬ p = 0 by omega), if_neg (show ¬ p = 2 by omega), show par (val p n) = 0 from by omega]
          by_cases c : res p (unit p n) = 1
          · simp [c]
          · simp [c]
        rw [e]; exact Ev.now _
    · simp only [if_neg c]
      have e : sqAt n p = false := by
        unfold sqAt code
        simp only [if_neg (show ¬ p = 0 by omega), show par (val p n) = 1 from by omega]
        split
        · rename_i h2; subst h2; rw [show par (val 2 n) = 1 from by omega]; simp
        · simp
      rw [e]
      split <;> exact Ev.now _


/-! ### symbols -/
theorem power_ev {t e : Int} (he : e = 0 ∨ e = 1) (ht : t = 1 ∨ t = -1) : Ev (fun k => impl_power.f k t e) (if e = 1 then t else 1) := by
  refine ⟨2, fun k hk => ?_⟩
  obtain ⟨m, rfl⟩ : ∃ m, k = m + 2 := ⟨k - 2, by omega⟩
  rcases he with rfl | rfl <;> rcases ht with rfl | rfl <;> simp [impl_power.f, impl_power.l0, wrap64]
theorem symOdd {p a b : Int} (h : p ∈ P6) (ha : a ≠ 0) (hb : b ≠ 0) (hA : a.natAbs < 2 ^ 63) (hB : b.natAbs < 2 ^ 63) :
    sym a b p = (if (val p a * val p b) % 2 = 1 ∧ p % 4 = 3 then -1 else 1) * (if val p b % 2 = 1 then res p (unit p a) else 1) * (if val p a % 2 = 1 then res p (unit p b) else 1) := by
  have hp := P6_bd h
  obtain ⟨_, a2, a3, _⟩ := val_spec (p := p) (by omega) ha hA
  obtain ⟨_, b2, b3, _⟩ := val_spec (p := p) (by omega) hb hB
  have ra := res_pm h (tmod_ne a2)
  have rb := res_pm h (tmod_ne b2)
  have pa := par_cases (val p a)
  have pb := par_cases (val p b)
  unfold sym symC code
  simp only [if_neg (show ¬ p = 0 by omega), if_neg (show ¬ p = 2 by omega), Int.mul_emod (val p a) (val p b) 2]
  rcases ra with r | r <;> rcases rb with s | s <;> rcases pa with ⟨q, q'⟩ | ⟨q, q'⟩ <;> rcases pb with ⟨t, t'⟩ | ⟨t, t'⟩ <;> rw [r, s, q, q', t, t'] <;> simp
theorem half_odd {p m : Int} (h : p ∈ P6) (hm : 0 ≤ m) : ((m * (p - 1)).tdiv 2).tmod 2 = (if m % 2 = 1 ∧ p % 4 = 3 then 1 else 0) ∧ (m * ((p - 1).tdiv 2)).tmod 2 = (if m % 2 = 1 ∧ p % 4 = 3 then 1 else 0) := by
  have hp := P6_bd h
  have h0 : 0 ≤ m * (p - 1) := Int.mul_nonneg hm (by omega)
  have h1 : 0 ≤ m * ((p - 1).tdiv 2) := Int.mul_nonneg hm (by rw [tdiv2 (by omega)]; omega)
  rw [Int.tmod_eq_emod_of_nonneg (a := m * ((p - 1).tdiv 2)) h1, Int.tmod_eq_emod_of_nonneg (by rw [tdiv2 h0]; omega), tdiv2 h0]
  rcases hp.2.2 with rfl | rfl | rfl | rfl | rfl | rfl
  all_goals
    simp only [Int.reduceSub, Int.reduceTDiv, Int.reduceMod, and_true, Int.reduceEq, and_false, if_false]
    try split
    all_goals omega
theorem two8 {x : Int} (h : x = 1 ∨ x = 3 ∨ x = 5 ∨ x = 7) : wrap64 (Int.tdiv (wrap64 (x - 1)) 2) = (x - 1) / 2 ∧ wrap64 (wrap64 (x * x) - 1) = 8 * ((x * x - 1) / 8) ∧ 0 ≤ (x - 1) / 2 ∧ (x - 1) / 2 ≤ 3 ∧ 0 ≤ (x * x - 1) / 8 ∧ (x * x - 1) / 8 ≤ 6 := by
  rcases h with rfl | rfl | rfl | rfl <;> decide +kernel
theorem two16 {u : Int} (h : u % 8 = 1 ∨ u % 8 = 3 ∨ u % 8 = 5 ∨ u % 8 = 7) : ∃ X1 X2, wrap64 (Int.tdiv (wrap64 (u % 16 - 1)) 2) = X1 ∧ wrap64 (Int.tdiv (wrap64 (wrap64 (u % 16 * (u % 16)) - 1)) 8) = X2 ∧
    0 ≤ X1 ∧ X1 ≤ 7 ∧ 0 ≤ X2 ∧ X2 ≤ 28 ∧ X1 % 2 = (u % 8 - 1) / 2 % 2 ∧ X2 % 2 = (u % 8 * (u % 8) - 1) / 8 % 2 := by
  have h2 : u % 16 = u % 8 ∨ u % 16 = u % 8 + 8 := by omega
  rcases h with h | h | h | h <;> rcases h2 with h2 | h2 <;> rw [h2, h] <;> exact ⟨_, _, rfl, rfl, by decide +kernel⟩
theorem par3 (X1 Y1 X2 Y2 i j : Int) : (X1 * Y1 + i * Y2 + j * X2) % 2 = ((X1 % 2) * (Y1 % 2) + i * (Y2 % 2) + j * (X2 % 2)) % 2 := by
  have h1 : (X1 * Y1) % 2 = ((X1 % 2) * (Y1 % 2)) % 2 := Int.mul_emod _ _ _
  have h2 : (i * Y2) % 2 = (i * (Y2 % 2)) % 2 := by rw [Int.mul_emod, Int.mul_emod i (Y2 % 2)]; simp
  have h3 : (j * X2) % 2 = (j * (X2 % 2)) % 2 := by rw [Int.mul_emod, Int.mul_emod j (X2 % 2)]; simp
  omega
theorem symTwo {a b : Int} (ha : a ≠ 0) (hb : b ≠ 0) (hA : a.natAbs < 2 ^ 63) (hB : b.natAbs < 2 ^ 63) :
    sym a b 2 = (if ((unit 2 a % 8 - 1) / 2 * ((unit 2 b % 8 - 1) / 2) + val 2 a * ((unit 2 b % 8 * (unit 2 b % 8) - 1) / 8) + val 2 b * ((unit 2 a % 8 * (unit 2 a % 8) - 1) / 8)) % 2 = 1 then -1 else 1) := by
  have ua := unit2 ha hA
  have ub := unit2 hb hB
  have pa := par_cases (val 2 a)
  have pb := par_cases (val 2 b)
  unfold sym code
  simp only [show ¬ (2 : Int) = 0 from by omega, if_false, if_true]
  rcases ua with h | h | h | h <;> rcases ub with h' | h' | h' | h' <;> rw [h, h'] <;>
    rcases pa with ⟨q, q'⟩ | ⟨q, q'⟩ <;> rcases pb with ⟨t, t'⟩ | ⟨t, t'⟩ <;> rw [q, t] <;>
    first
    | (rw [if_pos (by omega)]; decide)
    | (rw [if_neg (by omega)]; decide)
theorem implSymbol_ev {p a b : Int} (h : p ∈ P8) (ha : a ≠ 0) (hb : b ≠ 0) (hA : a.natAbs < 2 ^ 63) (hB : b.natAbs < 2 ^ 63) : Ev (fun k => impl_symbol.f k a b p) (sym a b p) := by
  unfold impl_symbol.f
  rcases List.mem_cons.1 h with rfl | h
  · simp only [if_true]
    unfold sym symC code
    by_cases c1 : a < 0
    · by_cases c2 : b < 0
      · simp only [if_pos c1, if_pos c2]; exact Ev.now _
      · simp only [if_pos c1, if_neg c2]; exact Ev.now _
    · simp only [if_neg c1]
      by_cases c2 : b < 0
      · simp only [if_pos c2]; exact Ev.now _
      · simp only [if_neg c2]; exact Ev.now _
  · have hp := P7_bd h
    obtain ⟨_, a2, a3, a4, a5, a6, _⟩ := val_spec hp ha hA
    obtain ⟨_, b2, b3, b4, b5, b6, _⟩ := val_spec hp hb hB
    simp only [if_neg (show ¬ p = 0 by omega)]
    refine (split_ev hp ha hA).bind ((split_ev hp hb hB).bind ?_)
    simp only
    rcases List.mem_cons.1 h with rfl | h6
    · simp only [if_true, implRest_eq (a := unit 2 a) (m := 8) (by omega) (by omega) (by omega), implRest_eq (a := unit 2 b) (m := 8) (by omega) (by omega) (by omega), Option.bind_some]
      have ta := two8 (unit2 ha hA)
      have tb := two8 (unit2 hb hB)
      rw [symTwo ha hb hA hB]
      generalize unit 2 a % 8 = x at ta
      generalize unit 2 b % 8 = y at tb
      generalize val 2 a = i at a3 a4
      generalize val 2 b = j at b3 b4
      simp only [ta.1, tb.1, ta.2.1, tb.2.1]
      obtain ⟨_, _, x1, x2, x3, x4⟩ := ta
      obtain ⟨_, _, y1, y2, y3, y4⟩ := tb
      generalize (x - 1) / 2 = X1 at x1 x2
      generalize (y - 1) / 2 = Y1 at y1 y2
      generalize (x * x - 1) / 8 = X2 at x3 x4
      generalize (y * y - 1) / 8 = Y2 at y3 y4
      have m0 := Int.mul_nonneg x1 y1
      have M0 := mul_le2 x1 x2 y1 y2
      have m1 := Int.mul_nonneg a3 y3
      have M1 := mul_le2 a3 (show i ≤ 63 by omega) y3 y4
      have m2 := Int.mul_nonneg b3 x3
      have M2 := mul_le2 b3 (show j ≤ 63 by omega) x3 x4
      have d1 : i * (8 * Y2) = 8 * (i * Y2) := by rw [Int.mul_left_comm]
      have d2 : j * (8 * X2) = 8 * (j * X2) := by rw [Int.mul_left_comm]
      rw [d1, d2]
      generalize X1 * Y1 = A at m0 M0
      generalize i * Y2 = B at m1 M1
      generalize j * X2 = C at m2 M2
      have e1 : (8 * B).tdiv 8 = B := Int.mul_tdiv_cancel_left _ (by omega)
      have e2 : (8 * C).tdiv 8 = C := Int.mul_tdiv_cancel_left _ (by omega)
      simp only [w64 (x := A) (by omega) (by omega), w64 (x := 8 * B) (by omega) (by omega), w64 (x := 8 * C) (by omega) (by omega), e1, e2, w64 (x := B) (by omega) (by omega), w64 (x := C) (by omega) (by omega),
        w64 (x := A + B) (by omega) (by omega), w64 (x := A + B + C) (by omega) (by omega), Int.tmod_eq_emod_of_nonneg (show 0 ≤ A + B + C by omega)]
      refine (power_ev (t := -1) (e := (A + B + C) % 2) (by omega) (by omega)).bind ?_
      exact Ev.now _
    · have h2 := P6_bd h6
      simp only [if_neg (show ¬ p = 2 by omega)]
      have ra := res_pm h6 (tmod_ne a2)
      have rb := res_pm h6 (tmod_ne b2)
      have ea := implResidue_ev h6 (u := unit p a) (by omega)
      have eb := implResidue_ev h6 (u := unit p b) (by omega)
      rw [symOdd h6 ha hb hA hB]
      generalize res p (unit p a) = r at ra ea
      generalize res p (unit p b) = s at rb eb
      have m1 := Int.mul_nonneg a3 b3
      have M1 := mul_le2 a3 (show val p a ≤ 63 by omega) b3 (show val p b ≤ 63 by omega)
      have m2 := Int.mul_nonneg m1 (show 0 ≤ p - 1 by omega)
      have M2 := mul_le2 m1 (show val p a * val p b ≤ 4000 by omega) (show 0 ≤ p - 1 by omega) (show p - 1 ≤ 96 by omega)
      have hh := (half_odd h6 m1).1
      have e1 : (val p b).tmod 2 = val p b % 2 := Int.tmod_eq_emod_of_nonneg b3
      have e2 : (val p a).tmod 2 = val p a % 2 := Int.tmod_eq_emod_of_nonneg a3
      have ht := tdiv2 m2
      simp only [w64 (x := val p a * val p b) (by omega) (by omega), w64 (x := p - 1) (by omega) (by omega), w64 (x := val p a * val p b * (p - 1)) (by omega) (by omega), w64 (x := (val p a * val p b * (p - 1)).tdiv 2) (by omega) (by omega), hh, e1, e2]
      refine (power_ev (t := -1) (by split <;> simp) (by omega)).bind (ea.bind ((power_ev (t := r) (e := val p b % 2) (by omega) (by omega)).bind (eb.bind ((power_ev (t := s) (e := val p a % 2) (by omega) (by omega)).bind ?_))))
      have w1 : ∀ x : Int, x = 1 ∨ x = -1 → wrap64 x = x := fun x hx => w64 (by omega) (by omega)
      have f1 : ∀ c : Prop, ∀ _ : Decidable c, (if (if c then (1 : Int) else 0) = 1 then (-1 : Int) else 1) = if c then -1 else 1 := by intro c _; split <;> simp
      rw [f1]
      generalize hX : (if (val p a * val p b) % 2 = 1 ∧ p % 4 = 3 then (-1 : Int) else 1) = X
      generalize hY : (if val p b % 2 = 1 then r else 1) = Y
      generalize hZ : (if val p a % 2 = 1 then s else 1) = Z
      have gX : X = 1 ∨ X = -1 := by rw [← hX]; split <;> simp
      have gY : Y = 1 ∨ Y = -1 := by rw [← hY]; split <;> omega
      have gZ : Z = 1 ∨ Z = -1 := by rw [← hZ]; split <;> omega
      have e3 : wrap64 (wrap64 (X * Y) * Z) = X * Y * Z := by rcases gX with rfl | rfl <;> rcases gY with rfl | rfl <;> rcases gZ with rfl | rfl <;> decide +kernel
      rw [e3]; exact Ev.now _
theorem specHalf_eq (e : Int) (h : 0 ≤ e) : spec_l3Half.f e = some (if e % 2 = 1 then -1 else 1) := by
  unfold spec_l3Half.f
  rw [Int.tmod_eq_emod_of_nonneg h]
  by_cases c : e % 2 = 0
  · rw [if_pos c, if_neg (by omega)]
  · rw [if_neg c, if_pos (by omega)]
theorem specSymbol_ev {p a b : Int} (h : p ∈ P8) (ha : a ≠ 0) (hb : b ≠ 0) (hA : a.natAbs < 2 ^ 63) (hB : b.natAbs < 2 ^ 63) : Ev (fun k => spec_l3Symbol.f k a b p) (sym a b p) := by
  unfold spec_l3Symbol.f
  rcases List.mem_cons.1 h with rfl | h
  · simp only [if_true]
    unfold sym symC code
    by_cases c1 : a < 0
    · by_cases c2 : b < 0
      · simp only [if_pos c1, if_pos c2]; exact Ev.now _
      · simp only [if_pos c1, if_neg c2]; exact Ev.now _
    · simp only [if_neg c1]
      by_cases c2 : b < 0
      · simp only [if_pos c2]; exact Ev.now _
      · simp only [if_neg c2]; exact Ev.now _
  · have hp := P7_bd h
    obtain ⟨_, a2, a3, a4, a5, a6, _⟩ := val_spec hp ha hA
    obtain ⟨_, b2, b3, b4, b5, b6, _⟩ := val_spec hp hb hB
    simp only [if_neg (show ¬ p = 0 by omega)]
    refine (valuation_ev hp ha hA).bind ((valuation_ev hp hb hB).bind ?_)
    simp only
    rcases List.mem_cons.1 h with rfl | h6
    · simp only [if_true, specMod_eq (a := unit 2 a) (m := 16) (by omega) (by omega) (by omega), specMod_eq (a := unit 2 b) (m := 16) (by omega) (by omega) (by omega), Option.bind_some]
      obtain ⟨X1, X2, f1, f2, x1, x2, x3, x4, x5, x6⟩ := two16 (unit2 ha hA)
      obtain ⟨Y1, Y2, g1, g2, y1, y2, y3, y4, y5, y6⟩ := two16 (unit2 hb hB)
      rw [symTwo ha hb hA hB, par3, ← x5, ← x6, ← y5, ← y6, ← par3]
      simp only [f1, f2, g1, g2]
      generalize val 2 a = i at a3 a4
      generalize val 2 b = j at b3 b4
      have m0 := Int.mul_nonneg x1 y1
      have M0 := mul_le2 x1 x2 y1 y2
      have m1 := Int.mul_nonneg a3 y3
      have M1 := mul_le2 a3 (show i ≤ 63 by omega) y3 y4
      have m2 := Int.mul_nonneg b3 x3
      have M2 := mul_le2 b3 (show j ≤ 63 by omega) x3 x4
      simp only [w64 (x := X1 * Y1) (by omega) (by omega), w64 (x := i * Y2) (by omega) (by omega), w64 (x := j * X2) (by omega) (by omega), w64 (x := X1 * Y1 + i * Y2) (by omega) (by omega), w64 (x := X1 * Y1 + i * Y2 + j * X2) (by omega) (by omega),
        specHalf_eq (X1 * Y1 + i * Y2 + j * X2) (by omega), Option.bind_some]
      exact Ev.now _
    · have h2 := P6_bd h6
      simp only [if_neg (show ¬ p = 2 by omega)]
      have ra := res_pm h6 (tmod_ne a2)
      have rb := res_pm h6 (tmod_ne b2)
      have ea := specResidue_ev h6 (u := unit p a) (by omega)
      have eb := specResidue_ev h6 (u := unit p b) (by omega)
      rw [symOdd h6 ha hb hA hB]
      generalize res p (unit p a) = r at ra ea
      generalize res p (unit p b) = s at rb eb
      have m1 := Int.mul_nonneg a3 b3
      have M1 := mul_le2 a3 (show val p a ≤ 63 by omega) b3 (show val p b ≤ 63 by omega)
      have h3 := tdiv2 (n := p - 1) (by omega)
      have m2 := Int.mul_nonneg m1 (show 0 ≤ (p - 1).tdiv 2 by omega)
      have M2 := mul_le2 m1 (show val p a * val p b ≤ 4000 by omega) (show 0 ≤ (p - 1).tdiv 2 by omega) (show (p - 1).tdiv 2 ≤ 48 by omega)
      have hh := (half_odd h6 m1).2
      rw [Int.tmod_eq_emod_of_nonneg m2] at hh
      have e1 : (val p b).tmod 2 = val p b % 2 := Int.tmod_eq_emod_of_nonneg b3
      have e2 : (val p a).tmod 2 = val p a % 2 := Int.tmod_eq_emod_of_nonneg a3
      simp only [w64 (x := val p a * val p b) (by omega) (by omega), w64 (x := p - 1) (by omega) (by omega), w64 (x := (p - 1).tdiv 2) (by omega) (by omega), w64 (x := val p a * val p b * (p - 1).tdiv 2) (by omega) (by omega), specHalf_eq _ m2, hh, e1, e2, Option.bind_some]
      have f1 : ∀ c : Prop, ∀ _ : Decidable c, (if (if c then (1 : Int) else 0) = 1 then (-1 : Int) else 1) = if c then -1 else 1 := by intro c _; split <;> simp
      rw [f1]
      generalize hX : (if (val p a * val p b) % 2 = 1 ∧ p % 4 = 3 then (-1 : Int) else 1) = X
      have gX : X = 1 ∨ X = -1 := by rw [← hX]; split <;> simp
      have w2 : ∀ x y : Int, x = 1 ∨ x = -1 → y = 1 ∨ y = -1 → wrap64 (x * y) = x * y ∧ (x * y = 1 ∨ x * y = -1) := by
        intro x y hx hy; rcases hx with rfl | rfl <;> rcases hy with rfl | rfl <;> decide +kernel
      by_cases c1 : val p b % 2 = 1
      · simp only [if_pos c1]
        refine ea.bind ?_
        by_cases c2 : val p a % 2 = 1
        · simp only [if_pos c2]
          refine eb.bind ?_
          rw [(w2 X r gX ra).1, (w2 (X * r) s (w2 X r gX ra).2 rb).1]
          exact Ev.now _
        · simp only [if_neg c2, (w2 X r gX ra).1, Int.mul_one]; exact Ev.now _
      · simp only [if_neg c1]
        by_cases c2 : val p a % 2 = 1
        · simp only [if_pos c2]
          refine eb.bind ?_
          rw [(w2 X s gX rb).1, Int.mul_one]; exact Ev.now _
        · simp only [if_neg c2, Int.mul_one]; exact Ev.now _


/-! ### forms -/
theorem implFormValid_l (xs : List Int) (hx : ∀ x ∈ xs, x.natAbs ≤ 1000000) (hl : xs.length ≤ 100) : ∀ (d j : Nat), j + d = xs.length →
    Ev (fun k => impl_FormValid.l0 k xs xs (xs.length : Int) j) ((xs.drop j).all (fun x => decide (x ≠ 0) && decide (x.natAbs ≤ 30)) && (decide (1 ≤ xs.length) && decide (xs.length ≤ 4))) := by
  intro d
  induction d with
  | zero =>
    intro j hj
    rw [List.drop_of_length_le (by omega)]
    refine Ev.step (f := fun _ => some (decide (1 ≤ xs.length) && decide (xs.length ≤ 4))) (fun k => ?_) (by simpa using Ev.now _)
    simp only [impl_FormValid.l0]
    rw [if_neg (by omega)]
    by_cases c : 1 ≤ xs.length
    · rw [if_pos (by omega), decide_eq_true c, Bool.true_and]; congr 1; exact decide_eq_decide.2 (by omega)
    · rw [if_neg (by omega), decide_eq_false c, Bool.false_and]
  | succ d ih =>
    intro j hj
    have hm := hx _ (rd_mem (xs := xs) (j := j) (by omega))
    rw [rd_drop (show j < xs.length by omega)]
    have := ih (j + 1) (by omega)
    generalize hp : rd xs (j : Int) = p at hm
    rw [List.all_cons]
    by_cases c0 : p = 0
    · rw [decide_eq_false (by omega : ¬ p ≠ 0), Bool.false_and, Bool.false_and, Bool.false_and]
      refine Ev.step (f := fun _ => some false) (fun k => ?_) (Ev.now _)
      simp only [impl_FormValid.l0]
      rw [if_pos (by omega), if_pos (by omega), if_pos (by omega), hp, if_pos c0]
    · have hs : impl_size.f p = some (absI p) := by simp only [impl_size.f]; rw [size_ev (by omega) (by omega)]
      by_cases c : p.natAbs ≤ 30
      · rw [decide_eq_true c0, decide_eq_true c, Bool.true_and, Bool.true_and]
        refine Ev.step (fun k => ?_) this
        simp only [impl_FormValid.l0]
        rw [if_pos (by omega), if_pos (by omega), if_pos (by omega), hp, if_neg c0, hs, Option.bind_some, if_neg (by unfold absI; omega), w64 (x := (j : Int) + 1) (by omega) (by omega)]
        rfl
      · rw [decide_eq_false c, Bool.and_false, Bool.false_and, Bool.false_and]
        refine Ev.step (f := fun _ => some false) (fun k => ?_) (Ev.now _)
        simp only [impl_FormValid.l0]
        rw [if_pos (by omega), if_pos (by omega), if_pos (by omega), hp, if_neg c0, hs, Option.bind_some, if_pos (by unfold absI; omega)]
theorem implFormValid_ev {xs : List Int} (hx : ∀ x ∈ xs, x.natAbs ≤ 1000000) (hl : xs.length ≤ 100) : Ev (fun k => impl_FormValid.f k xs) (formOk xs) :=
  implFormValid_l xs hx hl xs.length 0 (by omega)
theorem specIn_eq (x a b : Int) : spec_l6In.f x a b = some (decide (a ≤ x) && decide (x ≤ b)) := by
  unfold spec_l6In.f
  by_cases c : x ≥ a
  · simp [c, show a ≤ x from c]
  · simp [c, show ¬ a ≤ x from c]
theorem specFormValid_l (xs : List Int) (hl : xs.length ≤ 100) : ∀ (d j : Nat), j + d = xs.length →
    Ev (fun k => spec_FormValid.l0 k xs j) ((xs.drop j).all (fun x => decide (x ≠ 0) && decide (x.natAbs ≤ 30)) && (decide (1 ≤ xs.length) && decide (xs.length ≤ 4))) := by
  intro d
  induction d with
  | zero =>
    intro j hj
    rw [List.drop_of_length_le (by omega)]
    refine Ev.step (f := fun _ => some (decide (1 ≤ xs.length) && decide (xs.length ≤ 4))) (fun k => ?_) (by simpa using Ev.now _)
    simp only [spec_FormValid.l0, specIn_eq, Option.bind_some]
    rw [if_neg (by omega), show decide ((1 : Int) ≤ (xs.length : Int)) = decide (1 ≤ xs.length) from decide_eq_decide.2 (by omega), show decide ((xs.length : Int) ≤ 4) = decide (xs.length ≤ 4) from decide_eq_decide.2 (by omega)]
  | succ d ih =>
    intro j hj
    rw [rd_drop (show j < xs.length by omega)]
    have := ih (j + 1) (by omega)
    generalize hp : rd xs (j : Int) = p
    rw [List.all_cons]
    by_cases c0 : p = 0
    · rw [decide_eq_false (by omega : ¬ p ≠ 0), Bool.false_and, Bool.false_and, Bool.false_and]
      refine Ev.step (f := fun _ => some false) (fun k => ?_) (Ev.now _)
      simp only [spec_FormValid.l0]
      rw [if_pos (by omega), if_pos (by omega), hp, if_pos c0]
    · have hb : (decide (-30 ≤ p) && decide (p ≤ 30)) = decide (p.natAbs ≤ 30) := by
        rw [← Bool.decide_and]; exact decide_eq_decide.2 (by omega)
      by_cases c : p.natAbs ≤ 30
      · rw [decide_eq_true c0, decide_eq_true c, Bool.true_and, Bool.true_and]
        refine Ev.step (fun k => ?_) this
        simp only [spec_FormValid.l0, specIn_eq, Option.bind_some]
        rw [if_pos (by omega), if_pos (by omega), hp, if_neg c0, hb, if_pos (decide_eq_true c), w64 (x := (j : Int) + 1) (by omega) (by omega)]
        rfl
      · rw [decide_eq_false c, Bool.and_false, Bool.false_and, Bool.false_and]
        refine Ev.step (f := fun _ => some false) (fun k => ?_) (Ev.now _)
        simp only [spec_FormValid.l0, specIn_eq, Option.bind_some]
        rw [if_pos (by omega), if_pos (by omega), hp, if_neg c0, hb, decide_eq_false c]
        simp
theorem specFormValid_ev {xs : List Int} (hl : xs.length ≤ 100) : Ev (fun k => spec_FormValid.f k xs) (formOk xs) :=
  specFormValid_l xs hl xs.length 0 (by omega)
theorem pow30 {j : Nat} (h : j ≤ 5) : 30 ^ j ≤ 24300000 := by
  have : 30 ^ j ≤ 30 ^ 5 := Nat.pow_le_pow_right (by omega) h
  omega
theorem implProduct_l (xs : List Int) (hx : ∀ x ∈ xs, Sm x) (hl : xs.length ≤ 5) : ∀ (d j : Nat) (acc : Int), j + d = xs.length → acc.natAbs ≤ 30 ^ j →
    Ev (fun k => impl_product.l0 k acc xs (xs.length : Int) j) (prodF (xs.drop j) acc) := by
  intro d
  induction d with
  | zero =>
    intro j acc hj hA
    rw [List.drop_of_length_le (by omega)]
    refine Ev.step (f := fun _ => some acc) (fun k => ?_) (Ev.now _)
    simp only [impl_product.l0]
    rw [if_neg (by omega)]
  | succ d ih =>
    intro j acc hj hA
    have hm := hx _ (rd_mem (xs := xs) (j := j) (by omega))
    rw [rd_drop (show j < xs.length by omega)]
    have h2 : (acc * rd xs j).natAbs ≤ 30 ^ (j + 1) := by rw [Int.natAbs_mul, Nat.pow_succ]; exact Nat.mul_le_mul hA hm.2
    have h3 := pow30 (show j + 1 ≤ 5 by omega)
    refine Ev.step (fun k => ?_) (ih (j + 1) (acc * rd xs j) (by omega) h2)
    simp only [impl_product.l0]
    rw [if_pos (by omega), if_pos (by omega), if_pos (by omega), w64 (x := acc * rd xs j) (by omega) (by omega), w64 (x := (j : Int) + 1) (by omega) (by omega)]
    rfl
theorem implProduct_ev {xs : List Int} (hx : ∀ x ∈ xs, Sm x) (hl : xs.length ≤ 5) : Ev (fun k => impl_product.f k xs) (prod xs) :=
  implProduct_l xs hx hl xs.length 0 1 (by omega) (by simp)
theorem specProduct_l (xs : List Int) (hx : ∀ x ∈ xs, Sm x) (hl : xs.length ≤ 5) : ∀ (d j : Nat) (acc : Int), j + d = xs.length → acc.natAbs ≤ 30 ^ j →
    Ev (fun k => spec_l4Product.l0 k xs acc j) (prodF (xs.drop j) acc) := by
  intro d
  induction d with
  | zero =>
    intro j acc hj hA
    rw [List.drop_of_length_le (by omega)]
    refine Ev.step (f := fun _ => some acc) (fun k => ?_) (Ev.now _)
    simp only [spec_l4Product.l0]
    rw [if_neg (by omega)]
  | succ d ih =>
    intro j acc hj hA
    have hm := hx _ (rd_mem (xs := xs) (j := j) (by omega))
    rw [rd_drop (show j < xs.length by omega)]
    have h2 : (acc * rd xs j).natAbs ≤ 30 ^ (j + 1) := by rw [Int.natAbs_mul, Nat.pow_succ]; exact Nat.mul_le_mul hA hm.2
    have h3 := pow30 (show j + 1 ≤ 5 by omega)
    refine Ev.step (fun k => ?_) (ih (j + 1) (acc * rd xs j) (by omega) h2)
    simp only [spec_l4Product.l0]
    rw [if_pos (by omega), if_pos (by omega), w64 (x := acc * rd xs j) (by omega) (by omega), w64 (x := (j : Int) + 1) (by omega) (by omega)]
    rfl
theorem specProduct_ev {xs : List Int} (hx : ∀ x ∈ xs, Sm x) (hl : xs.length ≤ 5) : Ev (fun k => spec_l4Product.f k xs) (prod xs) :=
  specProduct_l xs hx hl xs.length 0 1 (by omega) (by simp)
theorem implLess_l (xs : List Int) (hl : xs.length ≤ 100) : ∀ (d j : Nat) (acc : Int), j + d = xs.length → 0 ≤ acc → acc ≤ j →
    Ev (fun k => impl_lessTerms.l0 k acc xs (xs.length : Int) j) (lessF (xs.drop j) acc) := by
  intro d
  induction d with
  | zero =>
    intro j acc hj h0 hA
    rw [List.drop_of_length_le (by omega)]
    refine Ev.step (f := fun _ => some acc) (fun k => ?_) (Ev.now _)
    simp only [impl_lessTerms.l0]
    rw [if_neg (by omega)]
  | succ d ih =>
    intro j acc hj h0 hA
    rw [rd_drop (show j < xs.length by omega)]
    simp only [lessF]
    by_cases c : rd xs j < 0
    · simp only [if_pos c]
      refine Ev.step (fun k => ?_) (ih (j + 1) (acc + 1) (by omega) (by omega) (by omega))
      simp only [impl_lessTerms.l0]
      rw [if_pos (by omega), if_pos (by omega), if_pos (by omega), if_pos c, w64 (x := acc + 1) (by omega) (by omega), w64 (x := (j : Int) + 1) (by omega) (by omega)]
      rfl
    · simp only [if_neg c]
      refine Ev.step (fun k => ?_) (ih (j + 1) acc (by omega) (by omega) (by omega))
      simp only [impl_lessTerms.l0]
      rw [if_pos (by omega), if_pos (by omega), if_pos (by omega), if_neg c, w64 (x := (j : Int) + 1) (by omega) (by omega)]
      rfl
theorem implLess_ev {xs : List Int} (hl : xs.length ≤ 100) : Ev (fun k => impl_lessTerms.f k xs) (less xs) := implLess_l xs hl xs.length 0 0 (by omega) (by omega) (by omega)
theorem specLess_l (xs : List Int) (hl : xs.length ≤ 100) : ∀ (d j : Nat) (acc : Int), j + d = xs.length → 0 ≤ acc → acc ≤ j →
    Ev (fun k => spec_l4Less.l0 k xs acc j) (lessF (xs.drop j) acc) := by
  intro d
  induction d with
  | zero =>
    intro j acc hj h0 hA
    rw [List.drop_of_length_le (by omega)]
    refine Ev.step (f := fun _ => some acc) (fun k => ?_) (Ev.now _)
    simp only [spec_l4Less.l0]
    rw [if_neg (by omega)]
  | succ d ih =>
    intro j acc hj h0 hA
    rw [rd_drop (show j < xs.length by omega)]
    simp only [lessF]
    by_cases c : rd xs j < 0
    · simp only [if_pos c]
      refine Ev.step (fun k => ?_) (ih (j + 1) (acc + 1) (by omega) (by omega) (by omega))
      simp only [spec_l4Less.l0]
      rw [if_pos (by omega), if_pos (by omega), if_pos c, w64 (x := acc + 1) (by omega) (by omega), w64 (x := (j : Int) + 1) (by omega) (by omega)]
      rfl
    · simp only [if_neg c]
      refine Ev.step (fun k => ?_) (ih (j + 1) acc (by omega) (by omega) (by omega))
      simp only [spec_l4Less.l0]
      rw [if_pos (by omega), if_pos (by omega), if_neg c, w64 (x := (j : Int) + 1) (by omega) (by omega)]
      rfl
theorem specLess_ev {xs : List Int} (hl : xs.length ≤ 100) : Ev (fun k => spec_l4Less.f k xs) (less xs) := specLess_l xs hl xs.length 0 0 (by omega) (by omega) (by omega)
theorem rd_take {xs : List Int} {i j : Nat} (h : j < i) : rd (xs.take i) (j : Int) = rd xs (j : Int) := by
  simp [rd, List.getElem?_take, h]
theorem implInn_l {p : Int} (hp : p ∈ P8) (xs : List Int) (hx : ∀ x ∈ xs, Sm x) (hl : xs.length ≤ 5) (i : Nat) (hi : i < xs.length) (v : Int) : ∀ (d j : Nat) (acc : Int), j + d = i → (acc = 1 ∨ acc = -1) →
    Ev (fun k => impl_invariant.l0 k xs p (inn p (rd xs i) ((xs.take i).drop j) acc) xs (xs.length : Int) ((i + 1 : Nat) : Int)) v →
    Ev (fun k => impl_invariant.l1 k xs p acc (rd xs i) xs (xs.length : Int) i (xs.take ((i : Nat) : Int).toNat) ((xs.take ((i : Nat) : Int).toNat).length : Int) j) v := by
  have hlen : (xs.take ((i : Nat) : Int).toNat).length = i := by simp; omega
  intro d
  induction d with
  | zero =>
    intro j acc hj hA hv
    rw [List.drop_of_length_le (by simp; omega)] at hv
    refine Ev.step (fun k => ?_) hv
    simp only [impl_invariant.l1]
    rw [if_neg (by omega), w64 (x := (i : Int) + 1) (by omega) (by omega)]
    rfl
  | succ d ih =>
    intro j acc hj hA hv
    rw [rd_drop (show j < (xs.take i).length by simp; omega), rd_take (by omega)] at hv
    have hm := hx _ (rd_mem (xs := xs) (j := j) (by omega))
    have hm2 := hx _ (rd_mem (xs := xs) (j := i) (by omega))
    have hs := implSymbol_ev hp hm2.1 hm.1 (by have := hm2.2; omega) (by have := hm.2; omega)
    have hpm := pm_mul hA (sym_pm (rd xs i) (rd xs j) p)
    have := ih (j + 1) (acc * sym (rd xs i) (rd xs j) p) (by omega) hpm.1 hv
    refine Ev.step (f := fun k => (impl_symbol.f k (rd xs i) (rd xs j) p).bind fun t127 => (impl_invariant.l1 k xs p (wrap64 (acc * t127)) (rd xs i) xs (xs.length : Int) i (xs.take ((i : Nat) : Int).toNat) ((xs.take ((i : Nat) : Int).toNat).length : Int) ((j + 1 : Nat) : Int))) (fun k => ?_) ?_
    · simp only [impl_invariant.l1]
      rw [if_pos (by omega), if_pos (by omega), if_pos (by omega), show rd (xs.take ((i : Nat) : Int).toNat) (j : Int) = rd xs (j : Int) from rd_take (by omega), w64 (x := (j : Int) + 1) (by omega) (by omega)]
      rfl
    · refine hs.bind ?_
      rw [hpm.2]
      exact this
theorem take_rd {xs : List Int} {i : Nat} (h : i < xs.length) : xs.take (i + 1) = xs.take i ++ [rd xs (i : Int)] := by
  rw [List.take_add_one]; simp [rd, List.getElem?_eq_getElem h]
theorem implInv_l {p : Int} (hp : p ∈ P8) (xs : List Int) (hx : ∀ x ∈ xs, Sm x) (hl : xs.length ≤ 5) : ∀ (d i : Nat) (acc : Int), i + d = xs.length → (acc = 1 ∨ acc = -1) →
    Ev (fun k => impl_invariant.l0 k xs p acc xs (xs.length : Int) i) (outr p (xs.take i) (xs.drop i) acc) := by
  intro d
  induction d with
  | zero =>
    intro i acc hi hA
    rw [List.drop_of_length_le (by omega)]
    refine Ev.step (f := fun _ => some acc) (fun k => ?_) (Ev.now _)
    simp only [impl_invariant.l0]
    rw [if_neg (by omega)]
  | succ d ih =>
    intro i acc hi hA
    rw [rd_drop (show i < xs.length by omega)]
    simp only [outr]
    rw [← take_rd (by omega)]
    have h1 := ih (i + 1) (inn p (rd xs i) (xs.take i) acc) (by omega) (inn_pm _ _ _ _ hA)
    have h2 := implInn_l hp xs hx hl i (by omega) _ i 0 acc (by omega) hA h1
    refine Ev.step (fun k => ?_) h2
    simp only [impl_invariant.l0]
    rw [if_pos (by omega), if_pos (by omega), if_pos (by omega), if_pos (by omega)]
    rfl
theorem implInv_ev {p : Int} (hp : p ∈ P8) {xs : List Int} (hx : ∀ x ∈ xs, Sm x) (hl : xs.length ≤ 5) : Ev (fun k => impl_invariant.f k xs p) (inv xs p) :=
  implInv_l hp xs hx hl xs.length 0 1 (by omega) (by omega)
theorem specInn_l {p : Int} (hp : p ∈ P8) (xs : List Int) (hx : ∀ x ∈ xs, Sm x) (hl : xs.length ≤ 5) (i : Nat) (hi : i < xs.length) (v : Int) : ∀ (d j : Nat) (acc : Int), j + d = i → (acc = 1 ∨ acc = -1) →
    Ev (fun k => spec_l4Invariant.l0 k xs p (inn p (rd xs i) ((xs.take i).drop j) acc) ((i + 1 : Nat) : Int)) v →
    Ev (fun k => spec_l4Invariant.l1 k xs p acc i j) v := by
  intro d
  induction d with
  | zero =>
    intro j acc hj hA hv
    rw [List.drop_of_length_le (by simp; omega)] at hv
    refine Ev.step (fun k => ?_) hv
    simp only [spec_l4Invariant.l1]
    rw [if_neg (by omega), w64 (x := (i : Int) + 1) (by omega) (by omega)]
    rfl
  | succ d ih =>
    intro j acc hj hA hv
    rw [rd_drop (show j < (xs.take i).length by simp; omega), rd_take (by omega)] at hv
    have hm := hx _ (rd_mem (xs := xs) (j := j) (by omega))
    have hm2 := hx _ (rd_mem (xs := xs) (j := i) (by omega))
    have hs := specSymbol_ev hp hm.1 hm2.1 (by have := hm.2; omega) (by have := hm2.2; omega)
    rw [sym_comm] at hs
    have hpm := pm_mul hA (sym_pm (rd xs i) (rd xs j) p)
    have := ih (j + 1) (acc * sym (rd xs i) (rd xs j) p) (by omega) hpm.1 hv
    refine Ev.step (f := fun k => (spec_l3Symbol.f k (rd xs j) (rd xs i) p).bind fun t297 => (spec_l4Invariant.l1 k xs p (wrap64 (acc * t297)) i ((j + 1 : Nat) : Int))) (fun k => ?_) ?_
    · simp only [spec_l4Invariant.l1]
      rw [if_pos (by omega), if_pos (by omega), if_pos (by omega), if_pos (by omega), if_pos (by omega), w64 (x := (j : Int) + 1) (by omega) (by omega)]
      rfl
    · refine hs.bind ?_
      rw [hpm.2]
      exact this
theorem specInv_l {p : Int} (hp : p ∈ P8) (xs : List Int) (hx : ∀ x ∈ xs, Sm x) (hl : xs.length ≤ 5) : ∀ (d i : Nat) (acc : Int), i + d = xs.length → (acc = 1 ∨ acc = -1) →
    Ev (fun k => spec_l4Invariant.l0 k xs p acc i) (outr p (xs.take i) (xs.drop i) acc) := by
  intro d
  induction d with
  | zero =>
    intro i acc hi hA
    rw [List.drop_of_length_le (by omega)]
    refine Ev.step (f := fun _ => some acc) (fun k => ?_) (Ev.now _)
    simp only [spec_l4Invariant.l0]
    rw [if_neg (by omega)]
  | succ d ih =>
    intro i acc hi hA
    rw [rd_drop (show i < xs.length by omega)]
    simp only [outr]
    rw [← take_rd (by omega)]
    have h1 := ih (i + 1) (inn p (rd xs i) (xs.take i) acc) (by omega) (inn_pm _ _ _ _ hA)
    have h2 := specInn_l hp xs hx hl i (by omega) _ i 0 acc (by omega) hA h1
    refine Ev.step (fun k => ?_) h2
    simp only [spec_l4Invariant.l0]
    rw [if_pos (by omega)]
    rfl
theorem specInv_ev {p : Int} (hp : p ∈ P8) {xs : List Int} (hx : ∀ x ∈ xs, Sm x) (hl : xs.length ≤ 5) : Ev (fun k => spec_l4Invariant.f k xs p) (inv xs p) :=
  specInv_l hp xs hx hl xs.length 0 1 (by omega) (by omega)


/-! ### forms vanish -/
theorem sm_neg {n : Int} (h : n ≠ 0 ∧ n.natAbs ≤ 24300000) : wrap64 (-n) = -n ∧ -n ≠ 0 ∧ (-n).natAbs < 2 ^ 63 := ⟨w64 (by omega) (by omega), by omega, by omega⟩
theorem implVan_ev {p : Int} (hp : p ∈ P8) {xs : List Int} (hx : ∀ x ∈ xs, Sm x) (hl : xs.length ≤ 5) : Ev (fun k => impl_vanishes.f k xs p) (van xs p) := by
  unfold impl_vanishes.f van
  have hb := prod_bd4 hx hl
  have hn := sm_neg hb
  refine (implProduct_ev hx hl).bind ?_
  by_cases c0 : p = 0
  · simp only [if_pos c0]
    refine (implLess_ev (by omega)).bind ?_
    by_cases c : less xs > 0
    · simp only [if_pos c, decide_eq_true c, Bool.true_and]; exact Ev.now _
    · simp only [if_neg c, decide_eq_false c, Bool.false_and]; exact Ev.now _
  · simp only [if_neg c0, hn.1]
    by_cases c2 : (xs.length : Int) = 2
    · simp only [if_pos c2]
      refine (implSq_ev hp hn.2.1 hn.2.2).bind ?_
      exact Ev.now _
    · simp only [if_neg c2]
      by_cases c3 : (xs.length : Int) = 3
      · simp only [if_pos c3]
        refine (implInv_ev hp hx hl).bind ((implSymbol_ev hp (by omega) hn.2.1 (by omega) hn.2.2).bind ?_)
        exact Ev.now _
      · simp only [if_neg c3]
        by_cases c4 : (xs.length : Int) = 4
        · simp only [if_pos c4]
          refine (implSq_ev hp hb.1 (by omega)).bind ?_
          by_cases c5 : sqAt (prod xs) p = true
          · simp only [c5, if_true, Bool.not_true, Bool.false_or]
            refine (implInv_ev hp hx hl).bind ((implSymbol_ev hp (by omega) (by omega) (by omega) (by omega)).bind ?_)
            exact Ev.now _
          · simp only [Bool.eq_false_iff.2 c5, Bool.false_eq_true, if_false, Bool.not_false, Bool.true_or]; exact Ev.now _
        · simp only [if_neg c4]; exact Ev.now _
/-! ### places -/
def PL : List Int := [0, 1, 4, -3, 97, 9, 2, 3, 5, 7, 11, 13]
def trial (n : Int) : Nat → Int → Bool
  | 0, _ => true
  | d + 1, x => if x * x ≤ n then (if n.tmod x = 0 then false else trial n d (x + 1)) else true
theorem implPrime_l {n : Int} (hn : n ≤ 100) : ∀ (d : Nat) (x : Int), 2 ≤ x → 12 ≤ x + d → x ≤ 100 →
    Ev (fun k => impl_prime.l0 k n x) (trial n d x && decide (n ≥ 2)) := by
  intro d
  induction d with
  | zero =>
    intro x h1 h2 h3
    have hh := sq_le (show (0 : Int) ≤ 12 by omega) (show 12 ≤ x by omega)
    refine Ev.step (f := fun _ => some (decide (n ≥ 2))) (fun k => ?_) (by simpa [trial] using Ev.now _)
    simp only [impl_prime.l0]
    rw [wmul (a := x) (b := x) (by omega) (by omega) (by omega) (by omega), if_neg (by omega)]
  | succ d ih =>
    intro x h1 h2 h3
    have hm := wmul (a := x) (b := x) (by omega) (by omega) (by omega) (by omega)
    by_cases c : x * x ≤ n
    · have hx : x ≤ 10 := by
        rcases Int.lt_or_le 10 x with h | h
        · have := sq_le (show (0 : Int) ≤ 11 by omega) (show 11 ≤ x by omega); omega
        · exact h
      by_cases c2 : n.tmod x = 0
      · refine Ev.step (f := fun _ => some false) (fun k => ?_) (by simp only [trial, if_pos c, if_pos c2, Bool.false_and]; exact Ev.now _)
        simp only [impl_prime.l0]
        rw [hm, if_pos c, if_neg (by omega), if_pos c2]
      · refine Ev.step (fun k => ?_) (by simp only [trial, if_pos c, if_neg c2]; exact ih (x + 1) (by omega) (by omega) (by omega))
        simp only [impl_prime.l0]
        rw [hm, if_pos c, if_neg (by omega), if_neg c2, w64 (x := x + 1) (by omega) (by omega)]
    · refine Ev.step (f := fun _ => some (decide (n ≥ 2))) (fun k => ?_) (by simp only [trial, if_neg c, Bool.true_and]; exact Ev.now _)
      simp only [impl_prime.l0]
      rw [hm, if_neg c]
theorem specPrime_l {n : Int} (hn : n ≤ 100) : ∀ (d : Nat) (x : Int), 2 ≤ x → 12 ≤ x + d → x ≤ 100 →
    Ev (fun k => spec_PrimeIs.l0 k n x) (trial n d x) := by
  intro d
  induction d with
  | zero =>
    intro x h1 h2 h3
    have hh := sq_le (show (0 : Int) ≤ 12 by omega) (show 12 ≤ x by omega)
    refine Ev.step (f := fun _ => some true) (fun k => ?_) (by simpa [trial] using Ev.now _)
    simp only [spec_PrimeIs.l0]
    rw [wmul (a := x) (b := x) (by omega) (by omega) (by omega) (by omega), if_neg (by omega)]
  | succ d ih =>
    intro x h1 h2 h3
    have hm := wmul (a := x) (b := x) (by omega) (by omega) (by omega) (by omega)
    by_cases c : x * x ≤ n
    · have hx : x ≤ 10 := by
        rcases Int.lt_or_le 10 x with h | h
        · have := sq_le (show (0 : Int) ≤ 11 by omega) (show 11 ≤ x by omega); omega
        · exact h
      by_cases c2 : n.tmod x = 0
      · refine Ev.step (f := fun _ => some false) (fun k => ?_) (by simp only [trial, if_pos c, if_pos c2]; exact Ev.now _)
        simp only [spec_PrimeIs.l0]
        rw [hm, if_pos c, if_neg (by omega), if_pos c2]
      · refine Ev.step (fun k => ?_) (by simp only [trial, if_pos c, if_neg c2]; exact ih (x + 1) (by omega) (by omega) (by omega))
        simp only [spec_PrimeIs.l0]
        rw [hm, if_pos c, if_neg (by omega), if_neg c2, w64 (x := x + 1) (by omega) (by omega)]
    · refine Ev.step (f := fun _ => some true) (fun k => ?_) (by simp only [trial, if_neg c]; exact Ev.now _)
      simp only [spec_PrimeIs.l0]
      rw [hm, if_neg c]
def placeOk (p : Int) : Bool := P8.contains p
theorem PL_tab : ∀ p ∈ PL, p ≤ 100 ∧ (p ≠ 0 → (trial p 10 2 && decide (p ≥ 2)) = placeOk p) := by decide +kernel
theorem placeOk_iff {p : Int} : placeOk p = true ↔ p ∈ P8 := by simp [placeOk]
theorem implPlaceValid_ev {p : Int} (h : p ∈ PL) : Ev (fun k => impl_PlaceValid.f k p) (placeOk p) := by
  have ht := PL_tab p h
  unfold impl_PlaceValid.f impl_PrimeIs.f
  by_cases c : p = 0
  · subst c; simp only [if_true]; exact Ev.now _
  · simp only [if_neg c, if_pos (show p ≤ 5000 by omega)]
    have := implPrime_l (n := p) (by omega) 10 2 (by omega) (by omega) (by omega)
    rw [ht.2 c] at this
    unfold impl_prime.f
    exact (this.bind (f := fun _ t => some t) (Ev.now _)).bind (f := fun _ t => some t) (Ev.now _)
theorem specPlaceValid_ev {p : Int} (h : p ∈ PL) : Ev (fun k => spec_PlaceValid.f k p) (placeOk p) := by
  have ht := PL_tab p h
  unfold spec_PlaceValid.f spec_PrimeIs.f
  by_cases c : p = 0
  · subst c; simp only [if_true]; exact Ev.now _
  · simp only [if_neg c, specIn_eq, Option.bind_some, decide_eq_true (show p ≤ 5000 by omega), Bool.and_true, decide_eq_true_eq]
    have := specPrime_l (n := p) (by omega) 10 2 (by omega) (by omega) (by omega)
    have h2 := ht.2 c
    by_cases c2 : 2 ≤ p
    · rw [decide_eq_true (show p ≥ 2 from c2), Bool.and_true] at h2
      rw [h2] at this
      simp only [if_pos c2]
      exact this.bind (Ev.now _)
    · rw [decide_eq_false (show ¬ p ≥ 2 from c2), Bool.and_false] at h2
      simp only [if_neg c2, ← h2, Option.bind_some]
      exact Ev.now _


/-! ### forms and places are drawn -/
theorem rd_mem' {xs : List Int} {v : Int} (h0 : 0 ≤ v) (h : v < (xs.length : Int)) : rd xs v ∈ xs := by
  have := rd_mem (xs := xs) (j := v.toNat) (by omega)
  rwa [Int.toNat_of_nonneg h0] at this
theorem prime_draw {b : List Int} (hb : BytesB b) {q : Int} (hq : 0 ≤ q) (hQ : q ≤ 1000) : ∃ v q', v ∈ PL ∧ q ≤ q' ∧ q' ≤ q + 2 ∧ Ev (fun k => spec_l91Prime.f k b q) (v, q') := by
  obtain ⟨v1, h1, g1, e1⟩ := pick_ev hb (p := q) (by omega) (by omega) (n := 24) (by omega)
  by_cases c : v1 = 0
  · obtain ⟨v2, h2, g2, e2⟩ := pick_ev hb (p := q + 1) (by omega) (by omega) (n := 6) (by omega)
    have hm := rd_mem' (xs := [0, 1, 4, (-3), 97, 9]) h2 (by simp; omega)
    refine ⟨rd [0, 1, 4, (-3), 97, 9] v2, q + 1 + 1, ?_, by omega, by omega, ?_⟩
    · simp only [List.mem_cons, List.not_mem_nil, or_false] at hm; simp only [PL, List.mem_cons, List.not_mem_nil, or_false]; omega
    · simp only [spec_l91Prime.f]
      refine e1.bind ?_
      simp only [if_pos c, Option.bind_some]
      refine e2.bind ?_
      simp only [if_pos h2, if_pos (show v2 < ((List.length [(0 : Int), 1, 4, (-3), 97, 9] : Nat) : Int) from by simp; omega)]
      exact Ev.now _
  · obtain ⟨v2, h2, g2, e2⟩ := pick_ev hb (p := q + 1) (by omega) (by omega) (n := 8) (by omega)
    have hm := rd_mem' (xs := [2, 3, 5, 7, 11, 13, 3, 2]) h2 (by simp; omega)
    refine ⟨rd [2, 3, 5, 7, 11, 13, 3, 2] v2, q + 1 + 1, ?_, by omega, by omega, ?_⟩
    · simp only [List.mem_cons, List.not_mem_nil, or_false] at hm; simp only [PL, List.mem_cons, List.not_mem_nil, or_false]; omega
    · simp only [spec_l91Prime.f]
      refine e1.bind ?_
      simp only [if_neg c, Option.bind_some]
      refine e2.bind ?_
      simp only [if_pos h2, if_pos (show v2 < ((List.length [(2 : Int), 3, 5, 7, 11, 13, 3, 2] : Nat) : Int) from by simp; omega)]
      exact Ev.now _
theorem place_draw {b : List Int} (hb : BytesB b) {q : Int} (hq : 0 ≤ q) (hQ : q ≤ 900) : ∃ v q', v ∈ PL ∧ q ≤ q' ∧ q' ≤ q + 3 ∧ Ev (fun k => spec_l91Place.f k b q) (v, q') := by
  obtain ⟨v1, h1, g1, e1⟩ := pick_ev hb (p := q) (by omega) (by omega) (n := 5) (by omega)
  by_cases c : v1 = 0
  · refine ⟨0, q + 1, by simp [PL], by omega, by omega, ?_⟩
    simp only [spec_l91Place.f]
    refine e1.bind ?_
    simp only [if_pos c]; exact Ev.now _
  · obtain ⟨v, q', hv, h2, h3, e2⟩ := prime_draw hb (q := q + 1) (by omega) (by omega)
    refine ⟨v, q', hv, by omega, by omega, ?_⟩
    simp only [spec_l91Place.f]
    refine e1.bind ?_
    simp only [if_neg c]
    exact e2.bind (Ev.now _)
def GoodF (n : Nat) (xs : List Int) : Prop := xs.length ≤ n ∧ (∀ x ∈ xs, x.natAbs ≤ 31) ∧ (formOk xs = true → ∀ x ∈ xs, x ∈ TT)
theorem form_draw_l {b : List Int} (hb : BytesB b) (n : Nat) (hn : n ≤ 5) (hn1 : 1 ≤ n) : ∀ (d j : Nat) (out : List Int) (q : Int), j + d = n → out.length = j → (∀ x ∈ out, x ∈ TT) → 0 ≤ q → q + 2 * d ≤ 900 →
    ∃ xs q', GoodF n xs ∧ q ≤ q' ∧ q' ≤ q + 2 * d + 2 ∧ Ev (fun k => spec_l91Form.l0 k out n j b q) (xs, q') := by
  intro d
  induction d with
  | zero =>
    intro j out q hj ho hT hq hQ
    obtain ⟨v1, h1, g1, e1⟩ := pick_ev hb (p := q) (by omega) (by omega) (n := 40) (by omega)
    have hsm : ∀ x ∈ out, x.natAbs ≤ 31 := fun x hx => by have := (TT_sm (hT x hx)).2; omega
    by_cases c : v1 = 0
    · obtain ⟨v2, h2, g2, e2⟩ := pick_ev hb (p := q + 1) (by omega) (by omega) (n := 2) (by omega)
      have hm := rd_mem' (xs := [0, 31]) h2 (by simp; omega)
      refine ⟨out.set 0 (rd [0, 31] v2), q + 1 + 1, ⟨by simp; omega, ?_, ?_⟩, by omega, by omega, ?_⟩
      · intro x hx
        rcases List.mem_or_eq_of_mem_set hx with h | h
        · exact hsm x h
        · subst h; simp only [List.mem_cons, List.not_mem_nil, or_false] at hm; omega
      · intro hk
        exfalso
        obtain ⟨hk, _⟩ := formOk_iff.1 hk
        have := hk (rd [0, 31] v2) (List.mem_set (by omega) _)
        unfold Sm at this
        simp only [List.mem_cons, List.not_mem_nil, or_false] at hm; omega
      · apply Ev.step
        · intro k
          simp only [spec_l91Form.l0, if_neg (show ¬ (j : Int) < (n : Int) by omega)]
          exact rfl
        · refine e1.bind ?_
          simp only [if_pos c, Option.bind_some]
          refine e2.bind ?_
          simp only [if_pos h2, if_pos (show v2 < ((List.length [(0 : Int), 31] : Nat) : Int) from by simp; omega), if_pos (show 0 < (out.length : Int) by omega)]
          exact Ev.now _
    · by_cases c1 : v1 = 1
      · refine ⟨[], q + 1, ⟨by simp, by simp, by simp⟩, by omega, by omega, ?_⟩
        apply Ev.step
        · intro k
          simp only [spec_l91Form.l0, if_neg (show ¬ (j : Int) < (n : Int) by omega)]
          exact rfl
        · refine e1.bind ?_
          simp only [if_neg c, if_pos c1]; exact Ev.now _
      · refine ⟨out, q + 1, ⟨by omega, hsm, fun _ => hT⟩, by omega, by omega, ?_⟩
        apply Ev.step
        · intro k
          simp only [spec_l91Form.l0, if_neg (show ¬ (j : Int) < (n : Int) by omega)]
          exact rfl
        · refine e1.bind ?_
          simp only [if_neg c, if_neg c1]; exact Ev.now _
  | succ d ih =>
    intro j out q hj ho hT hq hQ
    obtain ⟨v1, h1, g1, e1⟩ := pick_ev hb (p := q) (by omega) (by omega) (n := 16) (by omega)
    obtain ⟨v2, h2, g2, e2⟩ := pick_ev hb (p := q + 1) (by omega) (by omega) (n := 5) (by omega)
    have hm := rd_mem' (xs := [1, 2, 3, 5, 6, 7, 1, 10, 12, 3, 15, 4, 21, 1, 30, 8]) h1 (by simp; omega)
    have hlen : v1 < ((List.length [(1 : Int), 2, 3, 5, 6, 7, 1, 10, 12, 3, 15, 4, 21, 1, 30, 8] : Nat) : Int) := by simp; omega
    have ht : rd [1, 2, 3, 5, 6, 7, 1, 10, 12, 3, 15, 4, 21, 1, 30, 8] v1 ∈ TT ∧ -(rd [1, 2, 3, 5, 6, 7, 1, 10, 12, 3, 15, 4, 21, 1, 30, 8] v1) ∈ TT := by
      have : ∀ x ∈ ([1, 2, 3, 5, 6, 7, 1, 10, 12, 3, 15, 4, 21, 1, 30, 8] : List Int), x ∈ TT ∧ -x ∈ TT := by decide +kernel
      exact this _ hm
    generalize hx : rd [1, 2, 3, 5, 6, 7, 1, 10, 12, 3, 15, 4, 21, 1, 30, 8] v1 = x at ht
    have hs := TT_sm ht.1
    unfold Sm at hs
    by_cases c : v2 < 2
    · obtain ⟨xs, q', hg, hq1, hq2, e3⟩ := ih (j + 1) (out ++ [-x]) (q + 1 + 1) (by omega) (by simp; omega) (by intro y hy; rcases List.mem_append.1 hy with h | h; exact hT y h; rw [List.mem_singleton.1 h]; exact ht.2) (by omega) (by omega)
      refine ⟨xs, q', hg, by omega, by omega, ?_⟩
      apply Ev.step
      · intro k
        simp only [spec_l91Form.l0, if_pos (show (j : Int) < (n : Int) by omega), Option.bind_some]
        exact rfl
      · refine e1.bind ?_
        simp only [if_pos h1, if_pos hlen]
        refine e2.bind ?_
        simp only [if_pos c, if_pos (show out.length < 17592186044416 by omega), hx, w64 (x := -x) (by omega) (by omega), w64 (x := (j : Int) + 1) (by omega) (by omega)]
        exact e3
    · obtain ⟨xs, q', hg, hq1, hq2, e3⟩ := ih (j + 1) (out ++ [x]) (q + 1 + 1) (by omega) (by simp; omega) (by intro y hy; rcases List.mem_append.1 hy with h | h; exact hT y h; rw [List.mem_singleton.1 h]; exact ht.1) (by omega) (by omega)
      refine ⟨xs, q', hg, by omega, by omega, ?_⟩
      apply Ev.step
      · intro k
        simp only [spec_l91Form.l0, if_pos (show (j : Int) < (n : Int) by omega), Option.bind_some]
        exact rfl
      · refine e1.bind ?_
        simp only [if_pos h1, if_pos hlen]
        refine e2.bind ?_
        simp only [if_neg c, if_pos (show out.length < 17592186044416 by omega), hx, w64 (x := (j : Int) + 1) (by omega) (by omega)]
        exact e3
theorem form_draw {b : List Int} (hb : BytesB b) {q : Int} (hq : 0 ≤ q) (hQ : q ≤ 500) (m : Nat) (hm : m ≤ 5) (hm1 : 1 ≤ m) : ∃ xs q', GoodF m xs ∧ q ≤ q' ∧ q' ≤ q + 2 * m + 3 ∧ Ev (fun k => spec_l91Form.f k b q m) (xs, q') := by
  obtain ⟨v1, h1, g1, e1⟩ := pick_ev hb (p := q) (by omega) (by omega) (n := (m : Int)) (by omega)
  obtain ⟨n, hn⟩ : ∃ n : Nat, 1 + v1 = (n : Int) := ⟨(1 + v1).toNat, by omega⟩
  obtain ⟨xs, q', hg, h2, h3, e2⟩ := form_draw_l hb n (by omega) (by omega) n 0 [] (q + 1) (by omega) rfl (by simp) (by omega) (by omega)
  refine ⟨xs, q', ⟨by have := hg.1; omega, hg.2⟩, by omega, by omega, ?_⟩
  unfold spec_l91Form.f
  refine e1.bind ?_
  simp only [hn, w64 (x := (n : Int)) (by omega) (by omega)]
  exact e2
def placesL (n : Int) : List Int := [0, 2] ++ (primes n).filter (fun x => decide (x > 2))
theorem placesL_len {n : Int} (h : n.natAbs ≤ 24300000) : 2 ≤ (placesL n).length ∧ (placesL n).length ≤ 24300010 := by
  have := primes_len n
  have h2 := List.length_filter_le (fun x : Int => decide (x > 2)) (primes n)
  unfold placesL; rw [List.length_append]; simp only [List.length_cons, List.length_nil]; omega

/-! ### forms are joined -/
theorem implJoin_ev {xs ys : List Int} (hx : ∀ x ∈ xs, x.natAbs ≤ 31) (hy : ∀ x ∈ ys, x.natAbs ≤ 31) (hl : xs.length ≤ 5) (hl2 : ys.length ≤ 5) :
    Ev (fun k => impl_FormJoin.f k xs ys) (if formOk xs = true ∧ formOk ys = true ∧ formOk (xs ++ ys) = true then (xs ++ ys, true) else ([], false)) := by
  unfold impl_FormJoin.f
  simp only [slices_Clone_int_int.f, if_pos (show xs.length ≤ 17592186044416 by omega), Option.bind_some, if_pos (show xs.length + ys.length < 17592186044416 by omega)]
  refine (implFormValid_ev (xs := xs) (fun x h => by have := hx x h; omega) (by omega)).bind ?_
  by_cases c1 : formOk xs = true
  · simp only [c1, if_true, true_and]
    refine (implFormValid_ev (xs := ys) (fun x h => by have := hy x h; omega) (by omega)).bind ?_
    by_cases c2 : formOk ys = true
    · simp only [c2, if_true, true_and]
      refine (implFormValid_ev (xs := xs ++ ys) (fun x h => by rcases List.mem_append.1 h with h | h; have := hx x h; omega; have := hy x h; omega) (by rw [List.length_append]; omega)).bind ?_
      by_cases c3 : formOk (xs ++ ys) = true
      · simp only [if_pos c3]; exact Ev.now _
      · simp only [if_neg c3]; exact Ev.now _
    · simp only [c2, Bool.false_eq_true, if_false, false_and]; exact Ev.now _
  · simp only [c1, Bool.false_eq_true, if_false, false_and]; exact Ev.now _
theorem implFormVanishes_ev {xs : List Int} {p : Int} (hx : ∀ x ∈ xs, x.natAbs ≤ 31) (hl : xs.length ≤ 5) (hp : p ∈ PL) :
    Ev (fun k => impl_FormVanishes.f k xs p) (formOk xs && (placeOk p && van xs p)) := by
  unfold impl_FormVanishes.f
  refine (implFormValid_ev (xs := xs) (fun x h => by have := hx x h; omega) (by omega)).bind ?_
  by_cases c1 : formOk xs = true
  · simp only [c1, if_true, Bool.true_and]
    refine (implPlaceValid_ev hp).bind ?_
    by_cases c2 : placeOk p = true
    · have hk := formOk_iff.1 c1
      simp only [c2, if_true, Bool.true_and]
      exact (implVan_ev (placeOk_iff.1 c2) hk.1 (by omega)).bind (f := fun _ t => some t) (Ev.now _)
    · simp only [c2, Bool.false_eq_true, if_false, Bool.false_and]; exact Ev.now _
  · simp only [c1, Bool.false_eq_true, if_false, Bool.false_and]; exact Ev.now _

/-! ### numbers that a form represents -/
theorem implRep_ev {xs : List Int} {t p : Int} (hp : p ∈ P8) (hx : ∀ x ∈ xs, Sm x) (hl : xs.length ≤ 4) (ht : Sm t) : Ev (fun k => impl_represents.f k xs t p) (rep xs t p) := by
  have h2 := ht.2
  have key : van (xs ++ [-t]) p = rep xs t p ∨ ((xs.length : Int) = 4 ∧ p ≠ 0) := by
    by_cases c : (xs.length : Int) = 4 ∧ p ≠ 0
    · exact Or.inr c
    · exact Or.inl (by unfold rep; rw [if_neg c])
  have go : Ev (fun k => impl_represents.j0 k xs t p false) (van (xs ++ [-t]) p) := by
    apply Ev.step
    · intro k
      simp only [impl_represents.j0, Bool.false_eq_true, if_false, slices_Clone_int_int.f, if_pos (show xs.length ≤ 17592186044416 by omega), Option.bind_some, if_pos (show xs.length < 17592186044416 by omega), w64 (x := -t) (by omega) (by omega)]
      exact rfl
    · exact (implVan_ev hp (sm_app hx (sm_opp ht)) (by simp; omega)).bind (f := fun _ t => some t) (Ev.now _)
  unfold impl_represents.f
  by_cases c4 : (xs.length : Int) = 4
  · simp only [if_pos c4]
    by_cases c0 : p = 0
    · rcases key with h | h
      · rw [← h]; subst c0; exact go
      · exact absurd c0 h.2
    · have e : rep xs t p = true := by unfold rep; rw [if_pos ⟨c4, c0⟩]
      rw [e]
      refine Ev.step (f := fun _ => some true) (fun k => ?_) (Ev.now _)
      simp [impl_represents.j0, c0]
  · simp only [if_neg c4]
    rcases key with h | h
    · rw [← h]; exact go
    · exact absurd h.1 c4
theorem implValueOk_eq (t : Int) : impl_valueOk.f t = some (tOk t) := by
  unfold impl_valueOk.f tOk
  by_cases c : t = 0
  · simp [c]
  · rw [if_neg c]
    by_cases c2 : t ≥ -30
    · rw [if_pos c2, decide_eq_true c, Bool.true_and]; congr 1; exact decide_eq_decide.2 (by omega)
    · rw [if_neg c2, decide_eq_false (show ¬ t.natAbs ≤ 30 by omega), Bool.and_false]
theorem implValueAt_ev {xs : List Int} {t p : Int} (hx : ∀ x ∈ xs, x.natAbs ≤ 31) (hl : xs.length ≤ 5) (hp : p ∈ PL) :
    Ev (fun k => impl_ValueAt.f k xs t p) (formOk xs && (tOk t && (placeOk p && rep xs t p))) := by
  unfold impl_ValueAt.f
  refine (implFormValid_ev (xs := xs) (fun x h => by have := hx x h; omega) (by omega)).bind ?_
  by_cases c1 : formOk xs = true
  · simp only [c1, if_true, Bool.true_and, implValueOk_eq, Option.bind_some]
    by_cases c3 : tOk t = true
    · simp only [c3, if_true, Bool.true_and]
      refine (implPlaceValid_ev hp).bind ?_
      by_cases c2 : placeOk p = true
      · have hk := formOk_iff.1 c1
        simp only [c2, if_true, Bool.true_and]
        exact (implRep_ev (placeOk_iff.1 c2) hk.1 hk.2.2 (tOk_iff.1 c3)).bind (f := fun _ t => some t) (Ev.now _)
      · simp only [c2, Bool.false_eq_true, if_false, Bool.false_and]; exact Ev.now _
    · simp only [c3, Bool.false_eq_true, if_false, Bool.false_and]; exact Ev.now _
  · simp only [c1, Bool.false_eq_true, if_false, Bool.false_and]; exact Ev.now _

/-! ### forms that are alike are drawn -/
theorem l1Core_in (p : Int) (hp : 2 ≤ p) (hP : p ≤ 1001) : ∀ (d : Nat) (n r : Int), n ≠ 0 → n.natAbs < 2 ^ d → n.natAbs ≤ 1000000 →
    ∃ n' r', n' ≠ 0 ∧ n'.natAbs ≤ n.natAbs ∧ ∀ v, Ev (fun k => spec_l1Core.l0 k n' r' (p + 1)) v → Ev (fun k => spec_l1Core.l1 k n r p) v := by
  have hpp := wmul (a := p) (b := p) (by omega) (by omega) (by omega) (by omega)
  have h4 : 4 ≤ p * p := by have := sq_le (show (0 : Int) ≤ 2 by omega) hp; omega
  intro d
  induction d with
  | zero => intro n r hn h; simp at h; omega
  | succ d ih =>
    intro n r hn h hN
    by_cases c : n.tmod (p * p) = 0
    · have ht := tdiv_abs (show 2 ≤ p * p by omega) hn c
      obtain ⟨n', r', h1, h2, h3⟩ := ih (n.tdiv (p * p)) (wrap64 (r * p)) ht.1 (by rw [Nat.pow_succ] at h; omega) (by omega)
      refine ⟨n', r', h1, by omega, fun v hv => Ev.step (fun k => ?_) (h3 v hv)⟩
      simp only [spec_l1Core.l1]
      rw [hpp, if_neg (by omega), if_pos c, w64 (x := n.tdiv (p * p)) (by omega) (by omega)]
    · refine ⟨n, r, hn, Nat.le_refl _, fun v hv => Ev.step (fun k => ?_) hv⟩
      simp only [spec_l1Core.l1]
      rw [hpp, if_neg (by omega), if_neg c, w64 (x := p + 1) (by omega) (by omega)]
theorem l1Core_l : ∀ (d : Nat) (p n r : Int), n ≠ 0 → n.natAbs ≤ 1000000 → 2 ≤ p → p ≤ 1002 → 1002 ≤ p + d →
    ∃ n' r', n' ≠ 0 ∧ n'.natAbs ≤ n.natAbs ∧ Ev (fun k => spec_l1Core.l0 k n r p) (n', r') := by
  intro d
  induction d with
  | zero =>
    intro p n r hn hN h2 hP hd
    have hpp := wmul (a := p) (b := p) (by omega) (by omega) (by omega) (by omega)
    have h4 := sq_le (show (0 : Int) ≤ 1002 by omega) (show 1002 ≤ p by omega)
    refine ⟨n, r, hn, Nat.le_refl _, Ev.step (f := fun _ => some (n, r)) (fun k => ?_) (Ev.now _)⟩
    simp only [spec_l1Core.l0, spec_l1Size.f, Option.bind_some]
    rw [hpp, size_ev (by omega) (by omega), if_neg (by unfold absI; omega)]
  | succ d ih =>
    intro p n r hn hN h2 hP hd
    have hpp := wmul (a := p) (b := p) (by omega) (by omega) (by omega) (by omega)
    by_cases c : p * p ≤ absI n
    · have hp1 : p ≤ 1001 := by
        rcases Int.lt_or_le p 1002 with h | h
        · omega
        · have h4 := sq_le (show (0 : Int) ≤ 1002 by omega) h; unfold absI at c; omega
      obtain ⟨n', r', h1, h3, h4⟩ := l1Core_in p h2 hp1 20 n r hn (by omega) hN
      obtain ⟨n2, r2, g1, g2, g3⟩ := ih (p + 1) n' r' h1 (by omega) (by omega) (by omega) (by omega)
      refine ⟨n2, r2, g1, by omega, Ev.step (fun k => ?_) (h4 _ g3)⟩
      simp only [spec_l1Core.l0, spec_l1Size.f, Option.bind_some]
      rw [hpp, size_ev (by omega) (by omega), if_pos c]
    · refine ⟨n, r, hn, Nat.le_refl _, Ev.step (f := fun _ => some (n, r)) (fun k => ?_) (Ev.now _)⟩
      simp only [spec_l1Core.l0, spec_l1Size.f, Option.bind_some]
      rw [hpp, size_ev (by omega) (by omega), if_neg c]
theorem l1Core_ev {n : Int} (hn : n ≠ 0) (hN : n.natAbs ≤ 1000000) : ∃ n' r', n' ≠ 0 ∧ n'.natAbs ≤ n.natAbs ∧ Ev (fun k => spec_l1Core.f k n) (n', r') :=
  l1Core_l 1000 2 n 1 hn hN (by omega) (by omega) (by omega)
theorem sm_set {xs : List Int} {i : Nat} {x : Int} (hx : ∀ y ∈ xs, Sm y) (h : Sm x) : ∀ y ∈ xs.set i x, Sm y := by
  intro y hy
  rcases List.mem_or_eq_of_mem_set hy with h1 | h1
  · exact hx y h1
  · rw [h1]; exact h
theorem same_j0 {b : List Int} {q : Int} {xs : List Int} (hx : ∀ y ∈ xs, Sm y) (hl : xs.length ≤ 4) {i : Int} (h0 : 0 ≤ i) (h1 : i + 1 < (xs.length : Int)) {u w t : Int} (hu : Sm u) (hw : Sm w) (ht : t.natAbs ≤ 150) (flag : Bool) (hf : flag = true → t ≠ 0) :
    ∃ ys, (∀ y ∈ ys, Sm y) ∧ ys.length = xs.length ∧ Ev (fun k => spec_l91Same.j0 k xs i u w t flag b q) (ys, q) := by
  have e1 : wrap64 (i + 1) = i + 1 := w64 (by omega) (by omega)
  have swap : ∃ ys, (∀ y ∈ ys, Sm y) ∧ ys.length = xs.length ∧ (if 0 ≤ i then (if i < (xs.length : Int) then (if 0 ≤ i + 1 then (if i + 1 < (xs.length : Int) then (some (((xs.set (i : Int).toNat w).set (i + 1).toNat u), q)) else none) else none) else none) else none) = some (ys, q) :=
    ⟨(xs.set (i : Int).toNat w).set (i + 1).toNat u, sm_set (sm_set hx hw) hu, by simp, by rw [if_pos h0, if_pos (by omega), if_pos (by omega), if_pos h1]⟩
  obtain ⟨ys, hy1, hy2, hy3⟩ := swap
  cases flag with
  | false =>
    refine ⟨ys, hy1, hy2, Ev.step (f := fun _ => some (ys, q)) (fun k => ?_) (Ev.now _)⟩
    simp only [spec_l91Same.j0, Bool.false_eq_true, if_false, e1]
    exact hy3
  | true =>
    have htn := hf rfl
    have hm := mul_sm (mul_sm hu hw) (show t ≠ 0 ∧ t.natAbs ≤ 150 from ⟨htn, ht⟩)
    have hm2 := mul_sm hu hw
    obtain ⟨c, r1, c1, c2, c3⟩ := l1Core_ev htn (by omega)
    obtain ⟨d, r2, d1, d2, d3⟩ := l1Core_ev hm.1 (by omega)
    have start : ∀ v, Ev (fun k => (spec_l1Size.f c).bind fun t201 => (if t201 ≤ 30 then ((spec_l1Size.f d).bind fun t202 => (if t202 ≤ 30 then (if 0 ≤ i then (if i < (xs.length : Int) then (if 0 ≤ i + 1 then (if i + 1 < (xs.length : Int) then (some (((xs.set (i : Int).toNat c).set (i + 1).toNat d), q)) else none) else none) else none) else none) else some (ys, q))) else some (ys, q))) v →
        Ev (fun k => spec_l91Same.j0 k xs i u w t true b q) v := by
      intro v hv
      apply Ev.step
      · intro k
        simp only [spec_l91Same.j0, if_true, e1, hy3, w64 (x := u * w) (by omega) (by omega), w64 (x := u * w * t) (by omega) (by omega)]
        exact rfl
      · exact c3.bind (d3.bind hv)
    simp only [spec_l1Size.f, Option.bind_some, size_ev (n := c) (by omega) (by omega), size_ev (n := d) (by omega) (by omega)] at start
    by_cases k1 : absI c ≤ 30
    · by_cases k2 : absI d ≤ 30
      · refine ⟨(xs.set (i : Int).toNat c).set (i + 1).toNat d, sm_set (sm_set hx ⟨c1, by unfold absI at k1; omega⟩) ⟨d1, by unfold absI at k2; omega⟩, by simp, start _ ?_⟩
        simp only [if_pos k1, if_pos k2, if_pos h0, if_pos (show i < (xs.length : Int) by omega), if_pos (show 0 ≤ i + 1 by omega), if_pos h1]
        exact Ev.now _
      · refine ⟨ys, hy1, hy2, start _ ?_⟩
        simp only [if_pos k1, if_neg k2]; exact Ev.now _
    · refine ⟨ys, hy1, hy2, start _ ?_⟩
      simp only [if_neg k1]; exact Ev.now _
theorem same_draw {b : List Int} (hb : BytesB b) {q : Int} (hq : 0 ≤ q) (hQ : q ≤ 900) {xs : List Int} (hx : ∀ y ∈ xs, Sm y) (hl : xs.length ≤ 4) :
    ∃ ys q', (∀ y ∈ ys, Sm y) ∧ ys.length = xs.length ∧ q ≤ q' ∧ q' ≤ q + 4 ∧ Ev (fun k => spec_l91Same.f k b q xs) (ys, q') := by
  by_cases c : (xs.length : Int) < 2
  · refine ⟨xs, q, hx, rfl, by omega, by omega, ?_⟩
    simp only [spec_l91Same.f, Option.bind_some, List.length_nil, List.nil_append, if_pos (show 0 + xs.length < 17592186044416 by omega), if_pos c]
    exact Ev.now _
  · obtain ⟨v1, h1, g1, e1⟩ := pick_ev hb (p := q) (by omega) (by omega) (n := (xs.length : Int) - 1) (by omega)
    obtain ⟨v2, h2, g2, e2⟩ := pick_ev hb (p := q + 1) (by omega) (by omega) (n := 2) (by omega)
    obtain ⟨v3, h3, g3, e3⟩ := pick_ev hb (p := q + 1 + 1) (by omega) (by omega) (n := 2) (by omega)
    obtain ⟨v4, h4, g4, e4⟩ := pick_ev hb (p := q + 1 + 1 + 1) (by omega) (by omega) (n := 3) (by omega)
    have hu := hx _ (rd_mem' (xs := xs) (v := v1) h1 (by omega))
    have hw := hx _ (rd_mem' (xs := xs) (v := v1 + 1) (by omega) (by omega))
    generalize hU : rd xs v1 = u at hu
    generalize hW : rd xs (v1 + 1) = w at hw
    have hu2 := hu.2
    have hw2 := hw.2
    -- the number t
    have ht : ∃ t : Int, t.natAbs ≤ 150 ∧ wrap64 (wrap64 (wrap64 (u * v2) * v2) + wrap64 (wrap64 (w * wrap64 (1 + v3)) * wrap64 (1 + v3))) = t := by
      have c2 : v2 = 0 ∨ v2 = 1 := by omega
      have c3 : v3 = 0 ∨ v3 = 1 := by omega
      rcases c2 with rfl | rfl <;> rcases c3 with rfl | rfl
      · refine ⟨w, by omega, ?_⟩
        rw [w64 (x := (1 : Int) + 0) (by omega) (by omega), w64 (x := w * (1 + 0)) (by omega) (by omega)]; unfold wrap64; omega
      · refine ⟨4 * w, by omega, ?_⟩
        rw [w64 (x := (1 : Int) + 1) (by omega) (by omega), w64 (x := w * (1 + 1)) (by omega) (by omega)]; unfold wrap64; omega
      · refine ⟨u + w, by omega, ?_⟩
        rw [w64 (x := (1 : Int) + 0) (by omega) (by omega), w64 (x := w * (1 + 0)) (by omega) (by omega)]; unfold wrap64; omega
      · refine ⟨u + 4 * w, by omega, ?_⟩
        rw [w64 (x := (1 : Int) + 1) (by omega) (by omega), w64 (x := w * (1 + 1)) (by omega) (by omega)]; unfold wrap64; omega
    obtain ⟨t, ht1, ht2⟩ := ht
    have start : ∀ v, Ev (fun k => if t = 0 then (spec_l91Same.j0 k xs v1 u w t false b (q + 1 + 1 + 1)) else ((spec_l6Rd_pick.f k b (q + 1 + 1 + 1) 3).bind fun bt195 => (spec_l91Same.j0 k xs v1 u w t (decide (bt195.1 > 0)) b bt195.2))) v → Ev (fun k => spec_l91Same.f k b q xs) v := by
      intro v hv
      simp only [spec_l91Same.f, Option.bind_some, List.length_nil, List.nil_append, if_pos (show 0 + xs.length < 17592186044416 by omega), if_neg c, w64 (x := (xs.length : Int) - 1) (by omega) (by omega)]
      refine e1.bind ?_
      simp only [if_pos h1, if_pos (show v1 < (xs.length : Int) by omega), w64 (x := v1 + 1) (by omega) (by omega), if_pos (show 0 ≤ v1 + 1 by omega), if_pos (show v1 + 1 < (xs.length : Int) by omega)]
      refine e2.bind (e3.bind ?_)
      simp only [hU, hW, ht2]
      exact hv
    by_cases c0 : t = 0
    · obtain ⟨ys, y1, y2, y3⟩ := same_j0 (b := b) (q := q + 1 + 1 + 1) hx hl h1 (by omega) hu hw ht1 false (by simp)
      refine ⟨ys, q + 1 + 1 + 1, y1, y2, by omega, by omega, start _ ?_⟩
      simp only [if_pos c0]; exact y3
    · obtain ⟨ys, y1, y2, y3⟩ := same_j0 (b := b) (q := q + 1 + 1 + 1 + 1) hx hl h1 (by omega) hu hw ht1 (decide (v4 > 0)) (fun _ => c0)
      refine ⟨ys, q + 1 + 1 + 1 + 1, y1, y2, by omega, by omega, start _ ?_⟩
      simp only [if_neg c0]
      exact e4.bind y3
theorem two_draw {b : List Int} (hb : BytesB b) {q : Int} (hq : 0 ≤ q) (hQ : q ≤ 100) :
    ∃ xs ys q', xs.length ≤ 4 ∧ (∀ x ∈ xs, x.natAbs ≤ 31) ∧ ys.length ≤ 4 ∧ (∀ x ∈ ys, x.natAbs ≤ 31) ∧ q ≤ q' ∧ q' ≤ q + 50 ∧ Ev (fun k => spec_l91Two.f k b q) (xs, ys, q') := by
  obtain ⟨xs, q1, hg, h1, h2, e1⟩ := form_draw hb (q := q) hq (by omega) 4 (by omega) (by omega)
  obtain ⟨v, h3, g3, e3⟩ := pick_ev hb (p := q1) (by omega) (by omega) (n := 3) (by omega)
  have other : ∃ ys q', ys.length ≤ 4 ∧ (∀ x ∈ ys, x.natAbs ≤ 31) ∧ q ≤ q' ∧ q' ≤ q + 50 ∧ Ev (fun k => spec_l91Two.j0 k xs false b (q1 + 1)) (xs, ys, q') := by
    obtain ⟨ys, q2, hg2, h4, h5, e4⟩ := form_draw hb (q := q1 + 1) (by omega) (by omega) 4 (by omega) (by omega)
    refine ⟨ys, q2, hg2.1, hg2.2.1, by omega, by omega, ?_⟩
    apply Ev.step
    · intro k; simp only [spec_l91Two.j0, Bool.false_eq_true, if_false]; exact rfl
    · exact e4.bind (Ev.now _)
  obtain ⟨zs, q3, z1, z2, z3, z4, z5⟩ := other
  by_cases c : v > 0
  · by_cases c1 : formOk xs = true
    · have hk := formOk_iff.1 c1
      obtain ⟨ys, q4, a1, a2, a3, a4, a5⟩ := same_draw hb (q := q1 + 1) (by omega) (by omega) hk.1 hk.2.2
      obtain ⟨ws, q5, b1, b2, b3, b4, b5⟩ := same_draw hb (q := q4) (by omega) (by omega) a1 (by omega)
      refine ⟨xs, ws, q5, hg.1, hg.2.1, by omega, fun x hx => by have := (b1 x hx).2; omega, by omega, by omega, ?_⟩
      unfold spec_l91Two.f
      refine e1.bind (e3.bind ?_)
      simp only [if_pos c]
      refine (specFormValid_ev (xs := xs) (by have := hg.1; omega)).bind ?_
      rw [c1]
      apply Ev.step
      · intro k; simp only [spec_l91Two.j0, if_true]; exact rfl
      · exact a5.bind (b5.bind (Ev.now _))
    · refine ⟨xs, zs, q3, hg.1, hg.2.1, z1, z2, z3, z4, ?_⟩
      unfold spec_l91Two.f
      refine e1.bind (e3.bind ?_)
      simp only [if_pos c]
      refine (specFormValid_ev (xs := xs) (by have := hg.1; omega)).bind ?_
      rw [Bool.eq_false_iff.2 c1]; exact z5
  · refine ⟨xs, zs, q3, hg.1, hg.2.1, z1, z2, z3, z4, ?_⟩
    unfold spec_l91Two.f
    refine e1.bind (e3.bind ?_)
    simp only [if_neg c]; exact z5


theorem implAlike_ev {xs ys : List Int} {p : Int} (hp : p ∈ P8) (hx : ∀ x ∈ xs, Sm x) (hy : ∀ x ∈ ys, Sm x) (h1 : xs.length ≤ 5) (h2 : ys.length ≤ 5) : Ev (fun k => impl_alike.f k xs ys p) (alk xs ys p) := by
  have m := pp_sm hx hy h1 h2
  unfold impl_alike.f alk
  by_cases c0 : p = 0
  · simp only [if_pos c0]
    exact (implLess_ev (by omega)).bind ((implLess_ev (by omega)).bind (Ev.now _))
  · simp only [if_neg c0]
    refine (implProduct_ev hx h1).bind ((implProduct_ev hy h2).bind ?_)
    rw [w64 (x := prod xs * prod ys) (by omega) (by omega)]
    refine (implSq_ev hp m.1 m.2).bind ?_
    by_cases c : sqAt (prod xs * prod ys) p = true
    · simp only [c, if_true, Bool.true_and]
      exact (implInv_ev hp hx h1).bind ((implInv_ev hp hy h2).bind (Ev.now _))
    · simp only [c, Bool.false_eq_true, if_false, Bool.false_and]; exact Ev.now _
theorem specAlike_ev {xs ys : List Int} {p : Int} (hp : p ∈ P8) (hx : ∀ x ∈ xs, Sm x) (hy : ∀ x ∈ ys, Sm x) (h1 : xs.length ≤ 5) (h2 : ys.length ≤ 5) : Ev (fun k => spec_l4Alike.f k xs ys p) (alk xs ys p) := by
  have m := pp_sm hx hy h1 h2
  unfold spec_l4Alike.f alk
  by_cases c0 : p = 0
  · simp only [if_pos c0]
    exact (specLess_ev (by omega)).bind ((specLess_ev (by omega)).bind (Ev.now _))
  · simp only [if_neg c0]
    refine (specProduct_ev hx h1).bind ((specProduct_ev hy h2).bind ?_)
    rw [w64 (x := prod xs * prod ys) (by omega) (by omega)]
    refine (specSq_ev hp m.1 m.2).bind ?_
    by_cases c : sqAt (prod xs * prod ys) p = true
    · simp only [c, if_true, Bool.true_and]
      exact (specInv_ev hp hx h1).bind ((specInv_ev hp hy h2).bind (Ev.now _))
    · simp only [c, Bool.false_eq_true, if_false, Bool.false_and]; exact Ev.now _
def alkF (xs ys : List Int) (p : Int) : Bool := formOk xs && (formOk ys && (((xs.length : Int) == (ys.length : Int)) && (placeOk p && alk xs ys p)))
theorem implFormAlike_ev {xs ys : List Int} {p : Int} (hx : ∀ x ∈ xs, x.natAbs ≤ 31) (hy : ∀ x ∈ ys, x.natAbs ≤ 31) (h1 : xs.length ≤ 5) (h2 : ys.length ≤ 5) (hp : p ∈ PL) : Ev (fun k => impl_FormAlike.f k xs ys p) (alkF xs ys p) := by
  unfold impl_FormAlike.f alkF
  refine (implFormValid_ev (xs := xs) (fun x h => by have := hx x h; omega) (by omega)).bind ?_
  by_cases c1 : formOk xs = true
  · simp only [c1, if_true, Bool.true_and]
    refine (implFormValid_ev (xs := ys) (fun x h => by have := hy x h; omega) (by omega)).bind ?_
    by_cases c2 : formOk ys = true
    · simp only [c2, if_true, Bool.true_and]
      by_cases c3 : (xs.length : Int) = (ys.length : Int)
      · simp only [if_pos c3, beq_iff_eq.2 c3, Bool.true_and]
        refine (implPlaceValid_ev hp).bind ?_
        by_cases c4 : placeOk p = true
        · simp only [c4, if_true, Bool.true_and]
          exact (implAlike_ev (placeOk_iff.1 c4) (formOk_iff.1 c1).1 (formOk_iff.1 c2).1 h1 h2).bind (f := fun _ t => some t) (Ev.now _)
        · simp only [c4, Bool.false_eq_true, if_false, Bool.false_and]; exact Ev.now _
      · simp only [if_neg c3, show ((xs.length : Int) == (ys.length : Int)) = false from by simpa using c3, Bool.false_and]; exact Ev.now _
    · simp only [c2, Bool.false_eq_true, if_false, Bool.false_and]; exact Ev.now _
  · simp only [c1, Bool.false_eq_true, if_false, Bool.false_and]; exact Ev.now _
theorem specFormAlike_ev {xs ys : List Int} {p : Int} (h1 : xs.length ≤ 5) (h2 : ys.length ≤ 5) (hp : p ∈ PL) : Ev (fun k => spec_FormAlike.f k xs ys p) (alkF xs ys p) := by
  unfold spec_FormAlike.f alkF
  have hb : Ev (fun k => spec_l4Both.f k xs ys) (formOk xs && (formOk ys && ((xs.length : Int) == (ys.length : Int)))) := by
    unfold spec_l4Both.f
    refine (specFormValid_ev (xs := xs) (by omega)).bind ?_
    by_cases c1 : formOk xs = true
    · simp only [c1, if_true, Bool.true_and]
      refine (specFormValid_ev (xs := ys) (by omega)).bind ?_
      by_cases c2 : formOk ys = true
      · simp only [c2, if_true, Bool.true_and]; exact Ev.now _
      · simp only [c2, Bool.false_eq_true, if_false, Bool.false_and]; exact Ev.now _
    · simp only [c1, Bool.false_eq_true, if_false, Bool.false_and]; exact Ev.now _
  refine hb.bind ?_
  by_cases c : (formOk xs && (formOk ys && ((xs.length : Int) == (ys.length : Int)))) = true
  · simp only [if_pos c]
    simp only [Bool.and_eq_true] at c
    obtain ⟨c1, c2, c3⟩ := c
    simp only [c1, c2, c3, Bool.true_and]
    refine (specPlaceValid_ev hp).bind ?_
    by_cases c4 : placeOk p = true
    · simp only [c4, if_true, Bool.true_and]
      exact (specAlike_ev (placeOk_iff.1 c4) (formOk_iff.1 c1).1 (formOk_iff.1 c2).1 h1 h2).bind (f := fun _ t => some t) (Ev.now _)
    · simp only [c4, Bool.false_eq_true, if_false, Bool.false_and]; exact Ev.now _
  · have e : (formOk xs && (formOk ys && (((xs.length : Int) == (ys.length : Int)) && (placeOk p && alk xs ys p)))) = false := by
      rw [← Bool.and_assoc, ← Bool.and_assoc, Bool.and_assoc (formOk xs), Bool.eq_false_iff.2 c, Bool.false_and]
    simp only [if_neg c, e]; exact Ev.now _
theorem alikeDraw_ev {l : List Int} (h : ∀ x ∈ l, (Lit.int .u8 x).wf = true) : ∃ xs ys p, xs.length ≤ 4 ∧ (∀ x ∈ xs, x.natAbs ≤ 31) ∧ ys.length ≤ 4 ∧ (∀ x ∈ ys, x.natAbs ≤ 31) ∧ p ∈ PL ∧ Ev (fun k => spec_DrawFormAlike.f k l) (xs, ys, p) := by
  obtain ⟨b, hb, ho⟩ := open_ev h
  obtain ⟨xs, ys, q, h1, h2, h3, h4, h5, h6, e1⟩ := two_draw hb (q := 0) (by omega) (by omega)
  obtain ⟨v, q', hv, h7, h8, e2⟩ := place_draw hb (q := q) (by omega) (by omega)
  refine ⟨xs, ys, v, h1, h2, h3, h4, hv, ?_⟩
  simp only [spec_DrawFormAlike.f, ho, Option.bind_some]
  exact e1.bind (e2.bind (Ev.now _))
theorem holds : laws_FnAlike.Pure := by
  intro l0 l1 _ _ hw _ _ _
  refine Ev.rounds ?_
  have stop : Ev (fun k => laws_FnAlike.j0 k l0 l1 true) true := Ev.step (f := fun _ => some true) (fun k => by simp [laws_FnAlike.j0]) (Ev.now _)
  unfold laws_FnAlike.f
  by_cases big : (l0.length : Int) > 1048576
  · simp only [if_pos big]; exact stop
  by_cases big1 : (l1.length : Int) > 1048576
  · simp only [if_neg big, decide_eq_true big1]; exact stop
  obtain ⟨xs, ys, p, hl, h31, hl2, h312, hp, hd⟩ := alikeDraw_ev hw
  simp only [if_neg big, decide_eq_false big1]
  apply Ev.step
  · intro k
    simp only [laws_FnAlike.j0, Bool.false_eq_true, if_false]
    exact rfl
  refine hd.bind ((implFormAlike_ev h31 h312 (by omega) (by omega) hp).bind ((specFormAlike_ev (xs := xs) (ys := ys) (by omega) (by omega) hp).bind ?_))
  simp only [bne_self_eq_false, Bool.false_eq_true, if_false]
  by_cases c : alkF xs ys p = true
  · simp only [c, Bool.not_true]
    have hc := c
    unfold alkF at hc
    simp only [Bool.and_eq_true, beq_iff_eq] at hc
    obtain ⟨c1, c2, c3, c4, c5⟩ := hc
    have hk := formOk_iff.1 c1
    have hk2 := formOk_iff.1 c2
    have h8 := placeOk_iff.1 c4
    have hlen : xs.length = ys.length := by omega
    have hs1 := Int.emod_nonneg (l1.length : Int) (show (15 : Int) ≠ 0 by omega)
    have hs2 := Int.emod_lt_of_pos (l1.length : Int) (show (0 : Int) < 15 by omega)
    generalize hss : (l1.length : Int) % 15 = s at hs1 hs2
    have hS : Sm (1 + s) := by unfold Sm; omega
    have hS31 : ∀ x ∈ [1 + s], x.natAbs ≤ 31 := by intro x h; rw [List.mem_singleton.1 h]; omega
    have back : alkF ys xs p = true := by
      unfold alkF
      rw [c1, c2, c4, alk_symm c5, beq_iff_eq.2 c3.symm]; rfl
    have vanE := alk_van h8 hk.1 hk2.1 (by omega) hlen c5
    have repE := alk_rep h8 hk.1 hk2.1 hk.2.2 hlen hS c5
    have okE : formOk (xs ++ [1 + s]) = formOk (ys ++ [1 + s]) := by
      rw [Bool.eq_iff_iff, formOk_iff, formOk_iff]
      constructor
      · intro h; exact ⟨sm_app hk2.1 hS, by simp, by have := h.2.2; simp only [List.length_append] at this ⊢; omega⟩
      · intro h; exact ⟨sm_app hk.1 hS, by simp, by have := h.2.2; simp only [List.length_append] at this ⊢; omega⟩
    have okS : formOk [1 + s] = true := formOk_iff.2 ⟨by intro x h; rw [List.mem_singleton.1 h]; exact hS, by simp, by simp⟩
    have jx := implJoin_ev (ys := [1 + s]) h31 hS31 (by omega) (by simp)
    have jy := implJoin_ev (ys := [1 + s]) h312 hS31 (by omega) (by simp)
    rw [← okE] at jy
    have vx := implFormVanishes_ev h31 (by omega) hp
    have vy := implFormVanishes_ev h312 (by omega) hp
    rw [c2, ← vanE] at vy
    rw [c1] at vx
    have wx := implValueAt_ev (t := 1 + s) h31 (by omega) hp
    have wy := implValueAt_ev (t := 1 + s) h312 (by omega) hp
    rw [c2, ← repE] at wy
    rw [c1] at wx
    have tail : Ev (fun k => (impl_ValueAt.f k xs (1 + s) p).bind fun t356 => (impl_ValueAt.f k ys (1 + s) p).bind fun t357 => some (t356 == t357)) true := by
      refine wx.bind (wy.bind ?_)
      rw [beq_self_eq_true]; exact Ev.now _
    apply Ev.step
    · intro k
      simp only [laws_FnAlike.j1, Bool.false_eq_true, if_false, hss]
      exact rfl
    refine jx.bind (jy.bind ((implFormAlike_ev h312 h31 (by omega) (by omega) hp).bind ?_))
    simp only [back, if_true]
    refine vx.bind (vy.bind ?_)
    simp only [beq_self_eq_true, if_true]
    by_cases c6 : formOk (xs ++ [1 + s]) = true
    · have hk6 := formOk_iff.1 c6
      have hk7 := formOk_iff.1 (okE ▸ c6)
      have lon : alkF (xs ++ [1 + s]) (ys ++ [1 + s]) p = true := by
        unfold alkF
        rw [← okE, c6, c4, alk_app h8 hk.1 hk2.1 hk.2.2 hlen hS c5, beq_iff_eq.2 (show (((xs ++ [1 + s]).length : Nat) : Int) = (((ys ++ [1 + s]).length : Nat) : Int) by simp [hlen])]; rfl
      simp only [c1, c2, c6, okS, and_self, if_true, beq_self_eq_true]
      refine (implFormAlike_ev (xs := xs ++ [1 + s]) (ys := ys ++ [1 + s]) (fun x h => by have := (hk6.1 x h).2; omega) (fun x h => by have := (hk7.1 x h).2; omega) (by omega) (by omega) hp).bind ?_
      simp only [lon, if_true]
      exact tail
    · simp only [c6, and_false, if_false, beq_self_eq_true, if_true, Bool.false_eq_true]
      exact tail
  · simp only [Bool.eq_false_iff.2 c, Bool.not_false]
    refine Ev.step (f := fun _ => some true) (fun k => ?_) (Ev.now _)
    simp [laws_FnAlike.j1]

end Go.Proofs.Ytihadpckmcebgaa.QFnAlike
