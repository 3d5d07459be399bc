/- A function's Lean twin and its walk, written by a program of this session. -/
import Derived.Test.YtihadpckmcebgaaPFnThreeIsx0
import Derived.Test.YtihadpckmcebgaaPFnThreeIsx1
namespace Go.Proofs.Ytihadpckmcebgaa.PFnThreeIs
open Go.RowKit Go.Proofs.YtihadpckmcebgaaW.PrintWords Go.Proofs.YtihadpckmcebgaaW.PrintLast Go.Proofs.YtihadpckmcebgaaW.PrintMore
attribute [local go_sem] max2_int min2_int max_two min_two max_three min_three max_four min_four   -- for this text's walks alone
set_option linter.unusedVariables false
set_option linter.unusedSimpArgs false

/-! ### impl_squaresOf: function 69 -/
section
open Locg
theorem squareRoot_l (n : Int) (h0 : 0 ≤ n) (hn : n < 4611686018427387904) : ∀ (d : Nat) (x bit : Int) (k : Nat), 0 ≤ x → x * x ≤ n → n < (x + 2 * bit) * (x + 2 * bit) → x + 2 * bit ≤ 2147483648 → bit = 2 ^ d → d + 1 < k →
    impl_squareRoot.l0 k n x bit = some (isq n, isq n * isq n == n) := by
  intro d
  have stop : ∀ (x : Int) (k : Nat), 0 ≤ x → x * x ≤ n → n < (x + 1) * (x + 1) → 0 < k → impl_squareRoot.l0 k n x 0 = some (isq n, isq n * isq n == n) := by
    intro x k hx hl hg hk
    obtain ⟨k, rfl⟩ : ∃ m, k = m + 1 := ⟨k - 1, by omega⟩
    simp only [impl_squareRoot.l0]
    have hb : x < 2147483648 := by
      rcases Int.lt_or_le x 2147483648 with h | h
      · exact h
      · have := sq_le (by omega) h; omega
    have hm : wrap64 (x * x) = x * x := w64' (sq_nonneg x) (by omega)
    rw [if_neg (by omega), hm, isq_unique hx hl hg]
  induction d with
  | zero =>
    intro x bit k hx hl hg hB hb hk
    obtain ⟨k, rfl⟩ : ∃ m, k = m + 1 := ⟨k - 1, by omega⟩
    obtain rfl : bit = 1 := by simpa using hb
    simp only [impl_squareRoot.l0]
    have hs := sq_le (a := x + 1) (b := 2147483648) (by omega) (by omega)
    rw [if_pos (by omega), w64 (x := x + 1) (by omega) (by omega), w64' (x := (x + 1) * (x + 1)) (sq_nonneg _) (by omega)]
    have e : wrap64 (Int.tdiv 1 2) = 0 := by decide +kernel
    rw [e]
    by_cases c : (x + 1) * (x + 1) ≤ n
    · rw [if_pos c]
      exact stop _ _ (by omega) c (by rw [show x + 1 + 1 = x + 2 * 1 from by omega]; exact hg) (by omega)
    · rw [if_neg c]
      exact stop _ _ hx hl (by omega) (by omega)
  | succ d ih =>
    intro x bit k hx hl hg hB hb hk
    obtain ⟨k, rfl⟩ : ∃ m, k = m + 1 := ⟨k - 1, by omega⟩
    have hp : (0 : Int) < 2 ^ d := Int.pow_pos (by omega)
    obtain ⟨c2, hc2⟩ : ∃ c2 : Int, c2 = 2 ^ d := ⟨_, rfl⟩
    have hb2 : bit = 2 * c2 := by rw [hb, Int.pow_succ, hc2]; omega
    subst hb2
    simp only [impl_squareRoot.l0]
    have hs := sq_le (a := x + 2 * c2) (b := 2147483648) (by omega) (by omega)
    have e : wrap64 (Int.tdiv (2 * c2) 2) = c2 := by rw [tdiv2 (by omega), w64 (by omega) (by omega)]; omega
    rw [if_pos (by omega), w64 (x := x + 2 * c2) (by omega) (by omega), w64' (x := (x + 2 * c2) * (x + 2 * c2)) (sq_nonneg _) (by omega), e]
    by_cases c : (x + 2 * c2) * (x + 2 * c2) ≤ n
    · rw [if_pos c]
      exact ih _ _ _ (by omega) c (by rw [show x + 2 * c2 + 2 * c2 = x + 2 * (2 * c2) from by omega]; exact hg) (by omega) hc2 (by omega)
    · rw [if_neg c]
      exact ih _ _ _ hx hl (by omega) (by omega) hc2 (by omega)
theorem squareRoot (n : Int) (h0 : 0 ≤ n) (hn : n < 4611686018427387904) (k : Nat) (hk : 31 < k) : impl_squareRoot.f k n = some (isq n, isq n * isq n == n) := by
  unfold impl_squareRoot.f
  rw [if_neg (by omega)]
  exact squareRoot_l n h0 hn 30 0 1073741824 k (by omega) (by omega) (by omega) (by omega) (by decide) (by omega)
/-! ### the first squares with a sum: the closure and its maker -/
theorem sqInfo : (Try.prog.info? 3).map (fun i => (i.zero, i.size, i.bytes)) = some (some (.int .i64 0), 1, 8) := by kernel_rfl
def SqInv (Bm Bl Bt : Nat) (many : Int) (xs : List Int) (w : World) : Prop :=
  ∃ v, w.heap[Bl]? = some (.cells #[v] 25 (0, 0)) ∧ w.heap[Bm]? = some (.cells #[.int .i64 many] 3 (0, 0)) ∧
    w.heap[Bt]? = some (.cells #[.func (.func 121) #[] #[.pointer (some ⟨Bl, 0, none⟩), .pointer (some ⟨Bm, 0, none⟩), .pointer (some ⟨Bt, 0, none⟩)]] 57 (0, 0)) ∧
    w.ownsRow (Bm + 1) 3 1 v xs.length (nums .i64 xs)
theorem SqInv.drewN {Bm Bl Bt : Nat} {many : Int} {xs : List Int} {w : World} (h : SqInv Bm Bl Bt many xs w) (n : Nat) : SqInv Bm Bl Bt many xs (w.drewN n) := h
theorem sq_apart {w : World} {b : Nat} {v : Value} {xs : List Value} {g t : Nat} {cells : Array Value} (hown : w.ownsRow b 3 1 v xs.length xs) (hg : w.heap[g]? = some (.cells cells t (0, 0))) (ht : t ≠ 3) : v.ownBlock ≠ some g := by
  intro e
  obtain ⟨cells', hc⟩ := own_typed hown g e
  rw [hc] at hg
  injection hg with hg
  injection hg with _ hg
  exact ht hg.symm
theorem sq_push {Bm Bl Bt : Nat} {many : Int} {xs : List Int} {y : Int} {W w1 : World} {v v1 : Value} (hv : W.heap[Bl]? = some (.cells #[v] 25 (0, 0))) (hmn : W.heap[Bm]? = some (.cells #[.int .i64 many] 3 (0, 0)))
    (ht : W.heap[Bt]? = some (.cells #[.func (.func 121) #[] #[.pointer (some ⟨Bl, 0, none⟩), .pointer (some ⟨Bm, 0, none⟩), .pointer (some ⟨Bt, 0, none⟩)]] 57 (0, 0)))
    (hown : W.ownsRow (Bm + 1) 3 1 v xs.length (nums .i64 xs)) (hown1 : w1.ownsRow (Bm + 1) 3 1 v1 (xs ++ [y]).length (nums .i64 (xs ++ [y]))) (hg : W.grownBy w1 v.ownBlock) :
    SqInv Bm Bl Bt many (xs ++ [y]) (w1.setCell ⟨Bl, 0, none⟩ v1) := by
  have hl : xs.length = (nums .i64 xs).length := (nums_length _ _).symm
  have hl1 : (xs ++ [y]).length = (nums .i64 (xs ++ [y])).length := (nums_length _ _).symm
  have nl := sq_apart (by rw [← hl]; exact hown) hv (by decide)
  have nt := sq_apart (by rw [← hl]; exact hown) ht (by decide)
  have nm : v.ownBlock ≠ some Bm := fun e => by have := own_base hown Bm e; omega
  have hv' := (hg.block Bl (lt_of_block hv) (fun e => nl e.symm)).trans hv
  have hm' := (hg.block Bm (lt_of_block hmn) (fun e => nm e.symm)).trans hmn
  have ht' := (hg.block Bt (lt_of_block ht) (fun e => nt e.symm)).trans ht
  have n1 := sq_apart (by rw [← hl1]; exact hown1) hv' (by decide)
  have dm : Bm ≠ Bl := fun e => by subst e; rw [hv] at hmn; simp at hmn
  have dt : Bt ≠ Bl := fun e => by subst e; rw [hv] at ht; simp at ht
  refine ⟨v1, one_setCell hv', (Below.heap_setCell _ _ _ _ dm).trans hm', (Below.heap_setCell _ _ _ _ dt).trans ht', own_move hown1 (fun k hk => Below.heap_setCell _ _ _ _ (fun e => n1 (by rw [hk, e])))⟩
theorem sq_drop {Bm Bl Bt : Nat} {many : Int} {xs : List Int} {y : Int} {W : World} {g c : Nat} (h : SqInv Bm Bl Bt many (xs ++ [y]) W) (hv : W.heap[Bl]? = some (.cells #[.slice (some ⟨g, 0, none⟩) (xs ++ [y]).length c] 25 (0, 0))) :
    SqInv Bm Bl Bt many xs (W.setCell ⟨Bl, 0, none⟩ (.slice (some ⟨g, 0, none⟩) xs.length c)) := by
  obtain ⟨v, hv0, hmn, ht, hown⟩ := h
  obtain rfl : v = .slice (some ⟨g, 0, none⟩) (xs ++ [y]).length c := by rw [hv] at hv0; simpa using hv0.symm
  have hl1 : (xs ++ [y]).length = (nums .i64 (xs ++ [y])).length := (nums_length _ _).symm
  have n1 := sq_apart (by rw [← hl1]; exact hown) hv (by decide)
  have dm : Bm ≠ Bl := fun e => by subst e; rw [hv] at hmn; simp at hmn
  have dt : Bt ≠ Bl := fun e => by subst e; rw [hv] at ht; simp at ht
  have hgl : g ≠ Bl := fun e => n1 (by rw [e]; rfl)
  refine ⟨_, one_setCell hv, (Below.heap_setCell _ _ _ _ dm).trans hmn, (Below.heap_setCell _ _ _ _ dt).trans ht, ?_⟩
  rcases hown.2 with ⟨h', _⟩ | ⟨g', cap', cur, h', hb, hh, hnc, hcp, hcs, htake⟩
  · cases h'
  · simp only [Value.slice.injEq, Option.some.injEq, Addr.mk.injEq, and_true, true_and] at h'
    obtain ⟨rfl, rfl⟩ := h'
    refine ⟨by simp [nums], .inr ⟨g, c, cur, rfl, hb, (Below.heap_setCell _ _ _ _ hgl).trans hh, by simp at hnc; omega, hcp, hcs, ?_⟩⟩
    have := congrArg (List.take xs.length) htake
    rw [List.take_take] at this
    simpa [nums] using this
theorem sq_same {Bm Bl : Nat} {xs : List Int} {W w1 : World} {v : Value} (hv : W.heap[Bl]? = some (.cells #[v] 25 (0, 0))) (hown : W.ownsRow (Bm + 1) 3 1 v xs.length (nums .i64 xs)) (hg : W.grownBy w1 v.ownBlock) :
    w1.cell? ⟨Bl, 0, none⟩ = some v ∧ w1.frozen? ⟨Bl, 0, none⟩ = false := by
  have hl : xs.length = (nums .i64 xs).length := (nums_length _ _).symm
  have nl := sq_apart (by rw [← hl]; exact hown) hv (by decide)
  have hv' := (hg.block Bl (lt_of_block hv) (fun e => nl e.symm)).trans hv
  exact ⟨cell_of_one hv', free_of_one hv'⟩
theorem sq_root (n : Int) (h0 : 0 ≤ n) (hn : n ≤ 5000) : ∃ r, 0 ≤ r ∧ r ≤ 71 ∧ isq n = r ∧ impl_squareRoot.f 32 n = some (r, decide (r * r = n)) := by
  refine ⟨isq n, isq_nonneg n, ?_, rfl, ?_⟩
  · have := isq_bound (b := 71) h0 (by omega) (by omega); omega
  · rw [squareRoot n h0 (by omega) 32 (by omega)]
    rfl
theorem sq_hide {p : Prop} (h : p) : Hid p := Lib.hid h
set_option maxHeartbeats 1600000 in
set_option maxRecDepth 100000 in
theorem sq_base (Bm Bl Bt : Nat) (many low left : Int) (xs : List Int) (w : World) (h : SqInv Bm Bl Bt many xs w) (hm : (xs.length : Int) + 1 = many) (hM : many ≤ 4) (h0 : 0 ≤ low) (hL : low ≤ 5000) (hl0 : 0 ≤ left) (hl : left ≤ 5000) (hlt : Bm < Bl) (hlt2 : Bm < Bt) :
    Calls Try.prog 121 #[.int .i64 low, .int .i64 left, .pointer (some ⟨Bl, 0, none⟩), .pointer (some ⟨Bm, 0, none⟩), .pointer (some ⟨Bt, 0, none⟩)] w fun e w' =>
      e = .returned (.bool (sqs 0 low left).isSome) ∧ SqInv Bm Bl Bt many (xs ++ (sqs 0 low left).getD []) w' ∧ Below Bm w w' := by
  have hi := h
  obtain ⟨v, hv, hmn, ht, hown⟩ := h
  obtain ⟨A, c, rfl⟩ := own_slice hown
  have cL := cell_of_one hv
  have fL := free_of_one hv
  have cM := cell_of_one hmn
  have e1 : (((xs.length : Nat) : Int) == many - 1) = true := by rw [beq_iff_eq]; omega
  obtain ⟨r, hr0, hr1, hr, hsq⟩ := sq_root left hl0 hl
  simp only [sqs, hr]
  have HI := sq_hide hi
  have HV := sq_hide hv
  have HM := sq_hide hmn
  have HT := sq_hide ht
  have HO := sq_hide hown
  have hxl : xs.length ≤ 3 := by omega
  have hM1 : 1 ≤ many := by omega
  have hB : Bm < w.heap.size := lt_of_block hmn
  clear hi hv hmn ht hown hr hm
  by_cases c1 : r * r = left
  · rw [decide_eq_true c1] at hsq
    have HS := sq_hide hsq
    clear hsq
    by_cases c2 : low ≤ r
    · have c2b : decide (low ≤ r) = true := decide_eq_true c2
      rw [if_pos ⟨c1, c2⟩]
      clear c1
      go_enter Try.func121, Try.ntmps121
      go_wp2_with (first | (go_at_call 122; refine (impl_squareRoot.calls 32 left r true _ HS.out).mono ?_; rintro e w' ⟨rfl, ⟨n, rfl⟩⟩) | (at_builtin; go_loud (refine print_append_num (w0 := w) (Bm + 1) rfl (.tmp 27) (.tmp 29) 25 3 .i64 8 rfl Try.underlying25 sqInfo (by decide) (.slice A xs.length c) xs r rfl rfl HO.out (pw_below_drewN (Below.refl _ _) _) (by simp; omega) (by omega) ?_; intro v1 w1 hown1 hB1 hg1 hat1; clear hat1; obtain ⟨A1, k1, rfl⟩ := own_slice hown1; have HV1 := sq_hide (sq_push (hg := hg1) (hv := by exact HV.out) (hmn := by exact HM.out) (ht := by exact HT.out) (hown := by exact HO.out) (hown1 := hown1)); obtain ⟨cL1, fL1⟩ := sq_same (hg := hg1) (hv := by exact HV.out) (hown := by exact HO.out); clear hown1 hg1)))
      go_ret
      exact ⟨rfl, by simpa using HV1.out, (hB1.setCell (show Bm + 1 ≤ Bl by omega) _).mono (by omega)⟩
    · have c2b : decide (low ≤ r) = false := decide_eq_false c2
      rw [if_neg (fun h => c2 h.2)]
      clear c1
      go_enter Try.func121, Try.ntmps121
      go_wp2_with (first | (go_at_call 122; refine (impl_squareRoot.calls 32 left r true _ HS.out).mono ?_; rintro e w' ⟨rfl, ⟨n, rfl⟩⟩) | fail)
      go_ret
      exact ⟨rfl, by simpa using HI.out.drewN n, pw_below_drewN (Below.refl _ _) _⟩
  · rw [decide_eq_false c1] at hsq
    rw [if_neg (fun h => c1 h.1)]
    have HS := sq_hide hsq
    clear hsq c1
    go_enter Try.func121, Try.ntmps121
    go_wp2_with (first | (go_at_call 122; refine (impl_squareRoot.calls 32 left r false _ HS.out).mono ?_; rintro e w' ⟨rfl, ⟨n, rfl⟩⟩) | fail)
    go_ret
    exact ⟨rfl, by simpa using HI.out.drewN n, pw_below_drewN (Below.refl _ _) _⟩
def SqSays (Bm Bl Bt : Nat) (many : Int) (m : Nat) : Prop := ∀ (low left : Int) (xs : List Int) (w : World), SqInv Bm Bl Bt many xs w → (xs.length : Int) + m + 1 = many → 0 ≤ low → low ≤ 5000 → 0 ≤ left → left ≤ 5000 →
    Calls Try.prog 121 #[.int .i64 low, .int .i64 left, .pointer (some ⟨Bl, 0, none⟩), .pointer (some ⟨Bm, 0, none⟩), .pointer (some ⟨Bt, 0, none⟩)] w fun e w' =>
      e = .returned (.bool (sqs m low left).isSome) ∧ SqInv Bm Bl Bt many (xs ++ (sqs m low left).getD []) w' ∧ Below Bm w w'
def SqYes (Bm Bl Bt : Nat) (many x left : Int) (xs res : List Int) : Prop := ∀ w : World, SqInv Bm Bl Bt many (xs ++ [x]) w →
    Calls Try.prog 121 #[.int .i64 x, .int .i64 (left - x * x), .pointer (some ⟨Bl, 0, none⟩), .pointer (some ⟨Bm, 0, none⟩), .pointer (some ⟨Bt, 0, none⟩)] w fun e w' =>
      e = .returned (.bool true) ∧ SqInv Bm Bl Bt many (xs ++ x :: res) w' ∧ Below Bm w w'
def SqNo (Bm Bl Bt : Nat) (many x left : Int) (xs : List Int) : Prop := ∀ w : World, SqInv Bm Bl Bt many (xs ++ [x]) w →
    Calls Try.prog 121 #[.int .i64 x, .int .i64 (left - x * x), .pointer (some ⟨Bl, 0, none⟩), .pointer (some ⟨Bm, 0, none⟩), .pointer (some ⟨Bt, 0, none⟩)] w fun e w' =>
      e = .returned (.bool false) ∧ (∃ g c, w'.heap[Bl]? = some (.cells #[.slice (some ⟨g, 0, none⟩) (xs.length + 1) c] 25 (0, 0)) ∧ xs.length + 1 ≤ c ∧ c ≤ 9223372036854775807 ∧ SqInv Bm Bl Bt many (xs ++ [x]) w') ∧ Below Bm w w'
theorem sq_yes {Bm Bl Bt : Nat} {many : Int} {m : Nat} (IH : SqSays Bm Bl Bt many m) {x left : Int} {xs res : List Int} (hm : (xs.length : Int) + (m + 1) + 1 = many) (h0 : 0 ≤ x) (h1 : x ≤ 5000) (h2 : x * x ≤ left) (h3 : left ≤ 5000) (hs : sqs m x (left - x * x) = some res) : SqYes Bm Bl Bt many x left xs res := by
  intro w hw
  have := IH x (left - x * x) (xs ++ [x]) w hw (by simp; omega) h0 h1 (by omega) (by have := sq_nonneg x; omega)
  rw [hs] at this
  simpa using this
theorem sq_no {Bm Bl Bt : Nat} {many : Int} {m : Nat} (IH : SqSays Bm Bl Bt many m) {x left : Int} {xs : List Int} (hm : (xs.length : Int) + (m + 1) + 1 = many) (h0 : 0 ≤ x) (h1 : x ≤ 5000) (h2 : x * x ≤ left) (h3 : left ≤ 5000) (hs : sqs m x (left - x * x) = none) : SqNo Bm Bl Bt many x left xs := by
  intro w hw
  have := IH x (left - x * x) (xs ++ [x]) w hw (by simp; omega) h0 h1 (by omega) (by have := sq_nonneg x; omega)
  rw [hs] at this
  refine this.mono ?_
  rintro e w' ⟨he, hi, hb⟩
  simp only [Option.getD_none, List.append_nil] at hi
  refine ⟨by simpa using he, ?_, hb⟩
  have hi0 := hi
  obtain ⟨v, hv, _, _, hown⟩ := hi
  obtain ⟨g, c, rfl, _⟩ := hown.form (by simp)
  refine ⟨g, c, by simpa using hv, ?_, ?_, hi0⟩
  · rcases hown.2 with ⟨h', _⟩ | ⟨g', cap', cur, h', _, _, hn, hc, _⟩
    · cases h'
    · simp only [Value.slice.injEq, true_and] at h'; obtain ⟨_, rfl⟩ := h'; simpa using hn
  · rcases hown.2 with ⟨h', _⟩ | ⟨g', cap', cur, h', _, _, hn, hc, _⟩
    · cases h'
    · simp only [Value.slice.injEq, true_and] at h'; obtain ⟨_, rfl⟩ := h'; simpa [maxLen] using hc
theorem sq_cellT {Bm Bt : Nat} {xs : List Int} {W w1 : World} {v u : Value} (ht : W.heap[Bt]? = some (.cells #[u] 57 (0, 0))) (hown : W.ownsRow (Bm + 1) 3 1 v xs.length (nums .i64 xs)) (hg : W.grownBy w1 v.ownBlock) :
    w1.cell? ⟨Bt, 0, none⟩ = some u := by
  have hl : xs.length = (nums .i64 xs).length := (nums_length _ _).symm
  have nl := sq_apart (by rw [← hl]; exact hown) ht (by decide)
  exact cell_of_one ((hg.block Bt (lt_of_block ht) (fun e => nl e.symm)).trans ht)
set_option maxHeartbeats 4000000 in
set_option maxRecDepth 100000 in
theorem sq_step (Bm Bl Bt : Nat) (many : Int) (hM : many ≤ 4) (hlt : Bm < Bl) (hlt2 : Bm < Bt) (m : Nat) (IH : SqSays Bm Bl Bt many m) : SqSays Bm Bl Bt many (m + 1) := by
  intro low left xs w h hm h0 hL hl0 hl
  have hi := h
  obtain ⟨v, hv, hmn, ht, hown⟩ := h
  obtain ⟨A, c, rfl⟩ := own_slice hown
  have cL := cell_of_one hv
  have fL := free_of_one hv
  have cM := cell_of_one hmn
  have e1 : (((xs.length : Nat) : Int) == many - 1) = false := by rw [beq_eq_false_iff_ne]; omega
  have hxl : xs.length ≤ 3 := by omega
  have hM1 : 1 ≤ many := by omega
  have HI := sq_hide hi
  have HX0 : Hid (¬ Bt = Bl) := sq_hide (fun e => by subst e; rw [hv] at ht; simp at ht)
  have HE := sq_hide hm
  have HIH := sq_hide IH
  clear hi hv hmn ht hown hm IH
  go_enter Try.func121, Try.ntmps121
  go_wp2
  clear cL fL cM
  go_loopw [10] (fun x wr => ∃ xi : Int, x = .int .i64 xi ∧ low ≤ xi ∧ Hid (xi ≤ left + 1 ∨ xi = low) ∧ Hid (SqInv Bm Bl Bt many xs wr) ∧ Hid (sqs (m + 1) low left = sqFrom (fun x => sqs m x (left - x * x)) (m + 2) left (left + 2 - xi).toNat xi) ∧ Below Bm w wr) (fun x _ => (left + 2 - intOf x).toNat)
  case atStart => exact ⟨low, rfl, Int.le_refl _, sq_hide (.inr rfl), HI, sq_hide rfl, Below.refl _ _⟩
  case round =>
    obtain ⟨xi, rfl, hlx, HX, HW, HF, hB⟩ := hrel
    have hw := HW.out
    obtain ⟨v, hv, hmn, ht, hown⟩ := hw
    obtain ⟨A, c, rfl⟩ := own_slice hown
    have cL := cell_of_one hv
    have fL := free_of_one hv
    have cM := cell_of_one hmn
    have hx5 : xi ≤ 5001 := by rcases HX.out with h | h <;> omega
    have hs := sq_nonneg xi
    have hS := sq_le (show 0 ≤ xi by omega) hx5
    have em : many - (xs.length : Int) = m + 2 := by have := HE.out; omega
    have hmm : (m : Int) + 2 ≤ 4 := by have := HE.out; omega
    have hp0 : 0 ≤ xi * xi * (m + 2) := Int.mul_nonneg hs (by omega)
    have hp1 : xi * xi * (m + 2) ≤ 25010001 * 4 := mul_le2 hs (by omega) (by omega) hmm
    have w1 : wrap64 (xi * xi) = xi * xi := w64 (by omega) (by omega)
    have w2 : wrap64 (many - (xs.length : Int)) = m + 2 := by rw [em]; exact w64 (by omega) (by omega)
    have w3 : wrap64 (xi * xi * (m + 2)) = xi * xi * (m + 2) := w64 (by omega) (by omega)
    have HV := sq_hide hv
    have HM := sq_hide hmn
    have HT := sq_hide ht
    have HO := sq_hide hown
    have HBB : Hid (Bm + 1 ≤ wr.heap.size) := sq_hide (lt_of_block hmn)
    have H88 : Hid ((xs.length + 1) * 8 ≤ 140737488355328) := sq_hide (by omega)
    clear hv hmn ht hown hS hp0 hp1
    by_cases c1 : xi * xi * (m + 2) ≤ left
    · have hbd := sq_bound (c := (m : Int) + 2) (by omega) (by omega) c1
      have c1b : decide (xi * xi * ((m : Int) + 2) ≤ left) = true := decide_eq_true c1
      have C1 := sq_hide c1
      clear c1
      have w4 : wrap64 (left - xi * xi) = left - xi * xi := w64 (by omega) (by omega)
      cases hcase : sqs m xi (left - xi * xi) with
      | some res =>
        have HY := sq_hide (sq_yes HIH.out (xs := xs) (many := many) (x := xi) (left := left) (res := res) HE.out (by omega) (by omega) hbd.1 (by omega) hcase)
        have hfin : sqs (m + 1) low left = some (xi :: res) := by rw [HF.out]; exact sqFrom_hit (by omega) (by omega) C1.out hcase
        have HN := sq_hide hfin
        have hne : ¬ Bt = Bl := HX0.out
        have hne2 : ¬ Bl = Bt := fun h => hne h.symm
        have hxe : xi ≤ left := hbd.2
        clear hcase hfin hbd
        go_wp2_with (first | (at_builtin; refine print_append_num (w0 := wr) (Bm + 1) rfl (.tmp 50) (.tmp 52) 25 3 .i64 8 rfl Try.underlying25 sqInfo (by decide) (.slice A xs.length c) xs xi rfl rfl HO.out (Below.refl _ _) HBB.out H88.out ?_; intro v1 w1 hown1 hB1 hg1 hat1; clear hat1; obtain ⟨A1, k1, rfl⟩ := own_slice hown1; have HV1 := sq_hide (sq_push (hg := hg1) (hv := by exact HV.out) (hmn := by exact HM.out) (ht := by exact HT.out) (hown := by exact HO.out) (hown1 := hown1)); obtain ⟨cL1, fL1⟩ := sq_same (hg := hg1) (hv := by exact HV.out) (hown := by exact HO.out); have cT1 := sq_cellT (u := .func (.func 121) #[] #[.pointer (some ⟨Bl, 0, none⟩), .pointer (some ⟨Bm, 0, none⟩), .pointer (some ⟨Bt, 0, none⟩)]) (xs := xs) (W := wr) (v := .slice A xs.length c) HT.out HO.out hg1; clear hown1 hg1 cL fL) | (go_at_call 121; refine (HY.out _ (by simpa using HV1.out)).mono ?_; rintro e w2 ⟨rfl, hI2, hB2⟩; have HI2 := sq_hide hI2; clear hI2))
        go_ret
        rw [HN.out]
        exact ⟨rfl, by simpa using HI2.out, hB.trans (((hB1.setCell (show Bm + 1 ≤ Bl by omega) _).mono (by omega)).trans (by simpa using hB2))⟩
      | none =>
        have HY := sq_hide (sq_no HIH.out (xs := xs) (many := many) (x := xi) (left := left) HE.out (by omega) (by omega) hbd.1 (by omega) hcase)
        have hfin := (HF.out).trans (sqFrom_next (by omega) (by omega) C1.out hcase)
        have HN := sq_hide hfin
        have hne : ¬ Bt = Bl := HX0.out
        have hne2 : ¬ Bl = Bt := fun h => hne h.symm
        have hxe : xi ≤ left := hbd.2
        clear hcase hfin hbd
        go_wp2_with (first | (at_builtin; refine print_append_num (w0 := wr) (Bm + 1) rfl (.tmp 50) (.tmp 52) 25 3 .i64 8 rfl Try.underlying25 sqInfo (by decide) (.slice A xs.length c) xs xi rfl rfl HO.out (Below.refl _ _) HBB.out H88.out ?_; intro v1 w1 hown1 hB1 hg1 hat1; clear hat1; obtain ⟨A1, k1, rfl⟩ := own_slice hown1; have HV1 := sq_hide (sq_push (hg := hg1) (hv := by exact HV.out) (hmn := by exact HM.out) (ht := by exact HT.out) (hown := by exact HO.out) (hown1 := hown1)); obtain ⟨cL1, fL1⟩ := sq_same (hg := hg1) (hv := by exact HV.out) (hown := by exact HO.out); have cT1 := sq_cellT (u := .func (.func 121) #[] #[.pointer (some ⟨Bl, 0, none⟩), .pointer (some ⟨Bm, 0, none⟩), .pointer (some ⟨Bt, 0, none⟩)]) (xs := xs) (W := wr) (v := .slice A xs.length c) HT.out HO.out hg1; clear hown1 hg1 cL fL) | (go_at_call 121; refine (HY.out _ (by simpa using HV1.out)).mono ?_; rintro e w2 ⟨rfl, ⟨g2, k2, hv2, hk2, hk3, hI2⟩, hB2⟩; have cL2 := cell_of_one hv2; have fL2 := free_of_one hv2; have HI2 := sq_hide hI2; have HV2 := sq_hide hv2; clear hI2 hv2))
        go_roundw
        case rel => exact ⟨xi + 1, by go_num, by omega, sq_hide (.inl (by omega)), sq_hide (by have := sq_drop (y := xi) HI2.out (by simpa using HV2.out); simpa using this), HN, (hB.trans (((hB1.setCell (show Bm + 1 ≤ Bl by omega) _).mono (by omega)).trans (by simpa using hB2))).setCell (show Bm ≤ Bl by omega) _⟩
        case measure => simp [intOf]; omega
    · have c1b : decide (xi * xi * ((m : Int) + 2) ≤ left) = false := decide_eq_false c1
      have hfin : sqs (m + 1) low left = none := by rw [HF.out]; exact sqFrom_stop _ c1
      have HN := sq_hide hfin
      clear c1 hfin
      go_wp2
      go_ret
      rw [HN.out]
      exact ⟨rfl, by simpa using HW.out, hB⟩
theorem sq_all (Bm Bl Bt : Nat) (many : Int) (hM : many ≤ 4) (hlt : Bm < Bl) (hlt2 : Bm < Bt) : ∀ m, SqSays Bm Bl Bt many m
  | 0 => fun low left xs w h hm h0 hL hl0 hl => sq_base Bm Bl Bt many low left xs w h (by simpa using hm) hM h0 hL hl0 hl hlt hlt2
  | m + 1 => sq_step Bm Bl Bt many hM hlt hlt2 m (sq_all Bm Bl Bt many hM hlt hlt2 m)
theorem sq_start (w : World) (a1 : Int) : SqInv w.heap.size (w.heap.size + 1 + 1) (w.heap.size + 1 + 1 + 1) a1 []
    ((((w.alloc (.cells #[.int .i64 a1] 3)).alloc (.cells #[] 3)).alloc (.cells #[.slice (some ⟨w.heap.size + 1, 0, none⟩) 0 0] 25)).alloc
      (.cells #[.func (.func 121) #[] #[.pointer (some ⟨w.heap.size + 1 + 1, 0, none⟩), .pointer (some ⟨w.heap.size, 0, none⟩), .pointer (some ⟨w.heap.size + 1 + 1 + 1, 0, none⟩)]] 57)) := by
  refine ⟨.slice (some ⟨w.heap.size + 1, 0, none⟩) 0 0, ?_, ?_, ?_, by simp [nums], .inr ⟨w.heap.size + 1, 0, #[], rfl, Nat.le_refl _, ?_, Nat.le_refl _, by simp [maxLen], by simp, by simp [nums]⟩⟩
  · refine (Below.heap_alloc _ _ _ (by simp)).trans ?_
    simpa using heap_alloc_new ((w.alloc (.cells #[.int .i64 a1] 3)).alloc (.cells #[] 3)) (.cells #[.slice (some ⟨w.heap.size + 1, 0, none⟩) 0 0] 25)
  · refine (Below.heap_alloc _ _ _ (by simp <;> omega)).trans ((Below.heap_alloc _ _ _ (by simp <;> omega)).trans ((Below.heap_alloc _ _ _ (by simp)).trans ?_))
    exact heap_alloc_new w _
  · simpa using heap_alloc_new (((w.alloc (.cells #[.int .i64 a1] 3)).alloc (.cells #[] 3)).alloc (.cells #[.slice (some ⟨w.heap.size + 1, 0, none⟩) 0 0] 25)) (.cells #[.func (.func 121) #[] #[.pointer (some ⟨w.heap.size + 1 + 1, 0, none⟩), .pointer (some ⟨w.heap.size, 0, none⟩), .pointer (some ⟨w.heap.size + 1 + 1 + 1, 0, none⟩)]] 57)
  · refine (Below.heap_alloc _ _ _ (by simp <;> omega)).trans ((Below.heap_alloc _ _ _ (by simp)).trans ?_)
    simpa using heap_alloc_new (w.alloc (.cells #[.int .i64 a1] 3)) (.cells #[] 3)
/-- squaresOf, as it is asked here: of 1 to 4 squares. -/
def impl_squaresOf.f (a0 : Int) (a1 : Int) : Option (List Int × Bool) :=
  if 1 ≤ a1 ∧ a1 ≤ 4 then (if a0 < 0 ∨ a0 > 2000 then some ([], false) else match sqs (a1 - 1).toNat 0 a0 with | some r => some (r, true) | none => some ([], false)) else none
set_option maxHeartbeats 4000000 in
set_option maxRecDepth 100000 in
theorem impl_squaresOf.calls (a0 : Int) (a1 : Int) (r1 : List Int) (r2 : Bool) (w : World) (h : impl_squaresOf.f a0 a1 = some (r1, r2)) :
    Calls Try.prog 69 #[.int .i64 a0, .int .i64 a1] w fun e w' => ∃ v0_ : Value, e = .returned (.tuple #[v0_, .bool r2]) ∧ Kd.R (Kd.int .i64) 3 w' w.heap.size (fun _ => True) v0_ r1 ∧ Below w.heap.size w w' := by
  unfold impl_squaresOf.f at h
  by_cases hm : 1 ≤ a1 ∧ a1 ≤ 4
  · rw [if_pos hm] at h
    obtain ⟨hm1, hm4⟩ := hm
    by_cases hlo : a0 < 0
    · rw [if_pos (.inl hlo)] at h
      have h1 : decide (a0 < 0) = true := decide_eq_true hlo
      simp only [Option.some.injEq, Prod.mk.injEq] at h
      obtain ⟨rfl, rfl⟩ := h
      clear hlo
      go_enter Try.func69, Try.ntmps69
      go_wp2
      go_ret2
      exact ⟨_, rfl, Kd.R_nil _ _ _ _ _, (Below.refl _ _).alloc (Nat.le_refl _) _⟩
    · by_cases hhi : a0 > 2000
      · rw [if_pos (.inr hhi)] at h
        have h1 : decide (a0 < 0) = false := decide_eq_false hlo
        have h2 : decide (2000 < a0) = true := decide_eq_true hhi
        simp only [Option.some.injEq, Prod.mk.injEq] at h
        obtain ⟨rfl, rfl⟩ := h
        clear hlo hhi
        go_enter Try.func69, Try.ntmps69
        go_wp2
        go_ret2
        exact ⟨_, rfl, Kd.R_nil _ _ _ _ _, (Below.refl _ _).alloc (Nat.le_refl _) _⟩
      · rw [if_neg (by omega)] at h
        have h1 : decide (a0 < 0) = false := decide_eq_false hlo
        have h2 : decide (2000 < a0) = false := decide_eq_false hhi
        have hs := sq_all w.heap.size (w.heap.size + 1 + 1) (w.heap.size + 1 + 1 + 1) a1 hm4 (by omega) (by omega) (a1 - 1).toNat 0 a0 [] _ (sq_start w a1) (by simp <;> omega) (by omega) (by omega) (by omega) (by omega)
        simp only [List.nil_append] at hs
        clear hlo hhi hm1 hm4
        cases hq : sqs (a1 - 1).toNat 0 a0 with
        | none =>
          rw [hq] at hs h
          simp only [Option.some.injEq, Prod.mk.injEq] at h
          obtain ⟨rfl, rfl⟩ := h
          simp only [Option.isSome_none] at hs
          have HS := sq_hide hs
          clear hs hq
          go_enter Try.func69, Try.ntmps69
          go_wp2_with (go_at_call 121; refine HS.out.mono ?_; rintro e w2 ⟨rfl, hI2, hB2⟩; clear hI2)
          go_ret2
          exact ⟨_, rfl, Kd.R_nil _ _ _ _ _, (((((Below.refl _ w).alloc (Nat.le_refl _) _).alloc (by simp) _).alloc (by simp <;> omega) _).alloc (by simp <;> omega) _).trans (by simpa using hB2)⟩
        | some r =>
          rw [hq] at hs h
          simp only [Option.some.injEq, Prod.mk.injEq] at h
          obtain ⟨rfl, rfl⟩ := h
          simp only [Option.isSome_some, Option.getD_some] at hs
          have HS := sq_hide hs
          clear hs hq
          go_enter Try.func69, Try.ntmps69
          go_wp2_with (go_at_call 121; refine HS.out.mono ?_; rintro e w2 ⟨rfl, ⟨v2, hv2, _, _, hown2⟩, hB2⟩; obtain ⟨A2, k2, rfl⟩ := own_slice hown2; have cL2 := cell_of_one hv2; clear hv2)
          go_ret2
          exact ⟨_, rfl, Kd.R_of_own (own_weaken hown2 (Nat.le_succ _)) (fun _ _ => trivial), (((((Below.refl _ w).alloc (Nat.le_refl _) _).alloc (by simp) _).alloc (by simp <;> omega) _).alloc (by simp <;> omega) _).trans (by simpa using hB2)⟩
  · rw [if_neg hm] at h; cases h

end

/-! ### impl_ThreeFind: function 18 -/
def impl_ThreeFind.f (a0 : Int) : Option (List Int × Bool) := (impl_squaresOf.f a0 3).bind fun bt128 => (some (bt128.1, bt128.2))
set_option maxHeartbeats 8000000 in
set_option maxRecDepth 100000 in
theorem impl_ThreeFind.calls (a0 : Int) (r1 : List Int) (r2 : Bool) (w : World) (h : impl_ThreeFind.f a0 = some (r1, r2)) :
    Calls Try.prog 18 #[.int .i64 a0] w fun e w' => ∃ v0_ : Value, e = .returned (.tuple #[v0_, .bool r2]) ∧ Kd.R (Kd.int .i64) 3 w' w.heap.size (fun _ => True) v0_ r1 ∧ Below w.heap.size w w' := by
  have HB := Aside0.mk (Below.refl w.heap.size w)
  have H : ((impl_squaresOf.f a0 3).bind fun bt128 => (some (bt128.1, bt128.2))) = some (r1, r2) := h
  clear h
  replace H := Option.bind_eq_some_iff.mp H
  obtain ⟨⟨t128, t129⟩, A20, H⟩ := H
  replace H : (some (t128, t129)) = some (r1, r2) := H
  have A2 := Aside0.mk A20
  clear A20
  simp only [Option.some.injEq, Prod.mk.injEq] at H
  obtain ⟨rfl, rfl⟩ := H
  go_enter Try.func18, Try.ntmps18
  go_wp2_with (first | ((with_reducible refine gate_callee (f := 69) rfl ?_); refine goesL_ (some 5) rfl rfl Try.func69 (by kernel_rfl) rfl #[.int .i64 a0, .int .i64 3] rfl Sqz.auM ?_; (with_reducible refine (impl_squaresOf.calls a0 3 t128 t129 _ A2.out).mono ?_); rintro e w3 ⟨v130, rfl, ho0, hb⟩; refine ⟨_, rfl, ?_⟩; have n0_ := Aside0.mk (Kd.R_lower ho0 (below_size (Sqz.auHB))); have n1_ := Aside0.mk (below_step (Sqz.auHB) hb); clear HB; have HO131 := n0_; have HB := n1_; clear n0_ n1_; (try clear hb); (try clear hb2); (try clear hk); (try clear hi); (try clear ho0)))
  go_ret2
  exact ⟨_, Sqz.auR, (Sqz.mvR HO131.out), Sqz.auHB⟩

/-! ### impl_isNumber: function 70 -/
def impl_isNumber.f (a0 : Int) : Option (Bool) := if a0 ≥ (-5000) then (some (decide (a0 ≤ 5000))) else (some false)
set_option maxHeartbeats 8000000 in
set_option maxRecDepth 100000 in
theorem impl_isNumber.calls (a0 : Int) (r : Bool) (w : World) (h : impl_isNumber.f a0 = some r) :
    Calls Try.prog 70 #[.int .i64 a0] w fun e w' => e = .returned (.bool r) ∧ Drawn0 w w' := by
  have H : (if a0 ≥ (-5000) then (some (decide (a0 ≤ 5000))) else (some false)) = some r := h
  clear h
  by_cases c2 : a0 ≥ (-5000)
  · rw [if_pos c2] at H
    have c2b0 : decide ((-5000) ≤ a0) = true := decide_eq_true c2
    clear c2
    obtain rfl := Option.some.inj H
    go_enter Try.func70, Try.ntmps70
    go_wp2
    go_ret
    exact ⟨Sqz.auS, by repeat (first | exact Drawn0.refl _ | apply Drawn0.step)⟩
  · rw [if_neg c2] at H
    have c2b0 : decide ((-5000) ≤ a0) = false := decide_eq_false c2
    clear c2
    obtain rfl := Option.some.inj H
    go_enter Try.func70, Try.ntmps70
    go_wp2
    go_ret
    exact ⟨Sqz.auS, by repeat (first | exact Drawn0.refl _ | apply Drawn0.step)⟩

/-! ### impl_size: function 72 -/
def impl_size.f (a0 : Int) : Option (Int) := some (mx a0 (wrap64 (-a0)))
set_option maxHeartbeats 8000000 in
set_option maxRecDepth 100000 in
theorem impl_size.calls (a0 : Int) (r : Int) (w : World) (h : impl_size.f a0 = some r) :
    Calls Try.prog 72 #[.int .i64 a0] w fun e w' => e = .returned (.int .i64 r) ∧ Below w.heap.size w w' := by
  have HB := Aside0.mk (Below.refl w.heap.size w)
  have H : (some (mx a0 (wrap64 (-a0)))) = some r := h
  clear h
  obtain ⟨ji2, hji2⟩ : ∃ j_ : Int, (mx a0 (wrap64 (-a0))) = j_ := ⟨_, rfl⟩
  replace H : (some ji2) = some r := by first | (rw [hji2] at H; exact H) | (simp only [hji2] at H ⊢; exact H)
  have hji2_ : (if a0 < (wrap64 (-a0)) then (wrap64 (-a0)) else a0) = ji2 := hji2
  obtain rfl := Option.some.inj H
  go_enter Try.func72, Try.ntmps72
  go_wp2
  go_ret
  exact ⟨by first | rfl | (simp [errW_none, errW_some] <;> rfl) | (simp only [← hji2]; first | rfl | (simp [errW_none, errW_some] <;> rfl)) | (simp [*, errW_none, errW_some] <;> rfl), Sqz.auHB⟩

/-! ### impl_split: function 112 -/
def impl_split.l0 : Nat → Int → Int → Int → Option (Int × Int)
  | 0, _, _, _ => none
  | k + 1, x0, x1, x6 => if x1 = 0 then (none) else (if (Int.tmod x0 x1) = 0 then (impl_split.l0 k (wrap64 (Int.tdiv x0 x1)) x1 (wrap64 (x6 + 1))) else (some (x6, x0)))
def impl_split.f (k : Nat) (a0 : Int) (a1 : Int) : Option (Int × Int) := impl_split.l0 k a0 a1 0
set_option maxHeartbeats 8000000 in
set_option maxRecDepth 100000 in
theorem impl_split.calls (k : Nat) (a0 : Int) (a1 : Int) (r1 : Int) (r2 : Int) (w : World) (h : impl_split.f k a0 a1 = some (r1, r2)) :
    Calls Try.prog 112 #[.int .i64 a0, .int .i64 a1] w fun e w' => e = .returned (.tuple #[.int .i64 r1, .int .i64 r2]) ∧ Drawn0 w w' := by
  have H : (impl_split.l0 k a0 a1 0) = some (r1, r2) := h
  clear h
  have H' := Aside0.mk H
  clear H
  go_enter Try.func112, Try.ntmps112
  go_wp2
  go_loopg [0, 6] k (fun kq v0 v6 w' => ∃ (x0_1 : Int) (x6_1 : Int), v0 = .int .i64 x0_1 ∧ v6 = .int .i64 x6_1 ∧ Aside0 (impl_split.l0 kq x0_1 a1 x6_1 = some (r1, r2)) ∧ Aside0 (kq ≤ k) ∧ Drawn0 w w')
  case atStart => exact ⟨(a0), (0), Sqz.auS, Sqz.auS, H', ⟨Nat.le_refl _⟩, by repeat (first | exact Drawn0.refl _ | apply Drawn0.step)⟩
  case round =>
    clear H'
    try clear c1
    try clear p2
    obtain ⟨x0_1, x6_1, rfl, rfl, HA, HK1, ⟨m1, rfl⟩⟩ := hrel
    cases gk with
    | zero => exact absurd HA.out (by simp [impl_split.l0])
    | succ k1 =>
      have H := HA.out
      clear HA
      simp only [impl_split.l0] at H
      by_cases c3 : a1 = 0
      · rw [if_pos c3] at H
        exact absurd H (by simp)
      · rw [if_neg c3] at H
        have c3b0 : (a1 == 0) = false := beq_eq_false_iff_ne.mpr c3
        have c3b1 : (a1 != 0) = true := bne_iff_ne.mpr c3
        by_cases c4 : (Int.tmod x0_1 a1) = 0
        · rw [if_pos c4] at H
          have c4b0 : ((Int.tmod x0_1 a1) == 0) = true := beq_iff_eq.mpr c4
          have c4b1 : ((Int.tmod x0_1 a1) != 0) = false := bne_eq_false_iff_eq.mpr c4
          clear c4
          have H' := Aside0.mk H
          clear H
          go_wp2
          go_roundg k1
          case measure => have := HK1.out; omega
          case rel => exact ⟨(wrap64 (Int.tdiv x0_1 a1)), (wrap64 (x6_1 + 1)), Sqz.auS, Sqz.auS, H', ⟨by have := HK1.out; omega⟩, by repeat (first | exact Drawn0.refl _ | apply Drawn0.step)⟩
        · rw [if_neg c4] at H
          have c4b0 : ((Int.tmod x0_1 a1) == 0) = false := beq_eq_false_iff_ne.mpr c4
          have c4b1 : ((Int.tmod x0_1 a1) != 0) = true := bne_iff_ne.mpr c4
          simp only [Option.some.injEq, Prod.mk.injEq] at H
          obtain ⟨rfl, rfl⟩ := H
          go_wp2
          go_ret2
          exact ⟨Sqz.auS, by repeat (first | exact Drawn0.refl _ | apply Drawn0.step)⟩

/-! ### impl_primesOf: function 111 -/
def impl_primesOf.l0 : Nat → Int → List Int → Int → Option (List Int)
  | 0, _, _, _ => none
  | k + 1, x0, x3, x4 => if (wrap64 (x4 * x4)) ≤ x0 then (if x4 = 0 then (none) else (if (Int.tmod x0 x4) = 0 then (if x3.length < 17592186044416 then ((impl_split.f k x0 x4).bind fun bt139 => (impl_primesOf.l0 k bt139.2 (x3 ++ [x4]) (wrap64 (x4 + 1)))) else (none)) else (impl_primesOf.l0 k x0 x3 (wrap64 (x4 + 1))))) else (if x0 > 1 then (if x3.length < 17592186044416 then (some (x3 ++ [x0])) else (none)) else (some x3))
def impl_primesOf.f (k : Nat) (a0 : Int) : Option (List Int) := (impl_size.f a0).bind fun t135 => (impl_primesOf.l0 k t135 (([] : List Int)) 2)
set_option maxHeartbeats 8000000 in
set_option maxRecDepth 100000 in
theorem impl_primesOf.calls (k : Nat) (a0 : Int) (r : List Int) (w : World) (h : impl_primesOf.f k a0 = some r) :
    Calls Try.prog 111 #[.int .i64 a0] w fun e w' => ∃ v0_ : Value, e = .returned (v0_) ∧ Kd.R (Kd.int .i64) 3 w' w.heap.size (fun _ => True) v0_ r ∧ Below w.heap.size w w' := by
  have HB := Aside0.mk (Below.refl w.heap.size w)
  have H : ((impl_size.f a0).bind fun t135 => (impl_primesOf.l0 k t135 (([] : List Int)) 2)) = some r := h
  clear h
  obtain ⟨y132, hy132⟩ : ∃ y_ : List Int, y_ = (([] : List Int)) := ⟨_, rfl⟩
  replace H : ((impl_size.f a0).bind fun t135 => (impl_primesOf.l0 k t135 y132 2)) = some r := by first | (rw [hy132]; with_reducible exact H) | (have H2_ := (Option.bind_some _ _).symm.trans H; rw [hy132]; with_reducible exact H2_) | (have H2_ := (Option.bind_some _ _).symm.trans H; with_reducible exact H2_) | with_reducible exact H | (rw [hy132]; exact H) | exact H
  have Ny132 := Aside0.mk hy132
  clear hy132
  replace H := Option.bind_eq_some_iff.mp H
  obtain ⟨t135, A20, H⟩ := H
  replace H : (impl_primesOf.l0 k t135 y132 2) = some r := H
  have A2 := Aside0.mk A20
  clear A20
  have H' := Aside0.mk H
  clear H
  go_enter Try.func111, Try.ntmps111
  go_wp2_with (first | ((with_reducible refine gate_dst (N := 5) rfl ?_); refine Kd.R_lit (Kd.int .i64) _ 3 ?hg (N := 5) ?hd (xs := ([] : List Int)) (inner := []) (ok := fun _ => True) (okp := fun _ => True) ?hr ?hp (fun _ hk => hk) trivial (Below.refl _ _) (Nat.le_refl _) (by simp) ?_; (case hd => rfl); (case hg => rfl); (case hr => first | (go_simp; done) | (go_simp; rfl)); (case hp => exact (Reps.none _ _)); intro v133 w3 ho4 hb hg_ hnew_; clear hg_ hnew_; (first | rw [← Ny132.out] at ho4 | (simp only [Int.reduceToNat] at ho4; rw [← Ny132.out] at ho4)); have n0_ := Aside0.mk (Kd.R_lower ho4 (below_size (Sqz.auHB))); have n1_ := Aside0.mk (below_step (Sqz.auHB) hb); clear HB; have HO134 := n0_; have HB := n1_; clear n0_ n1_; clear hb ho4) | ((with_reducible refine gate_callee (f := 72) rfl ?_); refine goesL_ (some 7) rfl rfl Try.func72 (by kernel_rfl) rfl #[.int .i64 a0] rfl Sqz.auM ?_; (with_reducible refine (impl_size.calls a0 t135 _ A2.out).mono ?_); rintro e w5 ⟨rfl, hb⟩; refine ⟨_, rfl, ?_⟩; have n0_ := Aside0.mk (Kd.R_below ((Sqz.mvR HO134.out)) hb); have n1_ := Aside0.mk (below_step (Sqz.auHB) hb); clear HO134; clear HB; have HO134 := n0_; have HB := n1_; clear n0_ n1_; (try clear hb); (try clear hb2); (try clear hk); (try clear hi)))
  go_loopg [0, 3, 4] k (fun kq v0 v3 v4 w' => ∃ (x0_1 : Int) (x3_1 : List Int) (x4_1 : Int), v0 = .int .i64 x0_1 ∧ v4 = .int .i64 x4_1 ∧ Aside0 (impl_primesOf.l0 kq x0_1 x3_1 x4_1 = some r) ∧ Aside0 (kq ≤ k) ∧ Aside0 (Kd.R (Kd.int .i64) 3 w' w.heap.size (fun _ => True) v3 x3_1) ∧ Aside0 (Below w.heap.size w w'))
  case atStart => exact ⟨(t135), (y132), (2), Sqz.auS, Sqz.auS, H', ⟨Nat.le_refl _⟩, ⟨(Sqz.mvR HO134.out)⟩, ⟨Sqz.auHB⟩⟩
  case round =>
    clear H'
    try clear c1
    try clear p2
    obtain ⟨x0_1, x3_1, x4_1, rfl, rfl, HA, HK1, HO_3, HB⟩ := hrel
    cases gk with
    | zero => exact absurd HA.out (by simp [impl_primesOf.l0])
    | succ k1 =>
      have H := HA.out
      clear HA
      simp only [impl_primesOf.l0] at H
      by_cases c6 : (wrap64 (x4_1 * x4_1)) ≤ x0_1
      · rw [if_pos c6] at H
        have c6b0 : decide ((wrap64 (x4_1 * x4_1)) ≤ x0_1) = true := decide_eq_true c6
        clear c6
        by_cases c7 : x4_1 = 0
        · rw [if_pos c7] at H
          exact absurd H (by simp)
        · rw [if_neg c7] at H
          have c7b0 : (x4_1 == 0) = false := beq_eq_false_iff_ne.mpr c7
          have c7b1 : (x4_1 != 0) = true := bne_iff_ne.mpr c7
          by_cases c8 : (Int.tmod x0_1 x4_1) = 0
          · rw [if_pos c8] at H
            have c8b0 : ((Int.tmod x0_1 x4_1) == 0) = true := beq_iff_eq.mpr c8
            have c8b1 : ((Int.tmod x0_1 x4_1) != 0) = false := bne_eq_false_iff_eq.mpr c8
            clear c8
            by_cases c9 : x3_1.length < 17592186044416
            · rw [if_pos c9] at H
              have LMc9 := Aside0.mk c9
              clear c9
              obtain ⟨y136, hy136⟩ : ∃ y_ : List Int, y_ = (x3_1 ++ [x4_1]) := ⟨_, rfl⟩
              replace H : ((impl_split.f k1 x0_1 x4_1).bind fun bt139 => (impl_primesOf.l0 k1 bt139.2 y136 (wrap64 (x4_1 + 1)))) = some r := by first | (rw [hy136]; with_reducible exact H) | (have H2_ := (Option.bind_some _ _).symm.trans H; rw [hy136]; with_reducible exact H2_) | (have H2_ := (Option.bind_some _ _).symm.trans H; with_reducible exact H2_) | with_reducible exact H | (rw [hy136]; exact H) | exact H
              have Ny136 := Aside0.mk hy136
              clear hy136
              replace H := Option.bind_eq_some_iff.mp H
              obtain ⟨⟨t139, t140⟩, A100, H⟩ := H
              replace H : (impl_primesOf.l0 k1 t140 y136 (wrap64 (x4_1 + 1))) = some r := H
              have A10 := Aside0.mk A100
              clear A100
              have H' := Aside0.mk H
              clear H
              go_wp2_with (first | ((with_reducible refine gate_builtin (b := .append) (xs := #[.tmp 19, .tmp 21]) rfl ?_); at_builtin; refine Kd.R_append (Kd.int .i64) (w0 := w) w.heap.size rfl (.tmp 19) (.tmp 21) 25 3 (.int .i64 0) 8 rfl Try.underlying25 info3 rfl (by decide) (by omega) u3 x3_1 x4_1 [.int .i64 x4_1] (fun _ => True) (fun _ => False) rfl rfl ?aP (fun _ hk => hk.elim) ?aF ?aO ?aB ?aS ?aL ?_; (case aP => exact rfl); (case aB => exact (Sqz.auHB)); (case aF => exact (fun _ _ => trivial)); (case aO => exact ((Sqz.mvR HO_3.out))); (case aS => exact (below_size (Sqz.auHB))); (case aL => have := LMc9.out; omega); intro v137 w11 ho hb hg hat; rw [← Ny136.out] at ho; have n0_ := Aside0.mk (hb); have n1_ := Aside0.mk (ho); clear HB; clear HO_3; have HB := n0_; have HO138 := n1_; clear n0_ n1_; clear ho hb hg hat) | ((with_reducible refine gate_callee (f := 112) rfl ?_); refine goesL_ (some 26) rfl rfl Try.func112 (by kernel_rfl) rfl #[.int .i64 x0_1, .int .i64 x4_1] rfl Sqz.auM ?_; (with_reducible refine (impl_split.calls k1 x0_1 x4_1 t139 t140 _ A10.out).mono ?_); rintro e w' ⟨rfl, ⟨nd, rfl⟩⟩; refine ⟨_, rfl, ?_⟩))
              go_roundg k1
              case measure => have := HK1.out; omega
              case rel => exact ⟨(t140), (y136), (wrap64 (x4_1 + 1)), Sqz.auS, Sqz.auS, H', ⟨by have := HK1.out; omega⟩, ⟨(Sqz.mvR HO138.out)⟩, ⟨Sqz.auHB⟩⟩
            · rw [if_neg c9] at H
              exact absurd H (by simp)
          · rw [if_neg c8] at H
            have c8b0 : ((Int.tmod x0_1 x4_1) == 0) = false := beq_eq_false_iff_ne.mpr c8
            have c8b1 : ((Int.tmod x0_1 x4_1) != 0) = true := bne_iff_ne.mpr c8
            have H' := Aside0.mk H
            clear H
            go_wp2
            go_roundg k1
            case measure => have := HK1.out; omega
            case rel => exact ⟨(x0_1), (x3_1), (wrap64 (x4_1 + 1)), Sqz.auS, Sqz.auS, H', ⟨by have := HK1.out; omega⟩, ⟨(Sqz.mvR HO_3.out)⟩, ⟨Sqz.auHB⟩⟩
      · rw [if_neg c6] at H
        have c6b0 : decide ((wrap64 (x4_1 * x4_1)) ≤ x0_1) = false := decide_eq_false c6
        clear c6
        by_cases c12 : x0_1 > 1
        · rw [if_pos c12] at H
          have c12b0 : decide (1 < x0_1) = true := decide_eq_true c12
          clear c12
          by_cases c13 : x3_1.length < 17592186044416
          · rw [if_pos c13] at H
            have LMc13 := Aside0.mk c13
            clear c13
            obtain ⟨y141, hy141⟩ : ∃ y_ : List Int, y_ = (x3_1 ++ [x0_1]) := ⟨_, rfl⟩
            replace H : (some y141) = some r := by first | (rw [hy141]; with_reducible exact H) | (have H2_ := (Option.bind_some _ _).symm.trans H; rw [hy141]; with_reducible exact H2_) | (have H2_ := (Option.bind_some _ _).symm.trans H; with_reducible exact H2_) | with_reducible exact H | (rw [hy141]; exact H) | exact H
            have Ny141 := Aside0.mk hy141
            clear hy141
            obtain rfl := Option.some.inj H
            go_wp2_with (first | ((with_reducible refine gate_builtin (b := .append) (xs := #[.tmp 31, .tmp 33]) rfl ?_); at_builtin; refine Kd.R_append (Kd.int .i64) (w0 := w) w.heap.size rfl (.tmp 31) (.tmp 33) 25 3 (.int .i64 0) 8 rfl Try.underlying25 info3 rfl (by decide) (by omega) u3 x3_1 x0_1 [.int .i64 x0_1] (fun _ => True) (fun _ => False) rfl rfl ?aP (fun _ hk => hk.elim) ?aF ?aO ?aB ?aS ?aL ?_; (case aP => exact rfl); (case aB => exact (Sqz.auHB)); (case aF => exact (fun _ _ => trivial)); (case aO => exact ((Sqz.mvR HO_3.out))); (case aS => exact (below_size (Sqz.auHB))); (case aL => have := LMc13.out; omega); intro v142 w14 ho hb hg hat; rw [← Ny141.out] at ho; have n0_ := Aside0.mk (hb); have n1_ := Aside0.mk (ho); clear HB; clear HO_3; have HB := n0_; have HO143 := n1_; clear n0_ n1_; clear ho hb hg hat))
            go_ret
            exact ⟨_, Sqz.auR, (Sqz.mvR HO143.out), Sqz.auHB⟩
          · rw [if_neg c13] at H
            exact absurd H (by simp)
        · rw [if_neg c12] at H
          have c12b0 : decide (1 < x0_1) = false := decide_eq_false c12
          clear c12
          obtain rfl := Option.some.inj H
          go_wp2
          go_ret
          exact ⟨_, Sqz.auR, (Sqz.mvR HO_3.out), Sqz.auHB⟩

/-! ### impl_coreOf: function 71 -/
mutual
def impl_coreOf.l0 : Nat → Int → Int → List Int → Int → Int → Option (Int × Int)
  | 0, _, _, _, _, _ => none
  | k + 1, x0, x4, x8, x9, x10 => if x10 < x9 then (if 0 ≤ x10 then (if x10 < (x8.length : Int) then (impl_coreOf.l1 k x0 x4 (rd x8 x10) x8 x9 x10) else (none)) else (none)) else (some (x0, x4))
def impl_coreOf.l1 : Nat → Int → Int → Int → List Int → Int → Int → Option (Int × Int)
  | 0, _, _, _, _, _, _ => none
  | k + 1, x0, x4, x6, x8, x9, x10 => if (wrap64 (x6 * x6)) = 0 then (none) else (if (Int.tmod x0 (wrap64 (x6 * x6))) = 0 then (impl_coreOf.l1 k (wrap64 (Int.tdiv x0 (wrap64 (x6 * x6)))) (wrap64 (x4 * x6)) x6 x8 x9 x10) else (impl_coreOf.l0 k x0 x4 x8 x9 (wrap64 (x10 + 1))))
end
def impl_coreOf.f (k : Nat) (a0 : Int) : Option (Int × Int) := (impl_primesOf.f k a0).bind fun t144 => (impl_coreOf.l0 k a0 1 t144 (t144.length : Int) 0)
set_option maxHeartbeats 8000000 in
set_option maxRecDepth 100000 in
theorem impl_coreOf.calls (k : Nat) (a0 : Int) (r1 : Int) (r2 : Int) (w : World) (h : impl_coreOf.f k a0 = some (r1, r2)) :
    Calls Try.prog 71 #[.int .i64 a0] w fun e w' => e = .returned (.tuple #[.int .i64 r1, .int .i64 r2]) ∧ Below w.heap.size w w' := by
  have HB := Aside0.mk (Below.refl w.heap.size w)
  have H : ((impl_primesOf.f k a0).bind fun t144 => (impl_coreOf.l0 k a0 1 t144 (t144.length : Int) 0)) = some (r1, r2) := h
  clear h
  replace H := Option.bind_eq_some_iff.mp H
  obtain ⟨t144, A20, H⟩ := H
  replace H : (impl_coreOf.l0 k a0 1 t144 (t144.length : Int) 0) = some (r1, r2) := H
  have A2 := Aside0.mk A20
  clear A20
  have H' := Aside0.mk H
  clear H
  go_enter Try.func71, Try.ntmps71
  go_wp2_with (first | ((with_reducible refine gate_callee (f := 111) rfl ?_); refine goesL_ (some 8) rfl rfl Try.func111 (by kernel_rfl) rfl #[.int .i64 a0] rfl Sqz.auM ?_; (with_reducible refine (impl_primesOf.calls k a0 t144 _ A2.out).mono ?_); rintro e w3 ⟨v145, rfl, ho0, hb⟩; refine ⟨_, rfl, ?_⟩; have n0_ := Aside0.mk (Kd.R_lower ho0 (below_size (Sqz.auHB))); have n1_ := Aside0.mk (below_step (Sqz.auHB) hb); clear HB; have HO146 := n0_; have HB := n1_; clear n0_ n1_; (try clear hb); (try clear hb2); (try clear hk); (try clear hi); (try clear ho0); obtain ⟨Ao4, co4, eo4⟩ := Kd.R_slice HO146.out; subst eo4))
  go_loopg [0, 4, 10] k (fun kq v0 v4 v10 w' => ∃ (x0_1 : Int) (x4_1 : Int) (x10_1 : Int), v0 = .int .i64 x0_1 ∧ v4 = .int .i64 x4_1 ∧ v10 = .int .i64 x10_1 ∧ Aside0 (impl_coreOf.l0 kq x0_1 x4_1 t144 (t144.length : Int) x10_1 = some (r1, r2)) ∧ Aside0 (kq ≤ k) ∧ Aside0 (Kd.R (Kd.int .i64) 3 w' w.heap.size (fun _ => True) (.slice Ao4 t144.length co4) t144) ∧ Aside0 (Below w.heap.size w w'))
  case atStart => exact ⟨(a0), (1), (0), Sqz.auS, Sqz.auS, Sqz.auS, H', ⟨Nat.le_refl _⟩, ⟨(Sqz.mvR HO146.out)⟩, ⟨Sqz.auHB⟩⟩
  case round =>
    clear H'
    try clear c1
    try clear p2
    obtain ⟨x0_1, x4_1, x10_1, rfl, rfl, rfl, HA, HK1, HO_8, HB⟩ := hrel
    cases gk with
    | zero => exact absurd HA.out (by simp [impl_coreOf.l0])
    | succ k1 =>
      have H := HA.out
      clear HA
      simp only [impl_coreOf.l0] at H
      by_cases c5 : x10_1 < (t144.length : Int)
      · rw [if_pos c5] at H
        have c5b0 : decide (x10_1 < (t144.length : Int)) = true := decide_eq_true c5
        clear c5
        by_cases c6 : 0 ≤ x10_1
        · rw [if_pos c6] at H
          have c6b0 : decide (0 ≤ x10_1) = true := decide_eq_true c6
          clear c6
          by_cases c7 : x10_1 < (t144.length : Int)
          · rw [if_pos c7] at H
            have c7b0 : decide (x10_1 < (t144.length : Int)) = true := decide_eq_true c7
            clear c7
            have H' := Aside0.mk H
            clear H
            have p147 : 0 ≤ (x10_1 : Int) := of_decide_eq_true (by first | (with_reducible assumption) | assumption)
            have q147 : x10_1 < (t144.length : Int) := of_decide_eq_true (by first | (with_reducible assumption) | assumption)
            obtain ⟨ad147, e147, hx147_0⟩ := Kd.at_int (Kd.R_reads' HO_8.out).2.2 x10_1 p147 q147
            cases e147
            replace p147 := eq_true p147
            replace q147 := eq_true q147
            go_wp2
            go_loopg [0, 4] k1 (fun kq v0 v4 w' => ∃ (x0_2 : Int) (x4_2 : Int), v0 = .int .i64 x0_2 ∧ v4 = .int .i64 x4_2 ∧ Aside0 (impl_coreOf.l1 kq x0_2 x4_2 (rd t144 x10_1) t144 (t144.length : Int) x10_1 = some (r1, r2)) ∧ Aside0 (kq ≤ k1) ∧ Aside0 (Kd.R (Kd.int .i64) 3 w' w.heap.size (fun _ => True) (.slice (some ad147) t144.length co4) t144) ∧ Aside0 (Below w.heap.size w w'))
            case atStart => exact ⟨(x0_1), (x4_1), Sqz.auS, Sqz.auS, H', ⟨Nat.le_refl _⟩, ⟨(Sqz.mvR HO_8.out)⟩, ⟨Sqz.auHB⟩⟩
            case round =>
              clear H'
              try clear c1
              try clear p1
              try clear q1
              try clear hx1
              try clear p2
              try clear c5
              try clear c5b0
              try clear c6
              try clear c6b0
              try clear c7
              try clear c7b0
              try clear hx147_0
              try clear p147
              try clear p2
              try clear q147
              obtain ⟨x0_2, x4_2, rfl, rfl, HA, HK2, HO_8, HB⟩ := hrel
              cases gk with
              | zero => exact absurd HA.out (by simp [impl_coreOf.l1])
              | succ k2 =>
                have H := HA.out
                clear HA
                simp only [impl_coreOf.l1] at H
                by_cases c8 : (wrap64 ((rd t144 x10_1) * (rd t144 x10_1))) = 0
                · rw [if_pos c8] at H
                  exact absurd H (by simp)
                · rw [if_neg c8] at H
                  have c8b0 : ((wrap64 ((rd t144 x10_1) * (rd t144 x10_1))) == 0) = false := beq_eq_false_iff_ne.mpr c8
                  have c8b1 : ((wrap64 ((rd t144 x10_1) * (rd t144 x10_1))) != 0) = true := bne_iff_ne.mpr c8
                  by_cases c9 : (Int.tmod x0_2 (wrap64 ((rd t144 x10_1) * (rd t144 x10_1)))) = 0
                  · rw [if_pos c9] at H
                    have c9b0 : ((Int.tmod x0_2 (wrap64 ((rd t144 x10_1) * (rd t144 x10_1)))) == 0) = true := beq_iff_eq.mpr c9
                    have c9b1 : ((Int.tmod x0_2 (wrap64 ((rd t144 x10_1) * (rd t144 x10_1)))) != 0) = false := bne_eq_false_iff_eq.mpr c9
                    clear c9
                    have H' := Aside0.mk H
                    clear H
                    go_wp2
                    go_roundg k2
                    case measure => have := HK1.out; have := HK2.out; omega
                    case rel => exact ⟨(wrap64 (Int.tdiv x0_2 (wrap64 ((rd t144 x10_1) * (rd t144 x10_1))))), (wrap64 (x4_2 * (rd t144 x10_1))), Sqz.auS, Sqz.auS, H', ⟨by have := HK1.out; have := HK2.out; omega⟩, ⟨(Sqz.mvR HO_8.out)⟩, ⟨Sqz.auHB⟩⟩
                  · rw [if_neg c9] at H
                    have c9b0 : ((Int.tmod x0_2 (wrap64 ((rd t144 x10_1) * (rd t144 x10_1)))) == 0) = false := beq_eq_false_iff_ne.mpr c9
                    have c9b1 : ((Int.tmod x0_2 (wrap64 ((rd t144 x10_1) * (rd t144 x10_1)))) != 0) = true := bne_iff_ne.mpr c9
                    have H' := Aside0.mk H
                    clear H
                    go_wp2
                    go_roundg k2
                    case measure => have := HK1.out; have := HK2.out; omega
                    case rel => exact ⟨(x0_2), (x4_2), (wrap64 (x10_1 + 1)), Sqz.auS, Sqz.auS, Sqz.auS, H', ⟨by have := HK1.out; have := HK2.out; omega⟩, ⟨(Sqz.mvR HO_8.out)⟩, ⟨Sqz.auHB⟩⟩
          · rw [if_neg c7] at H
            exact absurd H (by simp)
        · rw [if_neg c6] at H
          exact absurd H (by simp)
      · rw [if_neg c5] at H
        have c5b0 : decide (x10_1 < (t144.length : Int)) = false := decide_eq_false c5
        clear c5
        simp only [Option.some.injEq, Prod.mk.injEq] at H
        obtain ⟨rfl, rfl⟩ := H
        go_wp2
        go_ret2
        exact ⟨Sqz.auR, Sqz.auHB⟩

/-! ### impl_CoreOf: function 19 -/
def impl_CoreOf.f (k : Nat) (a0 : Int) : Option (Int × Int × Bool) := if a0 = 0 then (some (0, 0, false)) else ((impl_isNumber.f a0).bind fun t148 => (if t148 = true then ((impl_coreOf.f k a0).bind fun bt149 => (some (bt149.1, bt149.2, true))) else (some (0, 0, false))))
set_option maxHeartbeats 8000000 in
set_option maxRecDepth 100000 in
theorem impl_CoreOf.calls (k : Nat) (a0 : Int) (r1 : Int) (r2 : Int) (r3 : Bool) (w : World) (h : impl_CoreOf.f k a0 = some (r1, r2, r3)) :
    Calls Try.prog 19 #[.int .i64 a0] w fun e w' => e = .returned (.tuple #[.int .i64 r1, .int .i64 r2, .bool r3]) ∧ Below w.heap.size w w' := by
  have HB := Aside0.mk (Below.refl w.heap.size w)
  have H : (if a0 = 0 then (some (0, 0, false)) else ((impl_isNumber.f a0).bind fun t148 => (if t148 = true then ((impl_coreOf.f k a0).bind fun bt149 => (some (bt149.1, bt149.2, true))) else (some (0, 0, false))))) = some (r1, r2, r3) := h
  clear h
  by_cases c2 : a0 = 0
  · rw [if_pos c2] at H
    have c2b0 : (a0 == 0) = true := beq_iff_eq.mpr c2
    have c2b1 : (a0 != 0) = false := bne_eq_false_iff_eq.mpr c2
    clear c2
    simp only [Option.some.injEq, Prod.mk.injEq] at H
    obtain ⟨rfl, rfl, rfl⟩ := H
    go_enter Try.func19, Try.ntmps19
    go_wp2
    go_ret3
    exact ⟨Sqz.auR, Sqz.auHB⟩
  · rw [if_neg c2] at H
    have c2b0 : (a0 == 0) = false := beq_eq_false_iff_ne.mpr c2
    have c2b1 : (a0 != 0) = true := bne_iff_ne.mpr c2
    replace H := Option.bind_eq_some_iff.mp H
    obtain ⟨t148, A30, H⟩ := H
    replace H : (if t148 = true then ((impl_coreOf.f k a0).bind fun bt149 => (some (bt149.1, bt149.2, true))) else (some (0, 0, false))) = some (r1, r2, r3) := H
    have A3 := Aside0.mk A30
    clear A30
    by_cases c4 : t148 = true
    · subst c4
      have H1 : ((impl_coreOf.f k a0).bind fun bt149 => (some (bt149.1, bt149.2, true))) = some (r1, r2, r3) := by rw [if_pos rfl] at H; exact H
      clear H
      have H := H1
      clear H1
      replace H := Option.bind_eq_some_iff.mp H
      obtain ⟨⟨t149, t150⟩, A50, H⟩ := H
      replace H : (some (t149, t150, true)) = some (r1, r2, r3) := H
      have A5 := Aside0.mk A50
      clear A50
      simp only [Option.some.injEq, Prod.mk.injEq] at H
      obtain ⟨rfl, rfl, rfl⟩ := H
      go_enter Try.func19, Try.ntmps19
      go_wp2_with (first | (go_at_call 70; (with_reducible refine (impl_isNumber.calls a0 true _ A3.out).mono ?_); rintro e w' ⟨rfl, ⟨nd, rfl⟩⟩) | ((with_reducible refine gate_callee (f := 71) rfl ?_); refine goesL_ (some 16) rfl rfl Try.func71 (by kernel_rfl) rfl #[.int .i64 a0] rfl Sqz.auM ?_; (with_reducible refine (impl_coreOf.calls k a0 t149 t150 _ A5.out).mono ?_); rintro e w6 ⟨rfl, hb⟩; refine ⟨_, rfl, ?_⟩; have n0_ := Aside0.mk (below_step (Sqz.auHB) hb); clear HB; have HB := n0_; clear n0_; (try clear hb); (try clear hb2); (try clear hk); (try clear hi)))
      go_ret3
      exact ⟨Sqz.auR, Sqz.auHB⟩
    · replace c4 := Bool.eq_false_iff.mpr c4
      subst c4
      have H1 : (some (0, 0, false)) = some (r1, r2, r3) := by rw [if_neg (show ¬ (false = true) by decide)] at H; exact H
      clear H
      have H := H1
      clear H1
      simp only [Option.some.injEq, Prod.mk.injEq] at H
      obtain ⟨rfl, rfl, rfl⟩ := H
      go_enter Try.func19, Try.ntmps19
      go_wp2_with (first | (go_at_call 70; (with_reducible refine (impl_isNumber.calls a0 false _ A3.out).mono ?_); rintro e w' ⟨rfl, ⟨nd, rfl⟩⟩))
      go_ret3
      exact ⟨Sqz.auR, Sqz.auHB⟩

/-! ### impl_FormValid: function 20 -/
def impl_FormValid.l0 : Nat → List Int → List Int → Int → Int → Option (Bool)
  | 0, _, _, _, _ => none
  | k + 1, x0, x5, x6, x7 => if x7 < x6 then (if 0 ≤ x7 then (if x7 < (x5.length : Int) then (if (rd x5 x7) = 0 then (some false) else ((impl_size.f (rd x5 x7)).bind fun t152 => (if t152 > 30 then (some false) else (impl_FormValid.l0 k x0 x5 x6 (wrap64 (x7 + 1)))))) else (none)) else (none)) else (if (x0.length : Int) ≥ 1 then (some (decide ((x0.length : Int) ≤ 4))) else (some false))
def impl_FormValid.f (k : Nat) (l0 : List Int) : Option (Bool) := impl_FormValid.l0 k l0 l0 (l0.length : Int) 0
set_option maxHeartbeats 8000000 in
set_option maxRecDepth 100000 in
theorem impl_FormValid.calls (k : Nat) (A0 : Option Addr) (c0 : Nat) (l0 : List Int) (r : Bool) (w : World) (hr0 : Kd.C (Kd.int .i64) w A0 l0.length l0) (hc0 : l0.length ≤ c0) (h : impl_FormValid.f k l0 = some r) :
    Calls Try.prog 20 #[.slice A0 l0.length c0] w fun e w' => e = .returned (.bool r) ∧ Below w.heap.size w w' := by
  have HR0 := Aside0.mk hr0
  have HC0 := Aside0.mk hc0
  clear hr0 hc0
  have HB := Aside0.mk (Below.refl w.heap.size w)
  have H : (impl_FormValid.l0 k l0 l0 (l0.length : Int) 0) = some r := h
  clear h
  have H' := Aside0.mk H
  clear H
  go_enter Try.func20, Try.ntmps20
  go_wp2
  go_loopg [7] k (fun kq v7 w' => ∃ (x7_1 : Int), v7 = .int .i64 x7_1 ∧ Aside0 (impl_FormValid.l0 kq l0 l0 (l0.length : Int) x7_1 = some r) ∧ Aside0 (kq ≤ k) ∧ Aside0 (Below w.heap.size w w'))
  case atStart => exact ⟨(0), Sqz.auS, H', ⟨Nat.le_refl _⟩, ⟨Sqz.auHB⟩⟩
  case round =>
    clear H'
    obtain ⟨x7_1, rfl, HA, HK1, HB⟩ := hrel
    cases gk with
    | zero => exact absurd HA.out (by simp [impl_FormValid.l0])
    | succ k1 =>
      have H := HA.out
      clear HA
      simp only [impl_FormValid.l0] at H
      by_cases c2 : x7_1 < (l0.length : Int)
      · rw [if_pos c2] at H
        have c2b0 : decide (x7_1 < (l0.length : Int)) = true := decide_eq_true c2
        clear c2
        by_cases c3 : 0 ≤ x7_1
        · rw [if_pos c3] at H
          have c3b0 : decide (0 ≤ x7_1) = true := decide_eq_true c3
          clear c3
          by_cases c4 : x7_1 < (l0.length : Int)
          · rw [if_pos c4] at H
            have c4b0 : decide (x7_1 < (l0.length : Int)) = true := decide_eq_true c4
            clear c4
            by_cases c5 : (rd l0 x7_1) = 0
            · rw [if_pos c5] at H
              have c5b0 : ((rd l0 x7_1) == 0) = true := beq_iff_eq.mpr c5
              have c5b1 : ((rd l0 x7_1) != 0) = false := bne_eq_false_iff_eq.mpr c5
              clear c5
              obtain rfl := Option.some.inj H
              have p151 : 0 ≤ (x7_1 : Int) := of_decide_eq_true (by first | (with_reducible assumption) | assumption)
              have q151 : x7_1 < (l0.length : Int) := of_decide_eq_true (by first | (with_reducible assumption) | assumption)
              obtain ⟨ad151, e151, hx151_0⟩ := Kd.at_int HR0.out x7_1 p151 q151
              cases e151
              replace hx151_0 := (HB.out.cell (World.block_lt_of_cell? w _ hx151_0)).trans hx151_0
              replace p151 := eq_true p151
              replace q151 := eq_true q151
              go_wp2
              go_ret
              exact ⟨Sqz.auR, Sqz.auHB⟩
            · rw [if_neg c5] at H
              have c5b0 : ((rd l0 x7_1) == 0) = false := beq_eq_false_iff_ne.mpr c5
              have c5b1 : ((rd l0 x7_1) != 0) = true := bne_iff_ne.mpr c5
              replace H := Option.bind_eq_some_iff.mp H
              obtain ⟨t152, A60, H⟩ := H
              replace H : (if t152 > 30 then (some false) else (impl_FormValid.l0 k1 l0 l0 (l0.length : Int) (wrap64 (x7_1 + 1)))) = some r := H
              have A6 := Aside0.mk A60
              clear A60
              by_cases c7 : t152 > 30
              · rw [if_pos c7] at H
                have c7b0 : decide (30 < t152) = true := decide_eq_true c7
                clear c7
                obtain rfl := Option.some.inj H
                have p151 : 0 ≤ (x7_1 : Int) := of_decide_eq_true (by first | (with_reducible assumption) | assumption)
                have q151 : x7_1 < (l0.length : Int) := of_decide_eq_true (by first | (with_reducible assumption) | assumption)
                obtain ⟨ad151, e151, hx151_0⟩ := Kd.at_int HR0.out x7_1 p151 q151
                cases e151
                replace hx151_0 := (HB.out.cell (World.block_lt_of_cell? w _ hx151_0)).trans hx151_0
                replace p151 := eq_true p151
                replace q151 := eq_true q151
                go_wp2_with (first | (go_at_call 72; (with_reducible refine (impl_size.calls (rd l0 x7_1) t152 _ A6.out).mono ?_); rintro e w8 ⟨rfl, hb⟩; have n0_ := Aside0.mk (below_step (Sqz.auHB) hb); clear HB; have HB := n0_; clear n0_; (try clear hb); (try clear hb2); (try clear hk); (try clear hi)))
                go_ret
                exact ⟨Sqz.auR, Sqz.auHB⟩
              · rw [if_neg c7] at H
                have c7b0 : decide (30 < t152) = false := decide_eq_false c7
                clear c7
                have H' := Aside0.mk H
                clear H
                have p151 : 0 ≤ (x7_1 : Int) := of_decide_eq_true (by first | (with_reducible assumption) | assumption)
                have q151 : x7_1 < (l0.length : Int) := of_decide_eq_true (by first | (with_reducible assumption) | assumption)
                obtain ⟨ad151, e151, hx151_0⟩ := Kd.at_int HR0.out x7_1 p151 q151
                cases e151
                replace hx151_0 := (HB.out.cell (World.block_lt_of_cell? w _ hx151_0)).trans hx151_0
                replace p151 := eq_true p151
                replace q151 := eq_true q151
                go_wp2_with (first | (go_at_call 72; (with_reducible refine (impl_size.calls (rd l0 x7_1) t152 _ A6.out).mono ?_); rintro e w9 ⟨rfl, hb⟩; have n0_ := Aside0.mk (below_step (Sqz.auHB) hb); clear HB; have HB := n0_; clear n0_; (try clear hb); (try clear hb2); (try clear hk); (try clear hi)))
                go_roundg k1
                case measure => have := HK1.out; omega
                case rel => exact ⟨(wrap64 (x7_1 + 1)), Sqz.auS, H', ⟨by have := HK1.out; omega⟩, ⟨Sqz.auHB⟩⟩
          · rw [if_neg c4] at H
            exact absurd H (by simp)
        · rw [if_neg c3] at H
          exact absurd H (by simp)
      · rw [if_neg c2] at H
        have c2b0 : decide (x7_1 < (l0.length : Int)) = false := decide_eq_false c2
        clear c2
        by_cases c10 : (l0.length : Int) ≥ 1
        · rw [if_pos c10] at H
          have c10b0 : decide (1 ≤ (l0.length : Int)) = true := decide_eq_true c10
          have c10b1 : decide (1 ≤ l0.length) = true := decide_eq_true (by omega)
          clear c10
          obtain rfl := Option.some.inj H
          go_wp2
          go_ret
          exact ⟨Sqz.auR, Sqz.auHB⟩
        · rw [if_neg c10] at H
          have c10b0 : decide (1 ≤ (l0.length : Int)) = false := decide_eq_false c10
          have c10b1 : decide (1 ≤ l0.length) = false := decide_eq_false (by omega)
          clear c10
          obtain rfl := Option.some.inj H
          go_wp2
          go_ret
          exact ⟨Sqz.auR, Sqz.auHB⟩

end Go.Proofs.Ytihadpckmcebgaa.PFnThreeIs
