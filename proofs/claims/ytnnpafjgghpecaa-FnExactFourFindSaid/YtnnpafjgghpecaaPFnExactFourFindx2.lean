/- A function's Lean twin and its walk, written by a program of this session. -/
import Derived.Test.YtnnpafjgghpecaaPFnExactFourFindx0
import Derived.Test.YtnnpafjgghpecaaPFnExactFourFindx1
namespace Go.Proofs.Ytnnpafjgghpecaa.PFnExactFourFind
open Go.RowKit Go.Proofs.YtnnpafjgghpecaaW.PrintWords Go.Proofs.YtnnpafjgghpecaaW.PrintLast Go.Proofs.YtnnpafjgghpecaaW.PrintMore
attribute [local go_sem] max2_int min2_int max_two min_two max_three min_three max_four min_four   -- for this text's walks alone
set_option linter.unusedVariables false
set_option linter.unusedSimpArgs false

/-! ### impl_squaresOf: function 37 -/
section
open Locg
theorem squareRoot_l (n : Int) (h0 : 0 ≤ n) (hn : n < 4611686018427387904) : ∀ (d : Nat) (x bit : Int) (k : Nat), 0 ≤ x → x * x ≤ n → n < (x + 2 * bit) * (x + 2 * bit) → x + 2 * bit ≤ 2147483648 → bit = 2 ^ d → d + 1 < k →
    impl_squareRoot.l0 k n x bit = some (isq n, isq n * isq n == n) := by
  intro d
  have stop : ∀ (x : Int) (k : Nat), 0 ≤ x → x * x ≤ n → n < (x + 1) * (x + 1) → 0 < k → impl_squareRoot.l0 k n x 0 = some (isq n, isq n * isq n == n) := by
    intro x k hx hl hg hk
    obtain ⟨k, rfl⟩ : ∃ m, k = m + 1 := ⟨k - 1, by omega⟩
    simp only [impl_squareRoot.l0]
    have hb : x < 2147483648 := by
      rcases Int.lt_or_le x 2147483648 with h | h
      · exact h
      · have := sq_le (by omega) h; omega
    have hm : wrap64 (x * x) = x * x := w64' (sq_nonneg x) (by omega)
    rw [if_neg (by omega), hm, isq_unique hx hl hg]
  induction d with
  | zero =>
    intro x bit k hx hl hg hB hb hk
    obtain ⟨k, rfl⟩ : ∃ m, k = m + 1 := ⟨k - 1, by omega⟩
    obtain rfl : bit = 1 := by simpa using hb
    simp only [impl_squareRoot.l0]
    have hs := sq_le (a := x + 1) (b := 2147483648) (by omega) (by omega)
    rw [if_pos (by omega), w64 (x := x + 1) (by omega) (by omega), w64' (x := (x + 1) * (x + 1)) (sq_nonneg _) (by omega)]
    have e : wrap64 (Int.tdiv 1 2) = 0 := by decide +kernel
    rw [e]
    by_cases c : (x + 1) * (x + 1) ≤ n
    · rw [if_pos c]
      exact stop _ _ (by omega) c (by rw [show x + 1 + 1 = x + 2 * 1 from by omega]; exact hg) (by omega)
    · rw [if_neg c]
      exact stop _ _ hx hl (by omega) (by omega)
  | succ d ih =>
    intro x bit k hx hl hg hB hb hk
    obtain ⟨k, rfl⟩ : ∃ m, k = m + 1 := ⟨k - 1, by omega⟩
    have hp : (0 : Int) < 2 ^ d := Int.pow_pos (by omega)
    obtain ⟨c2, hc2⟩ : ∃ c2 : Int, c2 = 2 ^ d := ⟨_, rfl⟩
    have hb2 : bit = 2 * c2 := by rw [hb, Int.pow_succ, hc2]; omega
    subst hb2
    simp only [impl_squareRoot.l0]
    have hs := sq_le (a := x + 2 * c2) (b := 2147483648) (by omega) (by omega)
    have e : wrap64 (Int.tdiv (2 * c2) 2) = c2 := by rw [tdiv2 (by omega), w64 (by omega) (by omega)]; omega
    rw [if_pos (by omega), w64 (x := x + 2 * c2) (by omega) (by omega), w64' (x := (x + 2 * c2) * (x + 2 * c2)) (sq_nonneg _) (by omega), e]
    by_cases c : (x + 2 * c2) * (x + 2 * c2) ≤ n
    · rw [if_pos c]
      exact ih _ _ _ (by omega) c (by rw [show x + 2 * c2 + 2 * c2 = x + 2 * (2 * c2) from by omega]; exact hg) (by omega) hc2 (by omega)
    · rw [if_neg c]
      exact ih _ _ _ hx hl (by omega) (by omega) hc2 (by omega)
theorem squareRoot (n : Int) (h0 : 0 ≤ n) (hn : n < 4611686018427387904) (k : Nat) (hk : 31 < k) : impl_squareRoot.f k n = some (isq n, isq n * isq n == n) := by
  unfold impl_squareRoot.f
  rw [if_neg (by omega)]
  exact squareRoot_l n h0 hn 30 0 1073741824 k (by omega) (by omega) (by omega) (by omega) (by decide) (by omega)
/-! ### the first squares with a sum: the closure and its maker -/
theorem sqInfo : (Try.prog.info? 3).map (fun i => (i.zero, i.size, i.bytes)) = some (some (.int .i64 0), 1, 8) := by kernel_rfl
def SqInv (Bm Bl Bt : Nat) (many : Int) (xs : List Int) (w : World) : Prop :=
  ∃ v, w.heap[Bl]? = some (.cells #[v] 22 (0, 0)) ∧ w.heap[Bm]? = some (.cells #[.int .i64 many] 3 (0, 0)) ∧
    w.heap[Bt]? = some (.cells #[.func (.func 69) #[] #[.pointer (some ⟨Bl, 0, none⟩), .pointer (some ⟨Bm, 0, none⟩), .pointer (some ⟨Bt, 0, none⟩)]] 42 (0, 0)) ∧
    w.ownsRow (Bm + 1) 3 1 v xs.length (nums .i64 xs)
theorem SqInv.drewN {Bm Bl Bt : Nat} {many : Int} {xs : List Int} {w : World} (h : SqInv Bm Bl Bt many xs w) (n : Nat) : SqInv Bm Bl Bt many xs (w.drewN n) := h
theorem sq_apart {w : World} {b : Nat} {v : Value} {xs : List Value} {g t : Nat} {cells : Array Value} (hown : w.ownsRow b 3 1 v xs.length xs) (hg : w.heap[g]? = some (.cells cells t (0, 0))) (ht : t ≠ 3) : v.ownBlock ≠ some g := by
  intro e
  obtain ⟨cells', hc⟩ := own_typed hown g e
  rw [hc] at hg
  injection hg with hg
  injection hg with _ hg
  exact ht hg.symm
theorem sq_push {Bm Bl Bt : Nat} {many : Int} {xs : List Int} {y : Int} {W w1 : World} {v v1 : Value} (hv : W.heap[Bl]? = some (.cells #[v] 22 (0, 0))) (hmn : W.heap[Bm]? = some (.cells #[.int .i64 many] 3 (0, 0)))
    (ht : W.heap[Bt]? = some (.cells #[.func (.func 69) #[] #[.pointer (some ⟨Bl, 0, none⟩), .pointer (some ⟨Bm, 0, none⟩), .pointer (some ⟨Bt, 0, none⟩)]] 42 (0, 0)))
    (hown : W.ownsRow (Bm + 1) 3 1 v xs.length (nums .i64 xs)) (hown1 : w1.ownsRow (Bm + 1) 3 1 v1 (xs ++ [y]).length (nums .i64 (xs ++ [y]))) (hg : W.grownBy w1 v.ownBlock) :
    SqInv Bm Bl Bt many (xs ++ [y]) (w1.setCell ⟨Bl, 0, none⟩ v1) := by
  have hl : xs.length = (nums .i64 xs).length := (nums_length _ _).symm
  have hl1 : (xs ++ [y]).length = (nums .i64 (xs ++ [y])).length := (nums_length _ _).symm
  have nl := sq_apart (by rw [← hl]; exact hown) hv (by decide)
  have nt := sq_apart (by rw [← hl]; exact hown) ht (by decide)
  have nm : v.ownBlock ≠ some Bm := fun e => by have := own_base hown Bm e; omega
  have hv' := (hg.block Bl (lt_of_block hv) (fun e => nl e.symm)).trans hv
  have hm' := (hg.block Bm (lt_of_block hmn) (fun e => nm e.symm)).trans hmn
  have ht' := (hg.block Bt (lt_of_block ht) (fun e => nt e.symm)).trans ht
  have n1 := sq_apart (by rw [← hl1]; exact hown1) hv' (by decide)
  have dm : Bm ≠ Bl := fun e => by subst e; rw [hv] at hmn; simp at hmn
  have dt : Bt ≠ Bl := fun e => by subst e; rw [hv] at ht; simp at ht
  refine ⟨v1, one_setCell hv', (Below.heap_setCell _ _ _ _ dm).trans hm', (Below.heap_setCell _ _ _ _ dt).trans ht', own_move hown1 (fun k hk => Below.heap_setCell _ _ _ _ (fun e => n1 (by rw [hk, e])))⟩
theorem sq_drop {Bm Bl Bt : Nat} {many : Int} {xs : List Int} {y : Int} {W : World} {g c : Nat} (h : SqInv Bm Bl Bt many (xs ++ [y]) W) (hv : W.heap[Bl]? = some (.cells #[.slice (some ⟨g, 0, none⟩) (xs ++ [y]).length c] 22 (0, 0))) :
    SqInv Bm Bl Bt many xs (W.setCell ⟨Bl, 0, none⟩ (.slice (some ⟨g, 0, none⟩) xs.length c)) := by
  obtain ⟨v, hv0, hmn, ht, hown⟩ := h
  obtain rfl : v = .slice (some ⟨g, 0, none⟩) (xs ++ [y]).length c := by rw [hv] at hv0; simpa using hv0.symm
  have hl1 : (xs ++ [y]).length = (nums .i64 (xs ++ [y])).length := (nums_length _ _).symm
  have n1 := sq_apart (by rw [← hl1]; exact hown) hv (by decide)
  have dm : Bm ≠ Bl := fun e => by subst e; rw [hv] at hmn; simp at hmn
  have dt : Bt ≠ Bl := fun e => by subst e; rw [hv] at ht; simp at ht
  have hgl : g ≠ Bl := fun e => n1 (by rw [e]; rfl)
  refine ⟨_, one_setCell hv, (Below.heap_setCell _ _ _ _ dm).trans hmn, (Below.heap_setCell _ _ _ _ dt).trans ht, ?_⟩
  rcases hown.2 with ⟨h', _⟩ | ⟨g', cap', cur, h', hb, hh, hnc, hcp, hcs, htake⟩
  · cases h'
  · simp only [Value.slice.injEq, Option.some.injEq, Addr.mk.injEq, and_true, true_and] at h'
    obtain ⟨rfl, rfl⟩ := h'
    refine ⟨by simp [nums], .inr ⟨g, c, cur, rfl, hb, (Below.heap_setCell _ _ _ _ hgl).trans hh, by simp at hnc; omega, hcp, hcs, ?_⟩⟩
    have := congrArg (List.take xs.length) htake
    rw [List.take_take] at this
    simpa [nums] using this
theorem sq_same {Bm Bl : Nat} {xs : List Int} {W w1 : World} {v : Value} (hv : W.heap[Bl]? = some (.cells #[v] 22 (0, 0))) (hown : W.ownsRow (Bm + 1) 3 1 v xs.length (nums .i64 xs)) (hg : W.grownBy w1 v.ownBlock) :
    w1.cell? ⟨Bl, 0, none⟩ = some v ∧ w1.frozen? ⟨Bl, 0, none⟩ = false := by
  have hl : xs.length = (nums .i64 xs).length := (nums_length _ _).symm
  have nl := sq_apart (by rw [← hl]; exact hown) hv (by decide)
  have hv' := (hg.block Bl (lt_of_block hv) (fun e => nl e.symm)).trans hv
  exact ⟨cell_of_one hv', free_of_one hv'⟩
theorem sq_root (n : Int) (h0 : 0 ≤ n) (hn : n ≤ 5000) : ∃ r, 0 ≤ r ∧ r ≤ 71 ∧ isq n = r ∧ impl_squareRoot.f 32 n = some (r, decide (r * r = n)) := by
  refine ⟨isq n, isq_nonneg n, ?_, rfl, ?_⟩
  · have := isq_bound (b := 71) h0 (by omega) (by omega); omega
  · rw [squareRoot n h0 (by omega) 32 (by omega)]
    rfl
theorem sq_hide {p : Prop} (h : p) : Hid p := Lib.hid h
set_option maxHeartbeats 1600000 in
set_option maxRecDepth 100000 in
theorem sq_base (Bm Bl Bt : Nat) (many low left : Int) (xs : List Int) (w : World) (h : SqInv Bm Bl Bt many xs w) (hm : (xs.length : Int) + 1 = many) (hM : many ≤ 4) (h0 : 0 ≤ low) (hL : low ≤ 5000) (hl0 : 0 ≤ left) (hl : left ≤ 5000) (hlt : Bm < Bl) (hlt2 : Bm < Bt) :
    Calls Try.prog 69 #[.int .i64 low, .int .i64 left, .pointer (some ⟨Bl, 0, none⟩), .pointer (some ⟨Bm, 0, none⟩), .pointer (some ⟨Bt, 0, none⟩)] w fun e w' =>
      e = .returned (.bool (sqs 0 low left).isSome) ∧ SqInv Bm Bl Bt many (xs ++ (sqs 0 low left).getD []) w' ∧ Below Bm w w' := by
  have hi := h
  obtain ⟨v, hv, hmn, ht, hown⟩ := h
  obtain ⟨A, c, rfl⟩ := own_slice hown
  have cL := cell_of_one hv
  have fL := free_of_one hv
  have cM := cell_of_one hmn
  have e1 : (((xs.length : Nat) : Int) == many - 1) = true := by rw [beq_iff_eq]; omega
  obtain ⟨r, hr0, hr1, hr, hsq⟩ := sq_root left hl0 hl
  simp only [sqs, hr]
  have HI := sq_hide hi
  have HV := sq_hide hv
  have HM := sq_hide hmn
  have HT := sq_hide ht
  have HO := sq_hide hown
  have hxl : xs.length ≤ 3 := by omega
  have hM1 : 1 ≤ many := by omega
  have hB : Bm < w.heap.size := lt_of_block hmn
  clear hi hv hmn ht hown hr hm
  by_cases c1 : r * r = left
  · rw [decide_eq_true c1] at hsq
    have HS := sq_hide hsq
    clear hsq
    by_cases c2 : low ≤ r
    · have c2b : decide (low ≤ r) = true := decide_eq_true c2
      rw [if_pos ⟨c1, c2⟩]
      clear c1
      go_enter Try.func69, Try.ntmps69
      go_wp2_with (first | (go_at_call 70; refine (impl_squareRoot.calls 32 left r true _ HS.out).mono ?_; rintro e w' ⟨rfl, ⟨n, rfl⟩⟩) | (at_builtin; go_loud (refine print_append_num (w0 := w) (Bm + 1) rfl (.tmp 27) (.tmp 29) 22 3 .i64 8 rfl Try.underlying22 sqInfo (by decide) (.slice A xs.length c) xs r rfl rfl HO.out (pw_below_drewN (Below.refl _ _) _) (by simp; omega) (by omega) ?_; intro v1 w1 hown1 hB1 hg1 hat1; clear hat1; obtain ⟨A1, k1, rfl⟩ := own_slice hown1; have HV1 := sq_hide (sq_push (hg := hg1) (hv := by exact HV.out) (hmn := by exact HM.out) (ht := by exact HT.out) (hown := by exact HO.out) (hown1 := hown1)); obtain ⟨cL1, fL1⟩ := sq_same (hg := hg1) (hv := by exact HV.out) (hown := by exact HO.out); clear hown1 hg1)))
      go_ret
      exact ⟨rfl, by simpa using HV1.out, (hB1.setCell (show Bm + 1 ≤ Bl by omega) _).mono (by omega)⟩
    · have c2b : decide (low ≤ r) = false := decide_eq_false c2
      rw [if_neg (fun h => c2 h.2)]
      clear c1
      go_enter Try.func69, Try.ntmps69
      go_wp2_with (first | (go_at_call 70; refine (impl_squareRoot.calls 32 left r true _ HS.out).mono ?_; rintro e w' ⟨rfl, ⟨n, rfl⟩⟩) | fail)
      go_ret
      exact ⟨rfl, by simpa using HI.out.drewN n, pw_below_drewN (Below.refl _ _) _⟩
  · rw [decide_eq_false c1] at hsq
    rw [if_neg (fun h => c1 h.1)]
    have HS := sq_hide hsq
    clear hsq c1
    go_enter Try.func69, Try.ntmps69
    go_wp2_with (first | (go_at_call 70; refine (impl_squareRoot.calls 32 left r false _ HS.out).mono ?_; rintro e w' ⟨rfl, ⟨n, rfl⟩⟩) | fail)
    go_ret
    exact ⟨rfl, by simpa using HI.out.drewN n, pw_below_drewN (Below.refl _ _) _⟩
def SqSays (Bm Bl Bt : Nat) (many : Int) (m : Nat) : Prop := ∀ (low left : Int) (xs : List Int) (w : World), SqInv Bm Bl Bt many xs w → (xs.length : Int) + m + 1 = many → 0 ≤ low → low ≤ 5000 → 0 ≤ left → left ≤ 5000 →
    Calls Try.prog 69 #[.int .i64 low, .int .i64 left, .pointer (some ⟨Bl, 0, none⟩), .pointer (some ⟨Bm, 0, none⟩), .pointer (some ⟨Bt, 0, none⟩)] w fun e w' =>
      e = .returned (.bool (sqs m low left).isSome) ∧ SqInv Bm Bl Bt many (xs ++ (sqs m low left).getD []) w' ∧ Below Bm w w'
def SqYes (Bm Bl Bt : Nat) (many x left : Int) (xs res : List Int) : Prop := ∀ w : World, SqInv Bm Bl Bt many (xs ++ [x]) w →
    Calls Try.prog 69 #[.int .i64 x, .int .i64 (left - x * x), .pointer (some ⟨Bl, 0, none⟩), .pointer (some ⟨Bm, 0, none⟩), .pointer (some ⟨Bt, 0, none⟩)] w fun e w' =>
      e = .returned (.bool true) ∧ SqInv Bm Bl Bt many (xs ++ x :: res) w' ∧ Below Bm w w'
def SqNo (Bm Bl Bt : Nat) (many x left : Int) (xs : List Int) : Prop := ∀ w : World, SqInv Bm Bl Bt many (xs ++ [x]) w →
    Calls Try.prog 69 #[.int .i64 x, .int .i64 (left - x * x), .pointer (some ⟨Bl, 0, none⟩), .pointer (some ⟨Bm, 0, none⟩), .pointer (some ⟨Bt, 0, none⟩)] w fun e w' =>
      e = .returned (.bool false) ∧ (∃ g c, w'.heap[Bl]? = some (.cells #[.slice (some ⟨g, 0, none⟩) (xs.length + 1) c] 22 (0, 0)) ∧ xs.length + 1 ≤ c ∧ c ≤ 9223372036854775807 ∧ SqInv Bm Bl Bt many (xs ++ [x]) w') ∧ Below Bm w w'
theorem sq_yes {Bm Bl Bt : Nat} {many : Int} {m : Nat} (IH : SqSays Bm Bl Bt many m) {x left : Int} {xs res : List Int} (hm : (xs.length : Int) + (m + 1) + 1 = many) (h0 : 0 ≤ x) (h1 : x ≤ 5000) (h2 : x * x ≤ left) (h3 : left ≤ 5000) (hs : sqs m x (left - x * x) = some res) : SqYes Bm Bl Bt many x left xs res := by
  intro w hw
  have := IH x (left - x * x) (xs ++ [x]) w hw (by simp; omega) h0 h1 (by omega) (by have := sq_nonneg x; omega)
  rw [hs] at this
  simpa using this
theorem sq_no {Bm Bl Bt : Nat} {many : Int} {m : Nat} (IH : SqSays Bm Bl Bt many m) {x left : Int} {xs : List Int} (hm : (xs.length : Int) + (m + 1) + 1 = many) (h0 : 0 ≤ x) (h1 : x ≤ 5000) (h2 : x * x ≤ left) (h3 : left ≤ 5000) (hs : sqs m x (left - x * x) = none) : SqNo Bm Bl Bt many x left xs := by
  intro w hw
  have := IH x (left - x * x) (xs ++ [x]) w hw (by simp; omega) h0 h1 (by omega) (by have := sq_nonneg x; omega)
  rw [hs] at this
  refine this.mono ?_
  rintro e w' ⟨he, hi, hb⟩
  simp only [Option.getD_none, List.append_nil] at hi
  refine ⟨by simpa using he, ?_, hb⟩
  have hi0 := hi
  obtain ⟨v, hv, _, _, hown⟩ := hi
  obtain ⟨g, c, rfl, _⟩ := hown.form (by simp)
  refine ⟨g, c, by simpa using hv, ?_, ?_, hi0⟩
  · rcases hown.2 with ⟨h', _⟩ | ⟨g', cap', cur, h', _, _, hn, hc, _⟩
    · cases h'
    · simp only [Value.slice.injEq, true_and] at h'; obtain ⟨_, rfl⟩ := h'; simpa using hn
  · rcases hown.2 with ⟨h', _⟩ | ⟨g', cap', cur, h', _, _, hn, hc, _⟩
    · cases h'
    · simp only [Value.slice.injEq, true_and] at h'; obtain ⟨_, rfl⟩ := h'; simpa [maxLen] using hc
theorem sq_cellT {Bm Bt : Nat} {xs : List Int} {W w1 : World} {v u : Value} (ht : W.heap[Bt]? = some (.cells #[u] 42 (0, 0))) (hown : W.ownsRow (Bm + 1) 3 1 v xs.length (nums .i64 xs)) (hg : W.grownBy w1 v.ownBlock) :
    w1.cell? ⟨Bt, 0, none⟩ = some u := by
  have hl : xs.length = (nums .i64 xs).length := (nums_length _ _).symm
  have nl := sq_apart (by rw [← hl]; exact hown) ht (by decide)
  exact cell_of_one ((hg.block Bt (lt_of_block ht) (fun e => nl e.symm)).trans ht)
set_option maxHeartbeats 4000000 in
set_option maxRecDepth 100000 in
theorem sq_step (Bm Bl Bt : Nat) (many : Int) (hM : many ≤ 4) (hlt : Bm < Bl) (hlt2 : Bm < Bt) (m : Nat) (IH : SqSays Bm Bl Bt many m) : SqSays Bm Bl Bt many (m + 1) := by
  intro low left xs w h hm h0 hL hl0 hl
  have hi := h
  obtain ⟨v, hv, hmn, ht, hown⟩ := h
  obtain ⟨A, c, rfl⟩ := own_slice hown
  have cL := cell_of_one hv
  have fL := free_of_one hv
  have cM := cell_of_one hmn
  have e1 : (((xs.length : Nat) : Int) == many - 1) = false := by rw [beq_eq_false_iff_ne]; omega
  have hxl : xs.length ≤ 3 := by omega
  have hM1 : 1 ≤ many := by omega
  have HI := sq_hide hi
  have HX0 : Hid (¬ Bt = Bl) := sq_hide (fun e => by subst e; rw [hv] at ht; simp at ht)
  have HE := sq_hide hm
  have HIH := sq_hide IH
  clear hi hv hmn ht hown hm IH
  go_enter Try.func69, Try.ntmps69
  go_wp2
  clear cL fL cM
  go_loopw [10] (fun x wr => ∃ xi : Int, x = .int .i64 xi ∧ low ≤ xi ∧ Hid (xi ≤ left + 1 ∨ xi = low) ∧ Hid (SqInv Bm Bl Bt many xs wr) ∧ Hid (sqs (m + 1) low left = sqFrom (fun x => sqs m x (left - x * x)) (m + 2) left (left + 2 - xi).toNat xi) ∧ Below Bm w wr) (fun x _ => (left + 2 - intOf x).toNat)
  case atStart => exact ⟨low, rfl, Int.le_refl _, sq_hide (.inr rfl), HI, sq_hide rfl, Below.refl _ _⟩
  case round =>
    obtain ⟨xi, rfl, hlx, HX, HW, HF, hB⟩ := hrel
    have hw := HW.out
    obtain ⟨v, hv, hmn, ht, hown⟩ := hw
    obtain ⟨A, c, rfl⟩ := own_slice hown
    have cL := cell_of_one hv
    have fL := free_of_one hv
    have cM := cell_of_one hmn
    have hx5 : xi ≤ 5001 := by rcases HX.out with h | h <;> omega
    have hs := sq_nonneg xi
    have hS := sq_le (show 0 ≤ xi by omega) hx5
    have em : many - (xs.length : Int) = m + 2 := by have := HE.out; omega
    have hmm : (m : Int) + 2 ≤ 4 := by have := HE.out; omega
    have hp0 : 0 ≤ xi * xi * (m + 2) := Int.mul_nonneg hs (by omega)
    have hp1 : xi * xi * (m + 2) ≤ 25010001 * 4 := mul_le2 hs (by omega) (by omega) hmm
    have w1 : wrap64 (xi * xi) = xi * xi := w64 (by omega) (by omega)
    have w2 : wrap64 (many - (xs.length : Int)) = m + 2 := by rw [em]; exact w64 (by omega) (by omega)
    have w3 : wrap64 (xi * xi * (m + 2)) = xi * xi * (m + 2) := w64 (by omega) (by omega)
    have HV := sq_hide hv
    have HM := sq_hide hmn
    have HT := sq_hide ht
    have HO := sq_hide hown
    have HBB : Hid (Bm + 1 ≤ wr.heap.size) := sq_hide (lt_of_block hmn)
    have H88 : Hid ((xs.length + 1) * 8 ≤ 140737488355328) := sq_hide (by omega)
    clear hv hmn ht hown hS hp0 hp1
    by_cases c1 : xi * xi * (m + 2) ≤ left
    · have hbd := sq_bound (c := (m : Int) + 2) (by omega) (by omega) c1
      have c1b : decide (xi * xi * ((m : Int) + 2) ≤ left) = true := decide_eq_true c1
      have C1 := sq_hide c1
      clear c1
      have w4 : wrap64 (left - xi * xi) = left - xi * xi := w64 (by omega) (by omega)
      cases hcase : sqs m xi (left - xi * xi) with
      | some res =>
        have HY := sq_hide (sq_yes HIH.out (xs := xs) (many := many) (x := xi) (left := left) (res := res) HE.out (by omega) (by omega) hbd.1 (by omega) hcase)
        have hfin : sqs (m + 1) low left = some (xi :: res) := by rw [HF.out]; exact sqFrom_hit (by omega) (by omega) C1.out hcase
        have HN := sq_hide hfin
        have hne : ¬ Bt = Bl := HX0.out
        have hne2 : ¬ Bl = Bt := fun h => hne h.symm
        have hxe : xi ≤ left := hbd.2
        clear hcase hfin hbd
        go_wp2_with (first | (at_builtin; refine print_append_num (w0 := wr) (Bm + 1) rfl (.tmp 50) (.tmp 52) 22 3 .i64 8 rfl Try.underlying22 sqInfo (by decide) (.slice A xs.length c) xs xi rfl rfl HO.out (Below.refl _ _) HBB.out H88.out ?_; intro v1 w1 hown1 hB1 hg1 hat1; clear hat1; obtain ⟨A1, k1, rfl⟩ := own_slice hown1; have HV1 := sq_hide (sq_push (hg := hg1) (hv := by exact HV.out) (hmn := by exact HM.out) (ht := by exact HT.out) (hown := by exact HO.out) (hown1 := hown1)); obtain ⟨cL1, fL1⟩ := sq_same (hg := hg1) (hv := by exact HV.out) (hown := by exact HO.out); have cT1 := sq_cellT (u := .func (.func 69) #[] #[.pointer (some ⟨Bl, 0, none⟩), .pointer (some ⟨Bm, 0, none⟩), .pointer (some ⟨Bt, 0, none⟩)]) (xs := xs) (W := wr) (v := .slice A xs.length c) HT.out HO.out hg1; clear hown1 hg1 cL fL) | (go_at_call 69; refine (HY.out _ (by simpa using HV1.out)).mono ?_; rintro e w2 ⟨rfl, hI2, hB2⟩; have HI2 := sq_hide hI2; clear hI2))
        go_ret
        rw [HN.out]
        exact ⟨rfl, by simpa using HI2.out, hB.trans (((hB1.setCell (show Bm + 1 ≤ Bl by omega) _).mono (by omega)).trans (by simpa using hB2))⟩
      | none =>
        have HY := sq_hide (sq_no HIH.out (xs := xs) (many := many) (x := xi) (left := left) HE.out (by omega) (by omega) hbd.1 (by omega) hcase)
        have hfin := (HF.out).trans (sqFrom_next (by omega) (by omega) C1.out hcase)
        have HN := sq_hide hfin
        have hne : ¬ Bt = Bl := HX0.out
        have hne2 : ¬ Bl = Bt := fun h => hne h.symm
        have hxe : xi ≤ left := hbd.2
        clear hcase hfin hbd
        go_wp2_with (first | (at_builtin; refine print_append_num (w0 := wr) (Bm + 1) rfl (.tmp 50) (.tmp 52) 22 3 .i64 8 rfl Try.underlying22 sqInfo (by decide) (.slice A xs.length c) xs xi rfl rfl HO.out (Below.refl _ _) HBB.out H88.out ?_; intro v1 w1 hown1 hB1 hg1 hat1; clear hat1; obtain ⟨A1, k1, rfl⟩ := own_slice hown1; have HV1 := sq_hide (sq_push (hg := hg1) (hv := by exact HV.out) (hmn := by exact HM.out) (ht := by exact HT.out) (hown := by exact HO.out) (hown1 := hown1)); obtain ⟨cL1, fL1⟩ := sq_same (hg := hg1) (hv := by exact HV.out) (hown := by exact HO.out); have cT1 := sq_cellT (u := .func (.func 69) #[] #[.pointer (some ⟨Bl, 0, none⟩), .pointer (some ⟨Bm, 0, none⟩), .pointer (some ⟨Bt, 0, none⟩)]) (xs := xs) (W := wr) (v := .slice A xs.length c) HT.out HO.out hg1; clear hown1 hg1 cL fL) | (go_at_call 69; refine (HY.out _ (by simpa using HV1.out)).mono ?_; rintro e w2 ⟨rfl, ⟨g2, k2, hv2, hk2, hk3, hI2⟩, hB2⟩; have cL2 := cell_of_one hv2; have fL2 := free_of_one hv2; have HI2 := sq_hide hI2; have HV2 := sq_hide hv2; clear hI2 hv2))
        go_roundw
        case rel => exact ⟨xi + 1, by go_num, by omega, sq_hide (.inl (by omega)), sq_hide (by have := sq_drop (y := xi) HI2.out (by simpa using HV2.out); simpa using this), HN, (hB.trans (((hB1.setCell (show Bm + 1 ≤ Bl by omega) _).mono (by omega)).trans (by simpa using hB2))).setCell (show Bm ≤ Bl by omega) _⟩
        case measure => simp [intOf]; omega
    · have c1b : decide (xi * xi * ((m : Int) + 2) ≤ left) = false := decide_eq_false c1
      have hfin : sqs (m + 1) low left = none := by rw [HF.out]; exact sqFrom_stop _ c1
      have HN := sq_hide hfin
      clear c1 hfin
      go_wp2
      go_ret
      rw [HN.out]
      exact ⟨rfl, by simpa using HW.out, hB⟩
theorem sq_all (Bm Bl Bt : Nat) (many : Int) (hM : many ≤ 4) (hlt : Bm < Bl) (hlt2 : Bm < Bt) : ∀ m, SqSays Bm Bl Bt many m
  | 0 => fun low left xs w h hm h0 hL hl0 hl => sq_base Bm Bl Bt many low left xs w h (by simpa using hm) hM h0 hL hl0 hl hlt hlt2
  | m + 1 => sq_step Bm Bl Bt many hM hlt hlt2 m (sq_all Bm Bl Bt many hM hlt hlt2 m)
theorem sq_start (w : World) (a1 : Int) : SqInv w.heap.size (w.heap.size + 1 + 1) (w.heap.size + 1 + 1 + 1) a1 []
    ((((w.alloc (.cells #[.int .i64 a1] 3)).alloc (.cells #[] 3)).alloc (.cells #[.slice (some ⟨w.heap.size + 1, 0, none⟩) 0 0] 22)).alloc
      (.cells #[.func (.func 69) #[] #[.pointer (some ⟨w.heap.size + 1 + 1, 0, none⟩), .pointer (some ⟨w.heap.size, 0, none⟩), .pointer (some ⟨w.heap.size + 1 + 1 + 1, 0, none⟩)]] 42)) := by
  refine ⟨.slice (some ⟨w.heap.size + 1, 0, none⟩) 0 0, ?_, ?_, ?_, by simp [nums], .inr ⟨w.heap.size + 1, 0, #[], rfl, Nat.le_refl _, ?_, Nat.le_refl _, by simp [maxLen], by simp, by simp [nums]⟩⟩
  · refine (Below.heap_alloc _ _ _ (by simp)).trans ?_
    simpa using heap_alloc_new ((w.alloc (.cells #[.int .i64 a1] 3)).alloc (.cells #[] 3)) (.cells #[.slice (some ⟨w.heap.size + 1, 0, none⟩) 0 0] 22)
  · refine (Below.heap_alloc _ _ _ (by simp <;> omega)).trans ((Below.heap_alloc _ _ _ (by simp <;> omega)).trans ((Below.heap_alloc _ _ _ (by simp)).trans ?_))
    exact heap_alloc_new w _
  · simpa using heap_alloc_new (((w.alloc (.cells #[.int .i64 a1] 3)).alloc (.cells #[] 3)).alloc (.cells #[.slice (some ⟨w.heap.size + 1, 0, none⟩) 0 0] 22)) (.cells #[.func (.func 69) #[] #[.pointer (some ⟨w.heap.size + 1 + 1, 0, none⟩), .pointer (some ⟨w.heap.size, 0, none⟩), .pointer (some ⟨w.heap.size + 1 + 1 + 1, 0, none⟩)]] 42)
  · refine (Below.heap_alloc _ _ _ (by simp <;> omega)).trans ((Below.heap_alloc _ _ _ (by simp)).trans ?_)
    simpa using heap_alloc_new (w.alloc (.cells #[.int .i64 a1] 3)) (.cells #[] 3)
/-- squaresOf, as it is asked here: of 1 to 4 squares. -/
def impl_squaresOf.f (a0 : Int) (a1 : Int) : Option (List Int × Bool) :=
  if 1 ≤ a1 ∧ a1 ≤ 4 then (if a0 < 0 ∨ a0 > 2000 then some ([], false) else match sqs (a1 - 1).toNat 0 a0 with | some r => some (r, true) | none => some ([], false)) else none
set_option maxHeartbeats 4000000 in
set_option maxRecDepth 100000 in
theorem impl_squaresOf.calls (a0 : Int) (a1 : Int) (r1 : List Int) (r2 : Bool) (w : World) (h : impl_squaresOf.f a0 a1 = some (r1, r2)) :
    Calls Try.prog 37 #[.int .i64 a0, .int .i64 a1] w fun e w' => ∃ v0_ : Value, e = .returned (.tuple #[v0_, .bool r2]) ∧ Kd.R (Kd.int .i64) 3 w' w.heap.size (fun _ => True) v0_ r1 ∧ Below w.heap.size w w' := by
  unfold impl_squaresOf.f at h
  by_cases hm : 1 ≤ a1 ∧ a1 ≤ 4
  · rw [if_pos hm] at h
    obtain ⟨hm1, hm4⟩ := hm
    by_cases hlo : a0 < 0
    · rw [if_pos (.inl hlo)] at h
      have h1 : decide (a0 < 0) = true := decide_eq_true hlo
      simp only [Option.some.injEq, Prod.mk.injEq] at h
      obtain ⟨rfl, rfl⟩ := h
      clear hlo
      go_enter Try.func37, Try.ntmps37
      go_wp2
      go_ret2
      exact ⟨_, rfl, Kd.R_nil _ _ _ _ _, (Below.refl _ _).alloc (Nat.le_refl _) _⟩
    · by_cases hhi : a0 > 2000
      · rw [if_pos (.inr hhi)] at h
        have h1 : decide (a0 < 0) = false := decide_eq_false hlo
        have h2 : decide (2000 < a0) = true := decide_eq_true hhi
        simp only [Option.some.injEq, Prod.mk.injEq] at h
        obtain ⟨rfl, rfl⟩ := h
        clear hlo hhi
        go_enter Try.func37, Try.ntmps37
        go_wp2
        go_ret2
        exact ⟨_, rfl, Kd.R_nil _ _ _ _ _, (Below.refl _ _).alloc (Nat.le_refl _) _⟩
      · rw [if_neg (by omega)] at h
        have h1 : decide (a0 < 0) = false := decide_eq_false hlo
        have h2 : decide (2000 < a0) = false := decide_eq_false hhi
        have hs := sq_all w.heap.size (w.heap.size + 1 + 1) (w.heap.size + 1 + 1 + 1) a1 hm4 (by omega) (by omega) (a1 - 1).toNat 0 a0 [] _ (sq_start w a1) (by simp <;> omega) (by omega) (by omega) (by omega) (by omega)
        simp only [List.nil_append] at hs
        clear hlo hhi hm1 hm4
        cases hq : sqs (a1 - 1).toNat 0 a0 with
        | none =>
          rw [hq] at hs h
          simp only [Option.some.injEq, Prod.mk.injEq] at h
          obtain ⟨rfl, rfl⟩ := h
          simp only [Option.isSome_none] at hs
          have HS := sq_hide hs
          clear hs hq
          go_enter Try.func37, Try.ntmps37
          go_wp2_with (go_at_call 69; refine HS.out.mono ?_; rintro e w2 ⟨rfl, hI2, hB2⟩; clear hI2)
          go_ret2
          exact ⟨_, rfl, Kd.R_nil _ _ _ _ _, (((((Below.refl _ w).alloc (Nat.le_refl _) _).alloc (by simp) _).alloc (by simp <;> omega) _).alloc (by simp <;> omega) _).trans (by simpa using hB2)⟩
        | some r =>
          rw [hq] at hs h
          simp only [Option.some.injEq, Prod.mk.injEq] at h
          obtain ⟨rfl, rfl⟩ := h
          simp only [Option.isSome_some, Option.getD_some] at hs
          have HS := sq_hide hs
          clear hs hq
          go_enter Try.func37, Try.ntmps37
          go_wp2_with (go_at_call 69; refine HS.out.mono ?_; rintro e w2 ⟨rfl, ⟨v2, hv2, _, _, hown2⟩, hB2⟩; obtain ⟨A2, k2, rfl⟩ := own_slice hown2; have cL2 := cell_of_one hv2; clear hv2)
          go_ret2
          exact ⟨_, rfl, Kd.R_of_own (own_weaken hown2 (Nat.le_succ _)) (fun _ _ => trivial), (((((Below.refl _ w).alloc (Nat.le_refl _) _).alloc (by simp) _).alloc (by simp <;> omega) _).alloc (by simp <;> omega) _).trans (by simpa using hB2)⟩
  · rw [if_neg hm] at h; cases h

end

/-! ### impl_FourFind: function 17 -/
def impl_FourFind.f (a0 : Int) : Option (List Int × Bool) := (impl_squaresOf.f a0 4).bind fun bt114 => (some (bt114.1, bt114.2))
set_option maxHeartbeats 8000000 in
set_option maxRecDepth 100000 in
theorem impl_FourFind.calls (a0 : Int) (r1 : List Int) (r2 : Bool) (w : World) (h : impl_FourFind.f a0 = some (r1, r2)) :
    Calls Try.prog 17 #[.int .i64 a0] w fun e w' => ∃ v0_ : Value, e = .returned (.tuple #[v0_, .bool r2]) ∧ Kd.R (Kd.int .i64) 3 w' w.heap.size (fun _ => True) v0_ r1 ∧ Below w.heap.size w w' := by
  have HB := Aside0.mk (Below.refl w.heap.size w)
  have H : ((impl_squaresOf.f a0 4).bind fun bt114 => (some (bt114.1, bt114.2))) = some (r1, r2) := h
  clear h
  replace H := Option.bind_eq_some_iff.mp H
  obtain ⟨⟨t114, t115⟩, A20, H⟩ := H
  replace H : (some (t114, t115)) = some (r1, r2) := H
  have A2 := Aside0.mk A20
  clear A20
  simp only [Option.some.injEq, Prod.mk.injEq] at H
  obtain ⟨rfl, rfl⟩ := H
  go_enter Try.func17, Try.ntmps17
  go_wp2_with (first | ((with_reducible refine gate_callee (f := 37) rfl ?_); refine goesL_ (some 5) rfl rfl Try.func37 (by kernel_rfl) rfl #[.int .i64 a0, .int .i64 4] rfl (by (try simp only [List.map_toArray, List.map_cons, List.map_nil]); first | done | rfl | (simp only [List.length_drop, List.length_take]; rfl)) ?_; (with_reducible refine (impl_squaresOf.calls a0 4 t114 t115 _ A2.out).mono ?_); rintro e w3 ⟨v116, rfl, ho0, hb⟩; refine ⟨_, rfl, ?_⟩; have n0_ := Aside0.mk (Kd.R_lower ho0 (below_size (by repeat (first | (with_reducible first | exact HB.out | apply below_alloc | apply pw_below_drewN | apply below_drew1) | exact HB.out)))); have n1_ := Aside0.mk (below_step (by repeat (first | (with_reducible first | exact HB.out | apply below_alloc | apply pw_below_drewN | apply below_drew1) | exact HB.out)) hb); clear HB; have HO117 := n0_; have HB := n1_; clear n0_ n1_; (try clear hb); (try clear hb2); (try clear hk); (try clear hi); (try clear ho0)))
  go_ret2
  exact ⟨_, by first | rfl | (simp [errW_none, errW_some] <;> rfl) | (simp [*, errW_none, errW_some] <;> rfl), by (with_reducible repeat (first | apply Kd.R_alloc | apply Kd.R_drewN | apply Kd.R_drew)); exact HO117.out, by repeat (first | (with_reducible first | exact HB.out | apply below_alloc | apply pw_below_drewN | apply below_drew1) | exact HB.out)⟩

/-! ### laws_FnExactFourFind: function 4 -/
mutual
def laws_FnExactFourFind.j0 : Nat → Int → List Int → Bool → List Int → Bool → Option (Bool)
  | 0, _, _, _, _, _ => none
  | k + 1, x0, x3, x4, x5, x29 => if x29 = true then (some false) else ((laws_markIntS.f k x5 1).bind fun bt127 => ((laws_heldIntS.f k bt127.2 1).bind fun t129 => (if t129 < 0 then (some false) else (if t129 = bt127.1 then ((impl_FourFind.f x0).bind fun bt130 => ((laws_eqIntS.f k bt130.1 x3).bind fun t134 => (if t134 = true then (laws_FnExactFourFind.j1 k bt127.2 bt127.1 (bt130.2 != x4)) else (laws_FnExactFourFind.j1 k bt127.2 bt127.1 true)))) else (some false)))))
def laws_FnExactFourFind.j1 : Nat → List Int → Int → Bool → Option (Bool)
  | 0, _, _, _ => none
  | k + 1, x5, x7, x54 => if x54 = true then (some false) else ((laws_heldIntS.f k x5 1).bind fun t135 => (if t135 < 0 then (some false) else (if t135 = x7 then (some true) else (some false))))
end
def laws_FnExactFourFind.f (k : Nat) (a0 : Int) : Option (Bool) := (spec_FourFind.f k a0).bind fun bt118 => ((impl_FourFind.f a0).bind fun bt122 => ((laws_eqIntS.f k bt122.1 bt118.1).bind fun t126 => (if t126 = true then (laws_FnExactFourFind.j0 k a0 bt118.1 bt118.2 bt122.1 (bt122.2 != bt118.2)) else (laws_FnExactFourFind.j0 k a0 bt118.1 bt118.2 bt122.1 true))))
set_option maxHeartbeats 8000000 in
set_option maxRecDepth 100000 in
theorem laws_FnExactFourFind.calls (k : Nat) (a0 : Int) (r : Bool) (w : World) (h : laws_FnExactFourFind.f k a0 = some r) :
    Calls Try.prog 4 #[.int .i64 a0] w fun e w' => e = .returned (.bool r) ∧ Below w.heap.size w w' := by
  have HB := Aside0.mk (Below.refl w.heap.size w)
  have H : ((spec_FourFind.f k a0).bind fun bt118 => ((impl_FourFind.f a0).bind fun bt122 => ((laws_eqIntS.f k bt122.1 bt118.1).bind fun t126 => (if t126 = true then (laws_FnExactFourFind.j0 k a0 bt118.1 bt118.2 bt122.1 (bt122.2 != bt118.2)) else (laws_FnExactFourFind.j0 k a0 bt118.1 bt118.2 bt122.1 true))))) = some r := h
  clear h
  replace H := Option.bind_eq_some_iff.mp H
  obtain ⟨⟨t118, t119⟩, A20, H⟩ := H
  replace H : ((impl_FourFind.f a0).bind fun bt122 => ((laws_eqIntS.f k bt122.1 t118).bind fun t126 => (if t126 = true then (laws_FnExactFourFind.j0 k a0 t118 t119 bt122.1 (bt122.2 != t119)) else (laws_FnExactFourFind.j0 k a0 t118 t119 bt122.1 true)))) = some r := H
  have A2 := Aside0.mk A20
  clear A20
  replace H := Option.bind_eq_some_iff.mp H
  obtain ⟨⟨t122, t123⟩, A30, H⟩ := H
  replace H : ((laws_eqIntS.f k t122 t118).bind fun t126 => (if t126 = true then (laws_FnExactFourFind.j0 k a0 t118 t119 t122 (t123 != t119)) else (laws_FnExactFourFind.j0 k a0 t118 t119 t122 true))) = some r := H
  have A3 := Aside0.mk A30
  clear A30
  have HC4 := Aside0.mk H
  clear H
  go_enter Try.func4, Try.ntmps4
  go_upto_region 3 with (first | ((with_reducible refine gate_callee (f := 16) rfl ?_); refine goesL_ (some 13) rfl rfl Try.func16 (by kernel_rfl) rfl #[.int .i64 a0] rfl (by (try simp only [List.map_toArray, List.map_cons, List.map_nil]); first | done | rfl | (simp only [List.length_drop, List.length_take]; rfl)) ?_; (with_reducible refine (spec_FourFind.calls k a0 t118 t119 _ A2.out).mono ?_); rintro e w5 ⟨v120, rfl, ho0, hb⟩; refine ⟨_, rfl, ?_⟩; have n0_ := Aside0.mk (Kd.R_lower ho0 (below_size (by repeat (first | (with_reducible first | exact HB.out | apply below_alloc | apply pw_below_drewN | apply below_drew1) | exact HB.out)))); have n1_ := Aside0.mk (below_step (by repeat (first | (with_reducible first | exact HB.out | apply below_alloc | apply pw_below_drewN | apply below_drew1) | exact HB.out)) hb); clear HB; have HO121 := n0_; have HB := n1_; clear n0_ n1_; (try clear hb); (try clear hb2); (try clear hk); (try clear hi); (try clear ho0)) | ((with_reducible refine gate_callee (f := 17) rfl ?_); refine goesL_ (some 18) rfl rfl Try.func17 (by kernel_rfl) rfl #[.int .i64 a0] rfl (by (try simp only [List.map_toArray, List.map_cons, List.map_nil]); first | done | rfl | (simp only [List.length_drop, List.length_take]; rfl)) ?_; (with_reducible refine (impl_FourFind.calls a0 t122 t123 _ A3.out).mono ?_); rintro e w6 ⟨v124, rfl, ho0, hb⟩; refine ⟨_, rfl, ?_⟩; have n0_ := Aside0.mk (Kd.R_elder' (by (with_reducible repeat (first | apply Kd.R_alloc | apply Kd.R_drewN | apply Kd.R_drew)); exact HO121.out) (Kd.R_base ho0) hb); have n1_ := Aside0.mk (Kd.R_lower (Kd.R_new' ho0 (Kd.R_lt (by (with_reducible repeat (first | apply Kd.R_alloc | apply Kd.R_drewN | apply Kd.R_drew)); exact HO121.out))) (below_size (by repeat (first | (with_reducible first | exact HB.out | apply below_alloc | apply pw_below_drewN | apply below_drew1) | exact HB.out)))); have n2_ := Aside0.mk (below_step (by repeat (first | (with_reducible first | exact HB.out | apply below_alloc | apply pw_below_drewN | apply below_drew1) | exact HB.out)) hb); clear HO121; clear HB; have HO121 := n0_; have HO125 := n1_; have HB := n2_; clear n0_ n1_ n2_; (try clear hb); (try clear hb2); (try clear hk); (try clear hi); (try clear ho0)))
  (try simp only [Act.put, List.setIfInBounds_toArray, List.set_cons_zero, List.set_cons_succ])
  go_cut [29] (fun v29 wc => ∃ (kq : Nat) (x29_3 : Bool), v29 = .bool x29_3 ∧ Aside0 (laws_FnExactFourFind.j0 kq a0 t118 t119 t122 x29_3 = some r) ∧ Aside0 (kq ≤ k) ∧ Aside0 (Kd.R (Kd.int .i64) 3 wc w.heap.size (fun k_ => some k_ ≠ (v124 : Value).ownBlock) v120 t118) ∧ Aside0 (Kd.R (Kd.int .i64) 3 wc w.heap.size (fun k_ => some k_ ≠ (v120 : Value).ownBlock) v124 t122) ∧ Aside0 (Below w.heap.size w wc))
  case first =>
    have H := HC4.out
    clear HC4
    replace H := Option.bind_eq_some_iff.mp H
    obtain ⟨t126, A70, H⟩ := H
    replace H : (if t126 = true then (laws_FnExactFourFind.j0 k a0 t118 t119 t122 (t123 != t119)) else (laws_FnExactFourFind.j0 k a0 t118 t119 t122 true)) = some r := H
    have A7 := Aside0.mk A70
    clear A70
    by_cases c8 : t126 = true
    · subst c8
      have H1 : (laws_FnExactFourFind.j0 k a0 t118 t119 t122 (t123 != t119)) = some r := by rw [if_pos rfl] at H; exact H
      clear H
      have H := H1
      clear H1
      have H' := Aside0.mk H
      clear H
      obtain ⟨Ao9, co9, eo9⟩ := Kd.R_slice HO125.out
      subst eo9
      obtain ⟨Ao10, co10, eo10⟩ := Kd.R_slice HO121.out
      subst eo10
      go_wp2_with (first | ((with_reducible refine gate_callee (f := 13) rfl ?_); refine goesL_ (some 23) rfl rfl Try.func13 (by kernel_rfl) rfl #[.slice Ao9 t122.length co9, .slice Ao10 t118.length co10] rfl (by (try simp only [List.map_toArray, List.map_cons, List.map_nil]); first | done | rfl | (simp only [List.length_drop, List.length_take]; rfl)) ?_; (with_reducible refine (laws_eqIntS.calls k _ _ t122 _ _ t118 true _ ?side1 ?side2 ?side3 ?side4 A7.out).mono ?_); (case side1 => repeat (first | exact (Kd.R_reads' HO125.out).2.2 | (with_reducible refine Kd.C_alloc ?_ _) | (with_reducible refine Kd.C_drewN ?_ _) | (with_reducible refine Kd.C_drew ?_))); (case side2 => exact (Kd.R_reads' HO125.out).2.1); (case side3 => repeat (first | exact (Kd.R_reads' HO121.out).2.2 | (with_reducible refine Kd.C_alloc ?_ _) | (with_reducible refine Kd.C_drewN ?_ _) | (with_reducible refine Kd.C_drew ?_))); (case side4 => exact (Kd.R_reads' HO121.out).2.1); rintro e w' ⟨rfl, ⟨nd, rfl⟩⟩; refine ⟨_, rfl, ?_⟩))
      go_meet
      case rel => exact ⟨_, ((t123 != t119)), (by first | rfl | (simp; done) | (simp [*]; done)), H', ⟨by first | omega | exact Nat.le_refl _⟩, ⟨by (with_reducible repeat (first | apply Kd.R_alloc | apply Kd.R_drewN | apply Kd.R_drew)); exact Kd.R_mono HO121.out (fun _ hk => hk.2)⟩, ⟨by (with_reducible repeat (first | apply Kd.R_alloc | apply Kd.R_drewN | apply Kd.R_drew)); exact Kd.R_mono HO125.out (fun _ hk => hk.2)⟩, ⟨by repeat (first | (with_reducible first | exact HB.out | apply below_alloc | apply pw_below_drewN | apply below_drew1) | exact HB.out)⟩⟩
    · replace c8 := Bool.eq_false_iff.mpr c8
      subst c8
      have H1 : (laws_FnExactFourFind.j0 k a0 t118 t119 t122 true) = some r := by rw [if_neg (show ¬ (false = true) by decide)] at H; exact H
      clear H
      have H := H1
      clear H1
      have H' := Aside0.mk H
      clear H
      obtain ⟨Ao11, co11, eo11⟩ := Kd.R_slice HO125.out
      subst eo11
      obtain ⟨Ao12, co12, eo12⟩ := Kd.R_slice HO121.out
      subst eo12
      go_wp2_with (first | ((with_reducible refine gate_callee (f := 13) rfl ?_); refine goesL_ (some 23) rfl rfl Try.func13 (by kernel_rfl) rfl #[.slice Ao11 t122.length co11, .slice Ao12 t118.length co12] rfl (by (try simp only [List.map_toArray, List.map_cons, List.map_nil]); first | done | rfl | (simp only [List.length_drop, List.length_take]; rfl)) ?_; (with_reducible refine (laws_eqIntS.calls k _ _ t122 _ _ t118 false _ ?side1 ?side2 ?side3 ?side4 A7.out).mono ?_); (case side1 => repeat (first | exact (Kd.R_reads' HO125.out).2.2 | (with_reducible refine Kd.C_alloc ?_ _) | (with_reducible refine Kd.C_drewN ?_ _) | (with_reducible refine Kd.C_drew ?_))); (case side2 => exact (Kd.R_reads' HO125.out).2.1); (case side3 => repeat (first | exact (Kd.R_reads' HO121.out).2.2 | (with_reducible refine Kd.C_alloc ?_ _) | (with_reducible refine Kd.C_drewN ?_ _) | (with_reducible refine Kd.C_drew ?_))); (case side4 => exact (Kd.R_reads' HO121.out).2.1); rintro e w' ⟨rfl, ⟨nd, rfl⟩⟩; refine ⟨_, rfl, ?_⟩))
      go_meet
      case rel => exact ⟨_, (true), (by first | rfl | (simp; done) | (simp [*]; done)), H', ⟨by first | omega | exact Nat.le_refl _⟩, ⟨by (with_reducible repeat (first | apply Kd.R_alloc | apply Kd.R_drewN | apply Kd.R_drew)); exact Kd.R_mono HO121.out (fun _ hk => hk.2)⟩, ⟨by (with_reducible repeat (first | apply Kd.R_alloc | apply Kd.R_drewN | apply Kd.R_drew)); exact Kd.R_mono HO125.out (fun _ hk => hk.2)⟩, ⟨by repeat (first | (with_reducible first | exact HB.out | apply below_alloc | apply pw_below_drewN | apply below_drew1) | exact HB.out)⟩⟩
  case rest =>
    clear HC4
    try clear c1
    try clear p2
    try clear c4
    try clear c8
    obtain ⟨kq, x29_3, rfl, HA, HJ3, HO_3, HO_5, HB⟩ := hcut
    cases kq with
    | zero => exact absurd HA.out (by simp [laws_FnExactFourFind.j0])
    | succ kj3 =>
      have H := HA.out
      clear HA
      simp only [laws_FnExactFourFind.j0] at H
      by_cases c13 : x29_3 = true
      · subst c13
        have H1 : (some false) = some r := by rw [if_pos rfl] at H; exact H
        clear H
        have H := H1
        clear H1
        obtain rfl := Option.some.inj H
        go_wp2
        go_ret
        exact ⟨by first | rfl | (simp [errW_none, errW_some] <;> rfl) | (simp [*, errW_none, errW_some] <;> rfl), by repeat (first | (with_reducible first | exact HB.out | apply below_alloc | apply pw_below_drewN | apply below_drew1) | exact HB.out)⟩
      · replace c13 := Bool.eq_false_iff.mpr c13
        subst c13
        have H1 : ((laws_markIntS.f kj3 t122 1).bind fun bt127 => ((laws_heldIntS.f kj3 bt127.2 1).bind fun t129 => (if t129 < 0 then (some false) else (if t129 = bt127.1 then ((impl_FourFind.f a0).bind fun bt130 => ((laws_eqIntS.f kj3 bt130.1 t118).bind fun t134 => (if t134 = true then (laws_FnExactFourFind.j1 kj3 bt127.2 bt127.1 (bt130.2 != t119)) else (laws_FnExactFourFind.j1 kj3 bt127.2 bt127.1 true)))) else (some false))))) = some r := by rw [if_neg (show ¬ (false = true) by decide)] at H; exact H
        clear H
        have H := H1
        clear H1
        replace H := Option.bind_eq_some_iff.mp H
        obtain ⟨⟨t127, t128⟩, A140, H⟩ := H
        replace H : ((laws_heldIntS.f kj3 t128 1).bind fun t129 => (if t129 < 0 then (some false) else (if t129 = t127 then ((impl_FourFind.f a0).bind fun bt130 => ((laws_eqIntS.f kj3 bt130.1 t118).bind fun t134 => (if t134 = true then (laws_FnExactFourFind.j1 kj3 t128 t127 (bt130.2 != t119)) else (laws_FnExactFourFind.j1 kj3 t128 t127 true)))) else (some false)))) = some r := H
        have A14 := Aside0.mk A140
        clear A140
        replace H := Option.bind_eq_some_iff.mp H
        obtain ⟨t129, A150, H⟩ := H
        replace H : (if t129 < 0 then (some false) else (if t129 = t127 then ((impl_FourFind.f a0).bind fun bt130 => ((laws_eqIntS.f kj3 bt130.1 t118).bind fun t134 => (if t134 = true then (laws_FnExactFourFind.j1 kj3 t128 t127 (bt130.2 != t119)) else (laws_FnExactFourFind.j1 kj3 t128 t127 true)))) else (some false))) = some r := H
        have A15 := Aside0.mk A150
        clear A150
        by_cases c16 : t129 < 0
        · rw [if_pos c16] at H
          have c16b0 : decide (t129 < 0) = true := decide_eq_true c16
          clear c16
          obtain rfl := Option.some.inj H
          obtain ⟨Ao17, co17, eo17⟩ := Kd.R_slice HO_5.out
          subst eo17
          go_wp2_with (first | ((with_reducible refine gate_callee (f := 14) rfl ?_); refine goesL_ (some 32) rfl rfl Try.func14 (by kernel_rfl) rfl #[.slice Ao17 t122.length co17, .int .i64 1] rfl (by (try simp only [List.map_toArray, List.map_cons, List.map_nil]); first | done | rfl | (simp only [List.length_drop, List.length_take]; rfl)) ?_; (with_reducible refine (laws_markIntS.calls kj3 (fun k_ => some k_ = (.slice Ao17 t122.length co17 : Value).ownBlock) (.slice Ao17 t122.length co17) t122 1 t127 t128 w _ ?side1 ?side2 A14.out).mono ?_); (case side1 => repeat (first | (with_reducible first | exact HB.out | apply below_alloc | apply pw_below_drewN | apply below_drew1) | exact HB.out)); (case side2 => exact Kd.R_tight rfl HO_5.out); rintro e w18 ⟨rfl, hy0, hb, hkp⟩; refine ⟨_, rfl, ?_⟩; have n0_ := Aside0.mk (Kd.R_mono (ok' := fun k_ => some k_ ≠ (.slice Ao17 t122.length co17 : Value).ownBlock) (Kd.R_keptB (HO_3.out) hkp (fun k_ hk_ hs_ => (hk_) hs_)) (fun k_ hk_ => hk_.1)); have n1_ := Aside0.mk (Kd.R_reok rfl hy0 (fun k_ e_ => HO_5.out.1 k_ e_)); have n2_ := Aside0.mk (hb); clear HO_3; clear HO_5; clear HB; have HO_3 := n0_; have HO_5 := n1_; have HB := n2_; clear n0_ n1_ n2_; (try clear hb); (try clear hkp); (try clear hy0)) | ((with_reducible refine gate_callee (f := 15) rfl ?_); refine goesL_ (some 35) rfl rfl Try.func15 (by kernel_rfl) rfl #[.slice Ao17 t128.length co17, .int .i64 1] rfl (by (try simp only [List.map_toArray, List.map_cons, List.map_nil]); first | done | (rw [show t128.length = t122.length from (Kd.R_reads' HO_5.out).1.symm] <;> rfl) | rfl | (simp only [List.length_drop, List.length_take]; rfl)) ?_; (with_reducible refine (laws_heldIntS.calls kj3 _ _ t128 1 t129 _ ?side1 ?side2 A15.out).mono ?_); (case side1 => repeat (first | exact (Kd.R_reads' HO_5.out).2.2 | (with_reducible refine Kd.C_alloc ?_ _) | (with_reducible refine Kd.C_drewN ?_ _) | (with_reducible refine Kd.C_drew ?_))); (case side2 => rw [show t128.length = t122.length from (Kd.R_reads' HO_5.out).1.symm]; exact (Kd.R_reads' HO_5.out).2.1); rintro e w' ⟨rfl, ⟨nd, rfl⟩⟩; refine ⟨_, rfl, ?_⟩))
          go_ret
          exact ⟨by first | rfl | (simp [errW_none, errW_some] <;> rfl) | (simp [*, errW_none, errW_some] <;> rfl), by repeat (first | (with_reducible first | exact HB.out | apply below_alloc | apply pw_below_drewN | apply below_drew1) | exact HB.out)⟩
        · rw [if_neg c16] at H
          have c16b0 : decide (t129 < 0) = false := decide_eq_false c16
          clear c16
          by_cases c19 : t129 = t127
          · rw [if_pos c19] at H
            have c19b0 : (t129 == t127) = true := beq_iff_eq.mpr c19
            have c19b1 : (t129 != t127) = false := bne_eq_false_iff_eq.mpr c19
            clear c19
            replace H := Option.bind_eq_some_iff.mp H
            obtain ⟨⟨t130, t131⟩, A200, H⟩ := H
            replace H : ((laws_eqIntS.f kj3 t130 t118).bind fun t134 => (if t134 = true then (laws_FnExactFourFind.j1 kj3 t128 t127 (t131 != t119)) else (laws_FnExactFourFind.j1 kj3 t128 t127 true))) = some r := H
            have A20 := Aside0.mk A200
            clear A200
            have HC21 := Aside0.mk H
            clear H
            obtain ⟨Ao22, co22, eo22⟩ := Kd.R_slice HO_5.out
            subst eo22
            go_upto_region 14 with (first | ((with_reducible refine gate_callee (f := 14) rfl ?_); refine goesL_ (some 32) rfl rfl Try.func14 (by kernel_rfl) rfl #[.slice Ao22 t122.length co22, .int .i64 1] rfl (by (try simp only [List.map_toArray, List.map_cons, List.map_nil]); first | done | rfl | (simp only [List.length_drop, List.length_take]; rfl)) ?_; (with_reducible refine (laws_markIntS.calls kj3 (fun k_ => some k_ = (.slice Ao22 t122.length co22 : Value).ownBlock) (.slice Ao22 t122.length co22) t122 1 t127 t128 w _ ?side1 ?side2 A14.out).mono ?_); (case side1 => repeat (first | (with_reducible first | exact HB.out | apply below_alloc | apply pw_below_drewN | apply below_drew1) | exact HB.out)); (case side2 => exact Kd.R_tight rfl HO_5.out); rintro e w23 ⟨rfl, hy0, hb, hkp⟩; refine ⟨_, rfl, ?_⟩; have n0_ := Aside0.mk (Kd.R_mono (ok' := fun k_ => some k_ ≠ (.slice Ao22 t122.length co22 : Value).ownBlock) (Kd.R_keptB (HO_3.out) hkp (fun k_ hk_ hs_ => (hk_) hs_)) (fun k_ hk_ => hk_.1)); have n1_ := Aside0.mk (Kd.R_reok rfl hy0 (fun k_ e_ => HO_5.out.1 k_ e_)); have n2_ := Aside0.mk (hb); clear HO_3; clear HO_5; clear HB; have HO_3 := n0_; have HO_5 := n1_; have HB := n2_; clear n0_ n1_ n2_; (try clear hb); (try clear hkp); (try clear hy0)) | ((with_reducible refine gate_callee (f := 15) rfl ?_); refine goesL_ (some 35) rfl rfl Try.func15 (by kernel_rfl) rfl #[.slice Ao22 t128.length co22, .int .i64 1] rfl (by (try simp only [List.map_toArray, List.map_cons, List.map_nil]); first | done | (rw [show t128.length = t122.length from (Kd.R_reads' HO_5.out).1.symm] <;> rfl) | rfl | (simp only [List.length_drop, List.length_take]; rfl)) ?_; (with_reducible refine (laws_heldIntS.calls kj3 _ _ t128 1 t129 _ ?side1 ?side2 A15.out).mono ?_); (case side1 => repeat (first | exact (Kd.R_reads' HO_5.out).2.2 | (with_reducible refine Kd.C_alloc ?_ _) | (with_reducible refine Kd.C_drewN ?_ _) | (with_reducible refine Kd.C_drew ?_))); (case side2 => rw [show t128.length = t122.length from (Kd.R_reads' HO_5.out).1.symm]; exact (Kd.R_reads' HO_5.out).2.1); rintro e w' ⟨rfl, ⟨nd, rfl⟩⟩; refine ⟨_, rfl, ?_⟩) | ((with_reducible refine gate_callee (f := 17) rfl ?_); refine goesL_ (some 43) rfl rfl Try.func17 (by kernel_rfl) rfl #[.int .i64 a0] rfl (by (try simp only [List.map_toArray, List.map_cons, List.map_nil]); first | done | rfl | (simp only [List.length_drop, List.length_take]; rfl)) ?_; (with_reducible refine (impl_FourFind.calls a0 t130 t131 _ A20.out).mono ?_); rintro e w24 ⟨v132, rfl, ho0, hb⟩; refine ⟨_, rfl, ?_⟩; have n0_ := Aside0.mk (Kd.R_elder' (by (with_reducible repeat (first | apply Kd.R_alloc | apply Kd.R_drewN | apply Kd.R_drew)); exact HO_3.out) (Kd.R_base ho0) hb); have n1_ := Aside0.mk (Kd.R_elder' (by (with_reducible repeat (first | apply Kd.R_alloc | apply Kd.R_drewN | apply Kd.R_drew)); exact HO_5.out) (Kd.R_base ho0) hb); have n2_ := Aside0.mk (Kd.R_lower (Kd.R_new' (Kd.R_new' ho0 (Kd.R_lt (by (with_reducible repeat (first | apply Kd.R_alloc | apply Kd.R_drewN | apply Kd.R_drew)); exact HO_3.out))) (Kd.R_lt (by (with_reducible repeat (first | apply Kd.R_alloc | apply Kd.R_drewN | apply Kd.R_drew)); exact HO_5.out))) (below_size (by repeat (first | (with_reducible first | exact HB.out | apply below_alloc | apply pw_below_drewN | apply below_drew1) | exact HB.out)))); have n3_ := Aside0.mk (below_step (by repeat (first | (with_reducible first | exact HB.out | apply below_alloc | apply pw_below_drewN | apply below_drew1) | exact HB.out)) hb); clear HO_3; clear HO_5; clear HB; have HO_3 := n0_; have HO_5 := n1_; have HO133 := n2_; have HB := n3_; clear n0_ n1_ n2_ n3_; (try clear hb); (try clear hb2); (try clear hk); (try clear hi); (try clear ho0)))
            (try simp only [Act.put, List.setIfInBounds_toArray, List.set_cons_zero, List.set_cons_succ])
            go_cut [54] (fun v54 wc => ∃ (kq : Nat) (x54_20 : Bool), v54 = .bool x54_20 ∧ Aside0 (laws_FnExactFourFind.j1 kq t128 t127 x54_20 = some r) ∧ Aside0 (kq ≤ kj3) ∧ Aside0 (Kd.R (Kd.int .i64) 3 wc w.heap.size (fun _ => True) (.slice Ao22 t122.length co22) t128) ∧ Aside0 (Below w.heap.size w wc))
            case first =>
              have H := HC21.out
              clear HC21
              replace H := Option.bind_eq_some_iff.mp H
              obtain ⟨t134, A250, H⟩ := H
              replace H : (if t134 = true then (laws_FnExactFourFind.j1 kj3 t128 t127 (t131 != t119)) else (laws_FnExactFourFind.j1 kj3 t128 t127 true)) = some r := H
              have A25 := Aside0.mk A250
              clear A250
              by_cases c26 : t134 = true
              · subst c26
                have H1 : (laws_FnExactFourFind.j1 kj3 t128 t127 (t131 != t119)) = some r := by rw [if_pos rfl] at H; exact H
                clear H
                have H := H1
                clear H1
                have H' := Aside0.mk H
                clear H
                obtain ⟨Ao27, co27, eo27⟩ := Kd.R_slice HO133.out
                subst eo27
                obtain ⟨Ao28, co28, eo28⟩ := Kd.R_slice HO_3.out
                subst eo28
                go_wp2_with (first | ((with_reducible refine gate_callee (f := 13) rfl ?_); refine goesL_ (some 48) rfl rfl Try.func13 (by kernel_rfl) rfl #[.slice Ao27 t130.length co27, .slice Ao28 t118.length co28] rfl (by (try simp only [List.map_toArray, List.map_cons, List.map_nil]); first | done | rfl | (simp only [List.length_drop, List.length_take]; rfl)) ?_; (with_reducible refine (laws_eqIntS.calls kj3 _ _ t130 _ _ t118 true _ ?side1 ?side2 ?side3 ?side4 A25.out).mono ?_); (case side1 => repeat (first | exact (Kd.R_reads' HO133.out).2.2 | (with_reducible refine Kd.C_alloc ?_ _) | (with_reducible refine Kd.C_drewN ?_ _) | (with_reducible refine Kd.C_drew ?_))); (case side2 => exact (Kd.R_reads' HO133.out).2.1); (case side3 => repeat (first | exact (Kd.R_reads' HO_3.out).2.2 | (with_reducible refine Kd.C_alloc ?_ _) | (with_reducible refine Kd.C_drewN ?_ _) | (with_reducible refine Kd.C_drew ?_))); (case side4 => exact (Kd.R_reads' HO_3.out).2.1); rintro e w' ⟨rfl, ⟨nd, rfl⟩⟩; refine ⟨_, rfl, ?_⟩))
                go_meet
                case rel => exact ⟨_, ((t131 != t119)), (by first | rfl | (simp; done) | (simp [*]; done)), H', ⟨by have := HJ3.out; first | omega | exact Nat.le_refl _⟩, ⟨by (with_reducible repeat (first | apply Kd.R_alloc | apply Kd.R_drewN | apply Kd.R_drew)); exact Kd.R_mono HO_5.out (fun _ hk => trivial)⟩, ⟨by repeat (first | (with_reducible first | exact HB.out | apply below_alloc | apply pw_below_drewN | apply below_drew1) | exact HB.out)⟩⟩
              · replace c26 := Bool.eq_false_iff.mpr c26
                subst c26
                have H1 : (laws_FnExactFourFind.j1 kj3 t128 t127 true) = some r := by rw [if_neg (show ¬ (false = true) by decide)] at H; exact H
                clear H
                have H := H1
                clear H1
                have H' := Aside0.mk H
                clear H
                obtain ⟨Ao29, co29, eo29⟩ := Kd.R_slice HO133.out
                subst eo29
                obtain ⟨Ao30, co30, eo30⟩ := Kd.R_slice HO_3.out
                subst eo30
                go_wp2_with (first | ((with_reducible refine gate_callee (f := 13) rfl ?_); refine goesL_ (some 48) rfl rfl Try.func13 (by kernel_rfl) rfl #[.slice Ao29 t130.length co29, .slice Ao30 t118.length co30] rfl (by (try simp only [List.map_toArray, List.map_cons, List.map_nil]); first | done | rfl | (simp only [List.length_drop, List.length_take]; rfl)) ?_; (with_reducible refine (laws_eqIntS.calls kj3 _ _ t130 _ _ t118 false _ ?side1 ?side2 ?side3 ?side4 A25.out).mono ?_); (case side1 => repeat (first | exact (Kd.R_reads' HO133.out).2.2 | (with_reducible refine Kd.C_alloc ?_ _) | (with_reducible refine Kd.C_drewN ?_ _) | (with_reducible refine Kd.C_drew ?_))); (case side2 => exact (Kd.R_reads' HO133.out).2.1); (case side3 => repeat (first | exact (Kd.R_reads' HO_3.out).2.2 | (with_reducible refine Kd.C_alloc ?_ _) | (with_reducible refine Kd.C_drewN ?_ _) | (with_reducible refine Kd.C_drew ?_))); (case side4 => exact (Kd.R_reads' HO_3.out).2.1); rintro e w' ⟨rfl, ⟨nd, rfl⟩⟩; refine ⟨_, rfl, ?_⟩))
                go_meet
                case rel => exact ⟨_, (true), (by first | rfl | (simp; done) | (simp [*]; done)), H', ⟨by have := HJ3.out; first | omega | exact Nat.le_refl _⟩, ⟨by (with_reducible repeat (first | apply Kd.R_alloc | apply Kd.R_drewN | apply Kd.R_drew)); exact Kd.R_mono HO_5.out (fun _ hk => trivial)⟩, ⟨by repeat (first | (with_reducible first | exact HB.out | apply below_alloc | apply pw_below_drewN | apply below_drew1) | exact HB.out)⟩⟩
            case rest =>
              clear HC21
              try clear c1
              try clear c2
              try clear p2
              try clear c4
              try clear c8
              try clear c13
              try clear c14
              try clear c15
              try clear c16
              try clear c16b0
              try clear c17
              try clear c19
              try clear c19b0
              try clear c19b1
              try clear c26
              try clear p2
              obtain ⟨kq, x54_20, rfl, HA, HJ20, HO_5, HB⟩ := hcut
              have hl5_20 := (Kd.R_reads' HO_5.out).1
              rw [hl5_20] at HO_5
              (try simp only [hl5_20])
              cases kq with
              | zero => exact absurd HA.out (by simp [laws_FnExactFourFind.j1])
              | succ kj20 =>
                have H := HA.out
                clear HA
                simp only [laws_FnExactFourFind.j1] at H
                by_cases c31 : x54_20 = true
                · subst c31
                  have H1 : (some false) = some r := by rw [if_pos rfl] at H; exact H
                  clear H
                  have H := H1
                  clear H1
                  obtain rfl := Option.some.inj H
                  go_wp2
                  go_ret
                  exact ⟨by first | rfl | (simp [errW_none, errW_some] <;> rfl) | (simp [*, errW_none, errW_some] <;> rfl), by repeat (first | (with_reducible first | exact HB.out | apply below_alloc | apply pw_below_drewN | apply below_drew1) | exact HB.out)⟩
                · replace c31 := Bool.eq_false_iff.mpr c31
                  subst c31
                  have H1 : ((laws_heldIntS.f kj20 t128 1).bind fun t135 => (if t135 < 0 then (some false) else (if t135 = t127 then (some true) else (some false)))) = some r := by rw [if_neg (show ¬ (false = true) by decide)] at H; exact H
                  clear H
                  have H := H1
                  clear H1
                  replace H := Option.bind_eq_some_iff.mp H
                  obtain ⟨t135, A320, H⟩ := H
                  replace H : (if t135 < 0 then (some false) else (if t135 = t127 then (some true) else (some false))) = some r := H
                  have A32 := Aside0.mk A320
                  clear A320
                  by_cases c33 : t135 < 0
                  · rw [if_pos c33] at H
                    have c33b0 : decide (t135 < 0) = true := decide_eq_true c33
                    clear c33
                    obtain rfl := Option.some.inj H
                    go_wp2_with (first | ((with_reducible refine gate_callee (f := 15) rfl ?_); refine goesL_ (some 57) rfl rfl Try.func15 (by kernel_rfl) rfl #[.slice Ao22 t128.length co22, .int .i64 1] rfl (by (try simp only [List.map_toArray, List.map_cons, List.map_nil]); first | done | rfl | (simp only [List.length_drop, List.length_take]; rfl)) ?_; (with_reducible refine (laws_heldIntS.calls kj20 _ _ t128 1 t135 _ ?side1 ?side2 A32.out).mono ?_); (case side1 => repeat (first | exact (Kd.R_reads' HO_5.out).2.2 | (with_reducible refine Kd.C_alloc ?_ _) | (with_reducible refine Kd.C_drewN ?_ _) | (with_reducible refine Kd.C_drew ?_))); (case side2 => exact (Kd.R_reads' HO_5.out).2.1); rintro e w' ⟨rfl, ⟨nd, rfl⟩⟩; refine ⟨_, rfl, ?_⟩))
                    go_ret
                    exact ⟨by first | rfl | (simp [errW_none, errW_some] <;> rfl) | (simp [*, errW_none, errW_some] <;> rfl), by repeat (first | (with_reducible first | exact HB.out | apply below_alloc | apply pw_below_drewN | apply below_drew1) | exact HB.out)⟩
                  · rw [if_neg c33] at H
                    have c33b0 : decide (t135 < 0) = false := decide_eq_false c33
                    clear c33
                    by_cases c34 : t135 = t127
                    · rw [if_pos c34] at H
                      have c34b0 : (t135 == t127) = true := beq_iff_eq.mpr c34
                      have c34b1 : (t135 != t127) = false := bne_eq_false_iff_eq.mpr c34
                      clear c34
                      obtain rfl := Option.some.inj H
                      go_wp2_with (first | ((with_reducible refine gate_callee (f := 15) rfl ?_); refine goesL_ (some 57) rfl rfl Try.func15 (by kernel_rfl) rfl #[.slice Ao22 t128.length co22, .int .i64 1] rfl (by (try simp only [List.map_toArray, List.map_cons, List.map_nil]); first | done | rfl | (simp only [List.length_drop, List.length_take]; rfl)) ?_; (with_reducible refine (laws_heldIntS.calls kj20 _ _ t128 1 t135 _ ?side1 ?side2 A32.out).mono ?_); (case side1 => repeat (first | exact (Kd.R_reads' HO_5.out).2.2 | (with_reducible refine Kd.C_alloc ?_ _) | (with_reducible refine Kd.C_drewN ?_ _) | (with_reducible refine Kd.C_drew ?_))); (case side2 => exact (Kd.R_reads' HO_5.out).2.1); rintro e w' ⟨rfl, ⟨nd, rfl⟩⟩; refine ⟨_, rfl, ?_⟩))
                      go_ret
                      exact ⟨by first | rfl | (simp [errW_none, errW_some] <;> rfl) | (simp [*, errW_none, errW_some] <;> rfl), by repeat (first | (with_reducible first | exact HB.out | apply below_alloc | apply pw_below_drewN | apply below_drew1) | exact HB.out)⟩
                    · rw [if_neg c34] at H
                      have c34b0 : (t135 == t127) = false := beq_eq_false_iff_ne.mpr c34
                      have c34b1 : (t135 != t127) = true := bne_iff_ne.mpr c34
                      obtain rfl := Option.some.inj H
                      go_wp2_with (first | ((with_reducible refine gate_callee (f := 15) rfl ?_); refine goesL_ (some 57) rfl rfl Try.func15 (by kernel_rfl) rfl #[.slice Ao22 t128.length co22, .int .i64 1] rfl (by (try simp only [List.map_toArray, List.map_cons, List.map_nil]); first | done | rfl | (simp only [List.length_drop, List.length_take]; rfl)) ?_; (with_reducible refine (laws_heldIntS.calls kj20 _ _ t128 1 t135 _ ?side1 ?side2 A32.out).mono ?_); (case side1 => repeat (first | exact (Kd.R_reads' HO_5.out).2.2 | (with_reducible refine Kd.C_alloc ?_ _) | (with_reducible refine Kd.C_drewN ?_ _) | (with_reducible refine Kd.C_drew ?_))); (case side2 => exact (Kd.R_reads' HO_5.out).2.1); rintro e w' ⟨rfl, ⟨nd, rfl⟩⟩; refine ⟨_, rfl, ?_⟩))
                      go_ret
                      exact ⟨by first | rfl | (simp [errW_none, errW_some] <;> rfl) | (simp [*, errW_none, errW_some] <;> rfl), by repeat (first | (with_reducible first | exact HB.out | apply below_alloc | apply pw_below_drewN | apply below_drew1) | exact HB.out)⟩
          · rw [if_neg c19] at H
            have c19b0 : (t129 == t127) = false := beq_eq_false_iff_ne.mpr c19
            have c19b1 : (t129 != t127) = true := bne_iff_ne.mpr c19
            obtain rfl := Option.some.inj H
            obtain ⟨Ao35, co35, eo35⟩ := Kd.R_slice HO_5.out
            subst eo35
            go_wp2_with (first | ((with_reducible refine gate_callee (f := 14) rfl ?_); refine goesL_ (some 32) rfl rfl Try.func14 (by kernel_rfl) rfl #[.slice Ao35 t122.length co35, .int .i64 1] rfl (by (try simp only [List.map_toArray, List.map_cons, List.map_nil]); first | done | rfl | (simp only [List.length_drop, List.length_take]; rfl)) ?_; (with_reducible refine (laws_markIntS.calls kj3 (fun k_ => some k_ = (.slice Ao35 t122.length co35 : Value).ownBlock) (.slice Ao35 t122.length co35) t122 1 t127 t128 w _ ?side1 ?side2 A14.out).mono ?_); (case side1 => repeat (first | (with_reducible first | exact HB.out | apply below_alloc | apply pw_below_drewN | apply below_drew1) | exact HB.out)); (case side2 => exact Kd.R_tight rfl HO_5.out); rintro e w36 ⟨rfl, hy0, hb, hkp⟩; refine ⟨_, rfl, ?_⟩; have n0_ := Aside0.mk (Kd.R_mono (ok' := fun k_ => some k_ ≠ (.slice Ao35 t122.length co35 : Value).ownBlock) (Kd.R_keptB (HO_3.out) hkp (fun k_ hk_ hs_ => (hk_) hs_)) (fun k_ hk_ => hk_.1)); have n1_ := Aside0.mk (Kd.R_reok rfl hy0 (fun k_ e_ => HO_5.out.1 k_ e_)); have n2_ := Aside0.mk (hb); clear HO_3; clear HO_5; clear HB; have HO_3 := n0_; have HO_5 := n1_; have HB := n2_; clear n0_ n1_ n2_; (try clear hb); (try clear hkp); (try clear hy0)) | ((with_reducible refine gate_callee (f := 15) rfl ?_); refine goesL_ (some 35) rfl rfl Try.func15 (by kernel_rfl) rfl #[.slice Ao35 t128.length co35, .int .i64 1] rfl (by (try simp only [List.map_toArray, List.map_cons, List.map_nil]); first | done | (rw [show t128.length = t122.length from (Kd.R_reads' HO_5.out).1.symm] <;> rfl) | rfl | (simp only [List.length_drop, List.length_take]; rfl)) ?_; (with_reducible refine (laws_heldIntS.calls kj3 _ _ t128 1 t129 _ ?side1 ?side2 A15.out).mono ?_); (case side1 => repeat (first | exact (Kd.R_reads' HO_5.out).2.2 | (with_reducible refine Kd.C_alloc ?_ _) | (with_reducible refine Kd.C_drewN ?_ _) | (with_reducible refine Kd.C_drew ?_))); (case side2 => rw [show t128.length = t122.length from (Kd.R_reads' HO_5.out).1.symm]; exact (Kd.R_reads' HO_5.out).2.1); rintro e w' ⟨rfl, ⟨nd, rfl⟩⟩; refine ⟨_, rfl, ?_⟩))
            go_ret
            exact ⟨by first | rfl | (simp [errW_none, errW_some] <;> rfl) | (simp [*, errW_none, errW_some] <;> rfl), by repeat (first | (with_reducible first | exact HB.out | apply below_alloc | apply pw_below_drewN | apply below_drew1) | exact HB.out)⟩

/-- THE ONE PURE STATEMENT of laws_FnExactFourFind: yours. -/
def laws_FnExactFourFind.Pure : Prop := ∀ (a0 : Int), (Lit.int .i64 a0).wf = true → ∃ k, laws_FnExactFourFind.f k a0 = some true
theorem laws_FnExactFourFind.walk (P : laws_FnExactFourFind.Pure) (a0 : Int) (w : World) (w0 : (Lit.int .i64 a0).wf = true) :
    Calls Try.prog 4 #[.int .i64 a0] w fun e w' => e = .returned (.bool true) ∧ Below w.heap.size w w' := by
  obtain ⟨k, h⟩ := P a0 w0
  refine (laws_FnExactFourFind.calls k a0 true w h).mono ?_
  rintro e w' ⟨rfl, hd⟩
  exact ⟨rfl, hd⟩

end Go.Proofs.Ytnnpafjgghpecaa.PFnExactFourFind
