/- A function's Lean twin and its walk, written by a program of this session. -/
import Derived.Test.YtihadpckmcebgaaTPFnValueManyx0
namespace Go.Proofs.Ytihadpckmcebgaa.PFnValueMany
open Go.RowKit Go.Proofs.YtihadpckmcebgaaW.PrintWords Go.Proofs.YtihadpckmcebgaaW.PrintLast Go.Proofs.YtihadpckmcebgaaW.PrintMore
attribute [local go_sem] max2_int min2_int max_two min_two max_three min_three max_four min_four   -- for this text's walks alone
set_option linter.unusedVariables false
set_option linter.unusedSimpArgs false

/-! ### laws_sizeOf: function 29 -/
def laws_sizeOf.f (a0 : Int) : Option (Int) := some (mx a0 (wrap64 (-a0)))
set_option maxHeartbeats 8000000 in
set_option maxRecDepth 100000 in
theorem laws_sizeOf.calls (a0 : Int) (r : Int) (w : World) (h : laws_sizeOf.f a0 = some r) :
  Calls Try.prog 29 #[.int .i64 a0] w fun e w' => e = .returned (.int .i64 r) ∧ Below w.heap.size w w' := by
 have HB := Aside0.mk (Below.refl w.heap.size w); have H : (some (mx a0 (wrap64 (-a0)))) = some r := h; clear h; obtain ⟨ji2, hji2⟩ : ∃ j_ : Int, (mx a0 (wrap64 (-a0))) = j_ := ⟨_, rfl⟩
 replace H : (some ji2) = some r := by first | (rw [hji2] at H; exact H) | (simp only [hji2] at H ⊢; exact H)
 have hji2_ : (if a0 < (wrap64 (-a0)) then (wrap64 (-a0)) else a0) = ji2 := hji2; obtain rfl := Option.some.inj H
 go_enter Try.func29, Try.ntmps29
 go_wp2; go_ret
 exact ⟨by first | rfl | (simp [errW_none, errW_some] <;> rfl) | (simp only [← hji2]; first | rfl | (simp [errW_none, errW_some] <;> rfl)) | (simp [*, errW_none, errW_some] <;> rfl), Sqz.auHB⟩

/-! ### impl_size: function 72 -/
def impl_size.f (a0 : Int) : Option (Int) := some (mx a0 (wrap64 (-a0)))
set_option maxHeartbeats 8000000 in
set_option maxRecDepth 100000 in
theorem impl_size.calls (a0 : Int) (r : Int) (w : World) (h : impl_size.f a0 = some r) :
  Calls Try.prog 72 #[.int .i64 a0] w fun e w' => e = .returned (.int .i64 r) ∧ Below w.heap.size w w' := by
 have HB := Aside0.mk (Below.refl w.heap.size w); have H : (some (mx a0 (wrap64 (-a0)))) = some r := h; clear h; obtain ⟨ji2, hji2⟩ : ∃ j_ : Int, (mx a0 (wrap64 (-a0))) = j_ := ⟨_, rfl⟩
 replace H : (some ji2) = some r := by first | (rw [hji2] at H; exact H) | (simp only [hji2] at H ⊢; exact H)
 have hji2_ : (if a0 < (wrap64 (-a0)) then (wrap64 (-a0)) else a0) = ji2 := hji2; obtain rfl := Option.some.inj H
 go_enter Try.func72, Try.ntmps72
 go_wp2; go_ret
 exact ⟨by first | rfl | (simp [errW_none, errW_some] <;> rfl) | (simp only [← hji2]; first | rfl | (simp [errW_none, errW_some] <;> rfl)) | (simp [*, errW_none, errW_some] <;> rfl), Sqz.auHB⟩

/-! ### impl_FormValid: function 20 -/
def impl_FormValid.l0 : Nat → List Int → List Int → Int → Int → Option (Bool)
 | 0, _, _, _, _ => none
 | k + 1, x0, x5, x6, x7 => if x7 < x6 then (if 0 ≤ x7 then (if x7 < (x5.length : Int) then (if (rd x5 x7) = 0 then (some false) else ((impl_size.f (rd x5 x7)).bind fun t102 => (if t102 > 30 then (some false) else (impl_FormValid.l0 k x0 x5 x6 (wrap64 (x7 + 1)))))) else (none)) else (none)) else (if (x0.length : Int) ≥ 1 then (some (decide ((x0.length : Int) ≤ 4))) else (some false))
def impl_FormValid.f (k : Nat) (l0 : List Int) : Option (Bool) := impl_FormValid.l0 k l0 l0 (l0.length : Int) 0
set_option maxHeartbeats 8000000 in
set_option maxRecDepth 100000 in
theorem impl_FormValid.calls (k : Nat) (A0 : Option Addr) (c0 : Nat) (l0 : List Int) (r : Bool) (w : World) (hr0 : Kd.C (Kd.int .i64) w A0 l0.length l0) (hc0 : l0.length ≤ c0) (h : impl_FormValid.f k l0 = some r) :
  Calls Try.prog 20 #[.slice A0 l0.length c0] w fun e w' => e = .returned (.bool r) ∧ Below w.heap.size w w' := by
 have HR0 := Aside0.mk hr0; have HC0 := Aside0.mk hc0; clear hr0 hc0; have HB := Aside0.mk (Below.refl w.heap.size w); have H : (impl_FormValid.l0 k l0 l0 (l0.length : Int) 0) = some r := h; clear h; have H' := Aside0.mk H; clear H
 go_enter Try.func20, Try.ntmps20
 go_wp2
 go_loopg [7] k (fun kq v7 w' => ∃ (x7_1 : Int), v7 = .int .i64 x7_1 ∧ Aside0 (impl_FormValid.l0 kq l0 l0 (l0.length : Int) x7_1 = some r) ∧ Aside0 (kq ≤ k) ∧ Aside0 (Below w.heap.size w w'))
 case atStart => exact ⟨(0), Sqz.auS, H', ⟨Nat.le_refl _⟩, ⟨Sqz.auHB⟩⟩
 case round =>
  clear H'; obtain ⟨x7_1, rfl, HA, HK1, HB⟩ := hrel; cases gk with
  | zero => exact absurd HA.out (by simp [impl_FormValid.l0])
  | succ k1 =>
   have H := HA.out; clear HA; simp only [impl_FormValid.l0] at H
   by_cases c2 : x7_1 < (l0.length : Int)
   ·rw [if_pos c2] at H; have c2b0 := decide_eq_true c2; clear c2
    by_cases c3 : 0 ≤ x7_1
    ·rw [if_pos c3] at H; have c3b0 := decide_eq_true c3; clear c3
     by_cases c4 : x7_1 < (l0.length : Int)
     ·rw [if_pos c4] at H; have c4b0 := decide_eq_true c4; clear c4
      by_cases c5 : (rd l0 x7_1) = 0
      ·rw [if_pos c5] at H; have c5b0 := beq_iff_eq.mpr c5; have c5b1 := bne_eq_false_iff_eq.mpr c5; clear c5; obtain rfl := Option.some.inj H; have p101 : 0 ≤ (x7_1 : Int) := Sqz.od; have q101 : x7_1 < (l0.length : Int) := Sqz.od; obtain ⟨ad101, e101, hx101_0⟩ := Kd.at_int HR0.out x7_1 p101 q101; cases e101; replace hx101_0 := (HB.out.cell (World.block_lt_of_cell? w _ hx101_0)).trans hx101_0; replace p101 := eq_true p101; replace q101 := eq_true q101; go_wp2; go_ret
       exact ⟨Sqz.auR, Sqz.auHB⟩
      ·rw [if_neg c5] at H; have c5b0 := beq_eq_false_iff_ne.mpr c5; have c5b1 := bne_iff_ne.mpr c5; obtain ⟨t102, A6, H⟩ := Sqz.be H
       by_cases c7 : t102 > 30
       ·rw [if_pos c7] at H; have c7b0 : decide (30 < t102) = true := decide_eq_true c7; clear c7; obtain rfl := Option.some.inj H; have p101 : 0 ≤ (x7_1 : Int) := Sqz.od; have q101 : x7_1 < (l0.length : Int) := Sqz.od; obtain ⟨ad101, e101, hx101_0⟩ := Kd.at_int HR0.out x7_1 p101 q101; cases e101; replace hx101_0 := (HB.out.cell (World.block_lt_of_cell? w _ hx101_0)).trans hx101_0; replace p101 := eq_true p101; replace q101 := eq_true q101
        go_wp2_with (first | (go_at_call 72; (with_reducible refine (impl_size.calls (rd l0 x7_1) t102 _ A6.out).mono ?_); rintro e w8 ⟨rfl, hb⟩; replace HB := Aside0.mk (below_step (Sqz.auHB) hb); (try clear hb)))
        go_ret
        exact ⟨Sqz.auR, Sqz.auHB⟩
       ·rw [if_neg c7] at H; have c7b0 : decide (30 < t102) = false := decide_eq_false c7; clear c7; have H' := Aside0.mk H; clear H; have p101 : 0 ≤ (x7_1 : Int) := Sqz.od; have q101 : x7_1 < (l0.length : Int) := Sqz.od; obtain ⟨ad101, e101, hx101_0⟩ := Kd.at_int HR0.out x7_1 p101 q101; cases e101; replace hx101_0 := (HB.out.cell (World.block_lt_of_cell? w _ hx101_0)).trans hx101_0; replace p101 := eq_true p101; replace q101 := eq_true q101
        go_wp2_with (first | (go_at_call 72; (with_reducible refine (impl_size.calls (rd l0 x7_1) t102 _ A6.out).mono ?_); rintro e w9 ⟨rfl, hb⟩; replace HB := Aside0.mk (below_step (Sqz.auHB) hb); (try clear hb)))
        go_roundg k1
        case measure => have := HK1.out; omega
        case rel => exact ⟨(wrap64 (x7_1 + 1)), Sqz.auS, H', ⟨by have := HK1.out; omega⟩, ⟨Sqz.auHB⟩⟩
     ·rw [if_neg c4] at H; exact absurd H (by simp)
    ·rw [if_neg c3] at H; exact absurd H (by simp)
   ·rw [if_neg c2] at H; have c2b0 := decide_eq_false c2; clear c2
    by_cases c10 : (l0.length : Int) ≥ 1
    ·rw [if_pos c10] at H; have c10b0 : decide (1 ≤ (l0.length : Int)) = true := decide_eq_true c10; have c10b1 : decide (1 ≤ l0.length) = true := decide_eq_true (by omega); clear c10; obtain rfl := Option.some.inj H; go_wp2; go_ret
     exact ⟨Sqz.auR, Sqz.auHB⟩
    ·rw [if_neg c10] at H; have c10b0 : decide (1 ≤ (l0.length : Int)) = false := decide_eq_false c10; have c10b1 : decide (1 ≤ l0.length) = false := decide_eq_false (by omega); clear c10; obtain rfl := Option.some.inj H; go_wp2; go_ret
     exact ⟨Sqz.auR, Sqz.auHB⟩

/-! ### impl_pair: function 99 -/
def impl_pair.l0 : Nat → List Int → List Int → Int → List Int → Int → Int → Option (Int)
 | 0, _, _, _, _, _, _ => none
 | k + 1, x1, x2, x7, x10, x11, x12 => if x12 < x11 then (if 0 ≤ x12 then (if x12 < (x10.length : Int) then (if x12 < (x1.length : Int) then (if x12 < (x2.length : Int) then (impl_pair.l0 k x1 x2 (wrap64 (x7 + (wrap64 ((wrap64 ((rd x10 x12) * (rd x1 x12))) * (rd x2 x12))))) x10 x11 (wrap64 (x12 + 1))) else (none)) else (none)) else (none)) else (none)) else (some x7)
def impl_pair.f (k : Nat) (l0 : List Int) (l1 : List Int) (l2 : List Int) : Option (Int) := impl_pair.l0 k l1 l2 0 l0 (l0.length : Int) 0
set_option maxHeartbeats 8000000 in
set_option maxRecDepth 100000 in
theorem impl_pair.calls (k : Nat) (A0 : Option Addr) (c0 : Nat) (l0 : List Int) (A1 : Option Addr) (c1 : Nat) (l1 : List Int) (A2 : Option Addr) (c2 : Nat) (l2 : List Int) (r : Int) (w : World) (hr0 : Kd.C (Kd.int .i64) w A0 l0.length l0) (hc0 : l0.length ≤ c0) (hr1 : Kd.C (Kd.int .i64) w A1 l1.length l1) (hc1 : l1.length ≤ c1) (hr2 : Kd.C (Kd.int .i64) w A2 l2.length l2) (hc2 : l2.length ≤ c2) (h : impl_pair.f k l0 l1 l2 = some r) :
  Calls Try.prog 99 #[.slice A0 l0.length c0, .slice A1 l1.length c1, .slice A2 l2.length c2] w fun e w' => e = .returned (.int .i64 r) ∧ Drawn0 w w' := by
 have HR0 := Aside0.mk hr0; have HC0 := Aside0.mk hc0; clear hr0 hc0; have HR1 := Aside0.mk hr1; have HC1 := Aside0.mk hc1; clear hr1 hc1; have HR2 := Aside0.mk hr2; have HC2 := Aside0.mk hc2; clear hr2 hc2; have H : (impl_pair.l0 k l1 l2 0 l0 (l0.length : Int) 0) = some r := h; clear h; have H' := Aside0.mk H; clear H
 go_enter Try.func99, Try.ntmps99
 go_wp2
 repeat (go_quiet (fail); try go_wp2)
 go_loopg [7, 12] k (fun kq v7 v12 w' => ∃ (x7_1 : Int) (x12_1 : Int), v7 = .int .i64 x7_1 ∧ v12 = .int .i64 x12_1 ∧ Aside0 (impl_pair.l0 kq l1 l2 x7_1 l0 (l0.length : Int) x12_1 = some r) ∧ Aside0 (kq ≤ k) ∧ Drawn0 w w')
 case atStart => exact ⟨(0), (0), Sqz.auS, Sqz.auS, H', ⟨Nat.le_refl _⟩, by repeat (first | exact Drawn0.refl _ | apply Drawn0.step)⟩
 case round =>
  clear H'
  try clear c1
  try clear c2
  try clear p2
  obtain ⟨x7_1, x12_1, rfl, rfl, HA, HK1, ⟨m1, rfl⟩⟩ := hrel; cases gk with
  | zero => exact absurd HA.out (by simp [impl_pair.l0])
  | succ k1 =>
   have H := HA.out; clear HA; simp only [impl_pair.l0] at H
   by_cases c4 : x12_1 < (l0.length : Int)
   ·rw [if_pos c4] at H; have c4b0 := decide_eq_true c4; clear c4
    by_cases c5 : 0 ≤ x12_1
    ·rw [if_pos c5] at H; have c5b0 := decide_eq_true c5; clear c5
     by_cases c6 : x12_1 < (l0.length : Int)
     ·rw [if_pos c6] at H; have c6b0 := decide_eq_true c6; clear c6
      by_cases c7 : x12_1 < (l1.length : Int)
      ·rw [if_pos c7] at H; have c7b0 := decide_eq_true c7; clear c7
       by_cases c8 : x12_1 < (l2.length : Int)
       ·rw [if_pos c8] at H; have c8b0 := decide_eq_true c8; clear c8; have H' := Aside0.mk H; clear H; have p103 : 0 ≤ (x12_1 : Int) := Sqz.od; have q103 : x12_1 < (l0.length : Int) := Sqz.od; obtain ⟨ad103, e103, hx103_0⟩ := Kd.at_int HR0.out x12_1 p103 q103; cases e103; replace p103 := eq_true p103; replace q103 := eq_true q103; have p104 : 0 ≤ (x12_1 : Int) := Sqz.od; have q104 : x12_1 < (l1.length : Int) := Sqz.od; obtain ⟨ad104, e104, hx104_0⟩ := Kd.at_int HR1.out x12_1 p104 q104; cases e104; replace p104 := eq_true p104; replace q104 := eq_true q104; have p105 : 0 ≤ (x12_1 : Int) := Sqz.od; have q105 : x12_1 < (l2.length : Int) := Sqz.od; obtain ⟨ad105, e105, hx105_0⟩ := Kd.at_int HR2.out x12_1 p105 q105; cases e105; replace p105 := eq_true p105; replace q105 := eq_true q105; go_wp2
        repeat (go_quiet (fail); try go_wp2)
        go_roundg k1
        case measure => have := HK1.out; omega
        case rel => exact ⟨(wrap64 (x7_1 + (wrap64 ((wrap64 ((rd l0 x12_1) * (rd l1 x12_1))) * (rd l2 x12_1))))), (wrap64 (x12_1 + 1)), Sqz.auS, Sqz.auS, H', ⟨by have := HK1.out; omega⟩, by repeat (first | exact Drawn0.refl _ | apply Drawn0.step)⟩
       ·rw [if_neg c8] at H; exact absurd H (by simp)
      ·rw [if_neg c7] at H; exact absurd H (by simp)
     ·rw [if_neg c6] at H; exact absurd H (by simp)
    ·rw [if_neg c5] at H; exact absurd H (by simp)
   ·rw [if_neg c4] at H; have c4b0 := decide_eq_false c4; clear c4; obtain rfl := Option.some.inj H; go_wp2
    repeat (go_quiet (fail); try go_wp2)
    go_ret
    exact ⟨Sqz.auS, by repeat (first | exact Drawn0.refl _ | apply Drawn0.step)⟩

/-! ### impl_ValueMany: function 43 -/
section
open Locg
/-! ### all vectors up to a size: the closure and its maker -/
def sumO (g : Int → Option Int) : Nat → Int → Option Int
 | 0, _ => some 0
 | m + 1, x => (g x).bind fun a => (sumO g m (x + 1)).bind fun b => some (a + b)
/-- How many of the vectors that go on from v by d integers of size at most n are told of as such. -/
def cntO (g : List Int → Option Bool) (n : Nat) : Nat → List Int → Option Int
 | 0, v => (g v).bind fun b => some (if b = true then 1 else 0)
 | d + 1, v => sumO (fun x => cntO g n d (v ++ [x])) (2 * n + 1) (-(n : Int))
structure VecL where
 a : Nat
 n : Nat
 t : Nat
 r : Nat
 v : Nat
 y : Nat
 h1 : a < n
 h2 : n < t
 h3 : t < r
 h4 : r < v
 h5 : v < y
def vecL (a : Nat) : VecL := { a := a, n := a + 1, t := a + 1 + 1, r := a + 1 + 1 + 1, v := a + 1 + 1 + 1 + 1, y := a + 1 + 1 + 1 + 1 + 1, h1 := by omega, h2 := by omega, h3 := by omega, h4 := by omega, h5 := by omega }
theorem vecInfo : (Try.prog.info? 3).map (fun i => (i.zero, i.size, i.bytes)) = some (some (.int .i64 0), 1, 8) := by kernel_rfl
def VecAtM (L : VecL) (b0 b1 b2 : Nat) (many n : Int) (xs : List Int) (w : World) : Prop :=
 w.heap[L.a]? = some (.cells #[.int .i64 many] 3 (0, 0)) ∧ w.heap[L.n]? = some (.cells #[.int .i64 n] 3 (0, 0)) ∧
 w.heap[L.t]? = some (.cells #[.func (.func 98) #[] #[.pointer (some ⟨b0, 0, none⟩), .pointer (some ⟨b1, 0, none⟩), .pointer (some ⟨b2, 0, none⟩)]] 66 (0, 0)) ∧
 w.heap[L.v]? = some (.cells #[.slice (some ⟨L.r, 0, none⟩) xs.length xs.length] 25 (0, 0)) ∧
 w.heap[L.y]? = some (.cells #[.func (.func 139) #[] #[.pointer (some ⟨L.a, 0, none⟩), .pointer (some ⟨L.t, 0, none⟩), .pointer (some ⟨L.v, 0, none⟩), .pointer (some ⟨L.n, 0, none⟩), .pointer (some ⟨L.y, 0, none⟩)]] 79 (0, 0)) ∧
 w.ownsRow L.r 3 1 (.slice (some ⟨L.r, 0, none⟩) xs.length xs.length) xs.length (nums .i64 xs) ∧ (xs.length : Int) = many
def TellOkM (L : VecL) (b0 b1 b2 : Nat) (many : Int) (J : Int → World → Prop) (g : List Int → Option Bool) : Prop :=
 (∀ c w w', J c w → Below L.a w w' → J c w') ∧
 ∀ (c : Int) (b : Bool) (xs : List Int) (w : World), J c w → (xs.length : Int) = many → w.ownsRow L.r 3 1 (.slice (some ⟨L.r, 0, none⟩) xs.length xs.length) xs.length (nums .i64 xs) → L.a < w.heap.size → g xs = some b →
  Calls Try.prog 98 #[.slice (some ⟨L.r, 0, none⟩) xs.length xs.length, .pointer (some ⟨b0, 0, none⟩), .pointer (some ⟨b1, 0, none⟩), .pointer (some ⟨b2, 0, none⟩)] w fun e w' => e = .returned (.tuple #[]) ∧ J (c + if b = true then 1 else 0) w' ∧ (∀ k, L.a ≤ k → k < w.heap.size → w'.heap[k]? = w.heap[k]?) ∧ w.heap.size ≤ w'.heap.size
def VecSaysM (L : VecL) (b0 b1 b2 : Nat) (many n : Int) (J : Int → World → Prop) (g : List Int → Option Bool) (d : Nat) : Prop :=
 ∀ (p c s : Int) (xs : List Int) (w : World), VecAtM L b0 b1 b2 many n xs w → J c w → 0 ≤ p → p + d = many → cntO g n.toNat d (xs.take p.toNat) = some s →
  Calls Try.prog 139 #[.int .i64 p, .pointer (some ⟨L.a, 0, none⟩), .pointer (some ⟨L.t, 0, none⟩), .pointer (some ⟨L.v, 0, none⟩), .pointer (some ⟨L.n, 0, none⟩), .pointer (some ⟨L.y, 0, none⟩)] w fun e w' =>
   e = .returned (.tuple #[]) ∧ ∃ xs', VecAtM L b0 b1 b2 many n xs' w' ∧ xs'.take p.toNat = xs.take p.toNat ∧ J (c + s) w' ∧ w.heap.size ≤ w'.heap.size
theorem VecAtM.keep {L : VecL} {b0 b1 b2 : Nat} {many n : Int} {xs : List Int} {w w' : World} (h : VecAtM L b0 b1 b2 many n xs w) (hk : ∀ k, L.a ≤ k → k < w.heap.size → w'.heap[k]? = w.heap[k]?) : VecAtM L b0 b1 b2 many n xs w' := by
 obtain ⟨hA, hN, hT, hV, hY, hR, hm⟩ := h; have b1 := lt_of_block hA; have b2 := lt_of_block hN; have b3 := lt_of_block hT; have b4 := lt_of_block hV; have b5 := lt_of_block hY; have := L.h1; have := L.h2; have := L.h3; have := L.h4; have := L.h5
 exact ⟨(hk _ (by omega) b1).trans hA, (hk _ (by omega) b2).trans hN, (hk _ (by omega) b3).trans hT, (hk _ (by omega) b4).trans hV, (hk _ (by omega) b5).trans hY,
  own_move hR (fun k hkk => by simp only [Value.ownBlock, Option.some.injEq] at hkk; subst hkk; exact hk _ (by omega) (by omega)), hm⟩
set_option maxHeartbeats 1600000 in
set_option maxRecDepth 100000 in
theorem vec_baseM {L : VecL} {b0 b1 b2 : Nat} {many n : Int} {J : Int → World → Prop} {g : List Int → Option Bool} (hT : TellOkM L b0 b1 b2 many J g) : VecSaysM L b0 b1 b2 many n J g 0 := by
 intro p c s xs w hv hJ hp hpm hg; have HI := Aside0.mk hv; obtain ⟨hA, hN, hTe, hV, hY, hR, hm⟩ := hv; have cA := cell_of_one hA; have cT := cell_of_one hTe; have cV := cell_of_one hV; have e1 : (p == many) = true := by rw [beq_iff_eq]; omega
 simp only [cntO] at hg; obtain ⟨b, hb, hg⟩ := Option.bind_eq_some_iff.mp hg; have hl : xs.take p.toNat = xs := List.take_of_length_le (by omega); rw [hl] at hb; have HC := Aside0.mk (hT.2 c b xs w hJ hm hR (lt_of_block hA) hb); clear hA hN hTe hV hY hR hb hJ hT
 go_enter Try.func139, Try.ntmps139
 go_wp2_with (go_at_call 98; refine HC.out.mono ?_; rintro e w2 ⟨rfl, hJ2, hk2, hs2⟩)
 (try simp only [Exit.inBlock, Exit.then]); refine bodyPost_ret (results_none rfl _ _ _) rfl ?_; exact ⟨rfl, xs, HI.out.keep hk2, rfl, by have := Option.some.inj hg; rw [← this]; exact hJ2, hs2⟩
theorem VecAtM.put {L : VecL} {b0 b1 b2 : Nat} {many n : Int} {xs : List Int} {w : World} (h : VecAtM L b0 b1 b2 many n xs w) (p x : Int) : VecAtM L b0 b1 b2 many n (xs.set p.toNat x) (w.setCell ⟨L.r, p.toNat, none⟩ (.int .i64 x)) := by
 obtain ⟨hA, hN, hT, hV, hY, hR, hm⟩ := h; have := L.h1; have := L.h2; have := L.h3; have := L.h4; have := L.h5; have hl : (xs.set p.toNat x).length = xs.length := by simp
 refine ⟨(heap_setCell_other _ _ _ _ (by show L.a ≠ L.r; omega)).trans hA, (heap_setCell_other _ _ _ _ (by show L.n ≠ L.r; omega)).trans hN, (heap_setCell_other _ _ _ _ (by show L.t ≠ L.r; omega)).trans hT, ?_, (heap_setCell_other _ _ _ _ (by show L.y ≠ L.r; omega)).trans hY, ?_, by rw [hl]; exact hm⟩
 ·rw [hl]; exact (heap_setCell_other _ _ _ _ (by show L.v ≠ L.r; omega)).trans hV
 ·have := own_put hR p x
  rwa [hl] at this ⊢
theorem TellOkM.put {L : VecL} {b0 b1 b2 : Nat} {many : Int} {J : Int → World → Prop} {g : List Int → Option Bool} (hT : TellOkM L b0 b1 b2 many J g) {c : Int} {w : World} (h : J c w) (i : Nat) (v : Value) : J c (w.setCell ⟨L.r, i, none⟩ v) := by
 have := L.h1; have := L.h2; have := L.h3; exact hT.1 c w _ h ((Below.refl _ _).setCell (show L.a ≤ L.r by omega) _)
theorem vec_rdM {p : Int} {zs ys : List Int} (hp : 0 ≤ p) (h : zs.take (p + 1).toNat = ys.take (p + 1).toNat) : rdOf 0 zs p = rdOf 0 ys p := by
 unfold rdOf
 rw [List.getD_eq_getElem?_getD, List.getD_eq_getElem?_getD]; have h1 : (zs.take (p + 1).toNat)[p.toNat]? = (ys.take (p + 1).toNat)[p.toNat]? := by rw [h]
 rw [List.getElem?_take_of_lt (by omega), List.getElem?_take_of_lt (by omega)] at h1; rw [h1]
set_option maxHeartbeats 4000000 in
set_option maxRecDepth 100000 in
theorem vec_stepM {L : VecL} {b0 b1 b2 : Nat} {many n : Int} {J : Int → World → Prop} {g : List Int → Option Bool} (hT : TellOkM L b0 b1 b2 many J g) (hn0 : 0 ≤ n) (hn : n ≤ 1000) (hM : many ≤ 1000) (d : Nat) (IH : VecSaysM L b0 b1 b2 many n J g d) : VecSaysM L b0 b1 b2 many n J g (d + 1) := by
 intro p c s xs w hv hJ hp hpm hg; have hv0 := hv; obtain ⟨hA, hN, hTe, hV, hY, hR, hm⟩ := hv; have cA := cell_of_one hA; have cN := cell_of_one hN; have cV := cell_of_one hV; have e1 : (p == many) = false := by rw [beq_eq_false_iff_ne]; omega
 have hlt : p < (xs.length : Int) := by omega
 obtain ⟨hc, hf⟩ := Kd.R_celln 0 (Kd.R_of_own (enc := Value.int .i64) (h1 := fun _ => rfl) (ok := fun _ => True) hR (fun _ _ => trivial)) p hp hlt; have p1 : (0 ≤ p) = True := eq_true hp; have p2 : (p < (xs.length : Int)) = True := eq_true hlt; have wn : wrap64 (-n) = -n := w64 (by omega) (by omega); have wp : wrap64 (p + 1) = p + 1 := w64 (by omega) (by omega); have HV := Aside0.mk (hv0.put p (-n)); have HJ := Aside0.mk (hT.put hJ p.toNat (.int .i64 (-n))); simp only [cntO] at hg; have HG := Aside0.mk hg; have HIH := Aside0.mk IH; have HT := Aside0.mk hT; have HP := Aside0.mk hpm; have HL := Aside0.mk hlt; have HM := Aside0.mk hm; have H0 := Aside0.mk hp; clear hA hN hTe hV hY hR hg hJ hv0 hT IH hpm hlt hm
 go_enter Try.func139, Try.ntmps139
 go_wp2
 go_loopg [] (2 * n.toNat + 1) (fun kq wr => ∃ (x s0 rest : Int) (ys : List Int), Aside0 (VecAtM L b0 b1 b2 many n ys wr) ∧ Aside0 (J (c + s0) wr) ∧ Aside0 (x + (kq : Int) = n + 1 ∧ -n ≤ x ∧ ys.take p.toNat = xs.take p.toNat ∧ ys.length = xs.length ∧ rdOf 0 ys p = x ∧ s0 + rest = s) ∧ Aside0 (sumO (fun x => cntO g n.toNat d (xs.take p.toNat ++ [x])) kq x = some rest) ∧ Aside0 (w.heap.size ≤ wr.heap.size))
 case atStart =>
  have hl := HL.out; refine ⟨-n, 0, s, xs.set p.toNat (-n), HV, by rw [Int.add_zero]; exact HJ, ⟨⟨by omega, Int.le_refl _, ?_, by simp, ?_, by omega⟩⟩, ⟨by have := HG.out; rwa [show (-((n.toNat : Nat) : Int)) = -n from by omega] at this⟩, ⟨by simp [World.setCell]⟩⟩
  ·rw [List.take_set_of_le (Nat.le_refl _)]
  ·unfold rdOf; rw [List.getD_eq_getElem?_getD, List.getElem?_set_self (by omega)]; rfl
 case round =>
  obtain ⟨x, s0, rest, ys, HV2, HJ2, HA, HS, HZ⟩ := hrel; have hv2 := HV2.out; obtain ⟨hA, hN, hTe, hV, hY, hR, hm⟩ := hv2; have hlt : p < (ys.length : Int) := by have := HA.out.2.2.2.1; have := HL.out; omega
  have cN := cell_of_one hN; have cV := cell_of_one hV; have cY := cell_of_one hY; obtain ⟨hc, hf⟩ := Kd.R_celln 0 (Kd.R_of_own (enc := Value.int .i64) (h1 := fun _ => rfl) (ok := fun _ => True) hR (fun _ _ => trivial)) p hp hlt; rw [HA.out.2.2.2.2.1] at hc; have p2 : (p < (ys.length : Int)) = True := eq_true hlt; have HX := HA; clear hA hN hTe hV hY hR hm hlt HV HJ HG
  by_cases c1 : x ≤ n
  ·have c1b : decide (x ≤ n) = true := decide_eq_true c1; obtain ⟨k1, rfl⟩ : ∃ k1, gk = k1 + 1 := ⟨gk - 1, by have := HA.out.1; omega⟩
   have hs := HS.out; simp only [sumO] at hs; obtain ⟨a1, ha1, hs⟩ := Option.bind_eq_some_iff.mp hs; obtain ⟨b1, hb1, hs⟩ := Option.bind_eq_some_iff.mp hs; have hs := Option.some.inj hs; have hp1 : (p + 1).toNat = p.toNat + 1 := by omega
   have hty : ys.take (p + 1).toNat = xs.take p.toNat ++ [x] := by
    have h1 := HA.out.2.2.2.1; have h2 := HL.out; rw [hp1, List.take_add_one, HA.out.2.2.1]
    have : ys[p.toNat]? = some x := by
     have h3 := HA.out.2.2.2.2.1
     unfold rdOf at h3
     rw [List.getD_eq_getElem?_getD, List.getElem?_eq_getElem (by omega)] at h3; rw [List.getElem?_eq_getElem (by omega)]
     simpa using h3
    rw [this]; rfl
   have HC := Aside0.mk (show 0 ≤ p + 1 ∧ p + 1 + (d : Int) = many ∧ cntO g n.toNat d (ys.take (p + 1).toNat) = some a1 from ⟨by omega, by have := HP.out; push_cast at this; omega, by rw [hty]; exact ha1⟩); have HQ := Aside0.mk (fun m : Nat => HIH.out (p + 1) (c + s0) a1 ys (wr.drewN m) (HV2.out.keep (fun _ _ _ => rfl)) (HT.out.1 _ _ _ HJ2.out (pw_below_drewN (Below.refl _ _) _)) HC.out.1 HC.out.2.1 HC.out.2.2); have HB1 := Aside0.mk hb1; have HSS := Aside0.mk hs; have HTY := Aside0.mk hty; have wx : wrap64 (x + 1) = x + 1 := w64 (by have := HA.out.2.1; omega) (by omega); clear HS ha1 hb1 hs hty c1 hp1
   go_wp2_with (go_at_call 139; refine (HQ.out _).mono ?_; rintro e w2 ⟨rfl, zs, hv3, ht3, hj3, hz3⟩; have HV3 := Aside0.mk hv3; obtain ⟨hA, hN, hTe, hV, hY, hR, hm⟩ := hv3; have cV3 := cell_of_one hV; have hl3 : p < (zs.length : Int) := (by have := HA.out.2.2.2.1; have := HL.out; have := HM.out; obtain ⟨_, _, _, _, _, _, hm9⟩ := HV3.out; omega); have p3 : (p < (zs.length : Int)) = True := eq_true hl3; obtain ⟨hc3, hf3⟩ := Kd.R_celln 0 (Kd.R_of_own (enc := Value.int .i64) (h1 := fun _ => rfl) (ok := fun _ => True) hR (fun _ _ => trivial)) p H0.out hl3; have h3x : rdOf 0 zs p = x := (vec_rdM (show 0 ≤ p from H0.out) ht3).trans HA.out.2.2.2.2.1; rw [h3x] at hc3; have HT3 := Aside0.mk ht3; have HJ3 := Aside0.mk hj3; have HZ3 := Aside0.mk hz3; clear hA hN hTe hV hY hm hf hc cV cN cY hR hl3 h3x ht3 hj3 hz3)
   repeat (go_quiet ((go_at_call 139; refine (HQ.out _).mono ?_; rintro e w2 ⟨rfl, zs, hv3, ht3, hj3, hz3⟩; have HV3 := Aside0.mk hv3; obtain ⟨hA, hN, hTe, hV, hY, hR, hm⟩ := hv3; have cV3 := cell_of_one hV; have hl3 : p < (zs.length : Int) := (by have := HA.out.2.2.2.1; have := HL.out; have := HM.out; obtain ⟨_, _, _, _, _, _, hm9⟩ := HV3.out; omega); have p3 : (p < (zs.length : Int)) = True := eq_true hl3; obtain ⟨hc3, hf3⟩ := Kd.R_celln 0 (Kd.R_of_own (enc := Value.int .i64) (h1 := fun _ => rfl) (ok := fun _ => True) hR (fun _ _ => trivial)) p H0.out hl3; have h3x : rdOf 0 zs p = x := (vec_rdM (show 0 ≤ p from H0.out) ht3).trans HA.out.2.2.2.2.1; rw [h3x] at hc3; have HT3 := Aside0.mk ht3; have HJ3 := Aside0.mk hj3; have HZ3 := Aside0.mk hz3; clear hA hN hTe hV hY hm hf hc cV cN cY hR hl3 h3x ht3 hj3 hz3)); try go_wp2_with (go_at_call 139; refine (HQ.out _).mono ?_; rintro e w2 ⟨rfl, zs, hv3, ht3, hj3, hz3⟩; have HV3 := Aside0.mk hv3; obtain ⟨hA, hN, hTe, hV, hY, hR, hm⟩ := hv3; have cV3 := cell_of_one hV; have hl3 : p < (zs.length : Int) := (by have := HA.out.2.2.2.1; have := HL.out; have := HM.out; obtain ⟨_, _, _, _, _, _, hm9⟩ := HV3.out; omega); have p3 : (p < (zs.length : Int)) = True := eq_true hl3; obtain ⟨hc3, hf3⟩ := Kd.R_celln 0 (Kd.R_of_own (enc := Value.int .i64) (h1 := fun _ => rfl) (ok := fun _ => True) hR (fun _ _ => trivial)) p H0.out hl3; have h3x : rdOf 0 zs p = x := (vec_rdM (show 0 ≤ p from H0.out) ht3).trans HA.out.2.2.2.2.1; rw [h3x] at hc3; have HT3 := Aside0.mk ht3; have HJ3 := Aside0.mk hj3; have HZ3 := Aside0.mk hz3; clear hA hN hTe hV hY hm hf hc cV cN cY hR hl3 h3x ht3 hj3 hz3))
   go_roundg k1
   case measure => omega
   case rel =>
    have h3 := HT3.out; have hlz : zs.length = xs.length := by obtain ⟨_, _, _, _, _, _, hm3⟩ := HV3.out; have := HM.out; omega
    have htk : zs.take p.toNat = xs.take p.toNat := by
     have := congrArg (List.take p.toNat) h3; rw [List.take_take, List.take_take, show min p.toNat (p + 1).toNat = p.toNat by omega] at this; rw [this]; exact HA.out.2.2.1
    refine ⟨x + 1, s0 + a1, b1, zs.set p.toNat (x + 1), ⟨HV3.out.put p (x + 1)⟩, ⟨by have := HT.out.put HJ3.out p.toNat (.int .i64 (x + 1)); rwa [Int.add_assoc] at this⟩, ⟨⟨by have := HA.out.1; push_cast at this; omega, by have := HA.out.2.1; omega, ?_, by simp [hlz], ?_, by have := HA.out.2.2.2.2.2; have := HSS.out; omega⟩⟩, HB1, ⟨by simp only [World.setCell, Array.size_modify]; exact Nat.le_trans HZ.out HZ3.out⟩⟩
    ·rw [List.take_set_of_le (Nat.le_refl _)]; exact htk
    ·have := HL.out; unfold rdOf; rw [List.getD_eq_getElem?_getD, List.getElem?_set_self (by omega)]; rfl
  ·have c1b : decide (x ≤ n) = false := decide_eq_false c1; have hk0 : gk = 0 := by have := HA.out.1; omega
   subst hk0; have hr : rest = 0 := by have := HS.out; simp only [sumO] at this; exact (Option.some.inj this).symm
   subst hr; clear c1; go_wp2
   repeat (go_quiet (fail); try go_wp2)
   go_end0
   exact ⟨rfl, ys, HV2.out.keep (fun _ _ _ => rfl), HA.out.2.2.1, HT.out.1 (c + s) wr _ (by have := HA.out.2.2.2.2.2; rw [show s = s0 by omega]; exact HJ2.out) (pw_below_drewN (Below.refl _ _) _), HZ.out⟩
theorem vec_allM {L : VecL} {b0 b1 b2 : Nat} {many n : Int} {J : Int → World → Prop} {g : List Int → Option Bool} (hT : TellOkM L b0 b1 b2 many J g) (hn0 : 0 ≤ n) (hn : n ≤ 1000) (hM : many ≤ 1000) : ∀ d, VecSaysM L b0 b1 b2 many n J g d
 | 0 => vec_baseM hT
 | d + 1 => vec_stepM hT hn0 hn hM d (vec_allM hT hn0 hn hM d)
theorem vec_startM (w : World) (b0 b1 b2 : Nat) (m : Nat) (n : Int) (hm : m ≤ 1000) : VecAtM (vecL w.heap.size) b0 b1 b2 (m : Int) n (List.replicate m 0)
  ((((((w.alloc (.cells #[.int .i64 (m : Int)] 3)).alloc (.cells #[.int .i64 n] 3)).alloc (.cells #[.func (.func 98) #[] #[.pointer (some ⟨b0, 0, none⟩), .pointer (some ⟨b1, 0, none⟩), .pointer (some ⟨b2, 0, none⟩)]] 66)).alloc (.cells (madeCells #[.int .i64 0] m) 3)).alloc (.cells #[.slice (some ⟨w.heap.size + 1 + 1 + 1, 0, none⟩) m m] 25)).alloc
   (.cells #[.func (.func 139) #[] #[.pointer (some ⟨w.heap.size, 0, none⟩), .pointer (some ⟨w.heap.size + 1 + 1, 0, none⟩), .pointer (some ⟨w.heap.size + 1 + 1 + 1 + 1, 0, none⟩), .pointer (some ⟨w.heap.size + 1, 0, none⟩), .pointer (some ⟨w.heap.size + 1 + 1 + 1 + 1 + 1, 0, none⟩)]] 79)) := by
 have hl : (List.replicate m (0 : Int)).length = m := by simp
 have o1 := own_made' (((w.alloc (.cells #[.int .i64 (m : Int)] 3)).alloc (.cells #[.int .i64 n] 3)).alloc (.cells #[.func (.func 98) #[] #[.pointer (some ⟨b0, 0, none⟩), .pointer (some ⟨b1, 0, none⟩), .pointer (some ⟨b2, 0, none⟩)]] 66)) (w.heap.size + 1 + 1 + 1) 3 .i64 m (by simp) (by omega); rw [hl] at o1; refine ⟨?_, ?_, ?_, ?_, ?_, ?_, by simp⟩
 ·exact (Below.heap_alloc _ _ _ (by simp [vecL] <;> omega)).trans ((Below.heap_alloc _ _ _ (by simp [vecL] <;> omega)).trans ((Below.heap_alloc _ _ _ (by simp [vecL] <;> omega)).trans ((Below.heap_alloc _ _ _ (by simp [vecL] <;> omega)).trans ((Below.heap_alloc _ _ _ (by simp [vecL])).trans (heap_alloc_new w _)))))
 ·exact (Below.heap_alloc _ _ _ (by simp [vecL] <;> omega)).trans ((Below.heap_alloc _ _ _ (by simp [vecL] <;> omega)).trans ((Below.heap_alloc _ _ _ (by simp [vecL] <;> omega)).trans ((Below.heap_alloc _ _ _ (by simp [vecL])).trans (by simpa [vecL] using heap_alloc_new (w.alloc (.cells #[.int .i64 (m : Int)] 3)) (.cells #[.int .i64 n] 3)))))
 ·exact (Below.heap_alloc _ _ _ (by simp [vecL] <;> omega)).trans ((Below.heap_alloc _ _ _ (by simp [vecL] <;> omega)).trans ((Below.heap_alloc _ _ _ (by simp [vecL])).trans (by simpa [vecL] using heap_alloc_new ((w.alloc (.cells #[.int .i64 (m : Int)] 3)).alloc (.cells #[.int .i64 n] 3)) (.cells #[.func (.func 98) #[] #[.pointer (some ⟨b0, 0, none⟩), .pointer (some ⟨b1, 0, none⟩), .pointer (some ⟨b2, 0, none⟩)]] 66))))
 ·rw [hl]; exact (Below.heap_alloc _ _ _ (by simp [vecL])).trans (by simpa [vecL] using heap_alloc_new ((((w.alloc (.cells #[.int .i64 (m : Int)] 3)).alloc (.cells #[.int .i64 n] 3)).alloc (.cells #[.func (.func 98) #[] #[.pointer (some ⟨b0, 0, none⟩), .pointer (some ⟨b1, 0, none⟩), .pointer (some ⟨b2, 0, none⟩)]] 66)).alloc (.cells (madeCells #[.int .i64 0] m) 3)) (.cells #[.slice (some ⟨w.heap.size + 1 + 1 + 1, 0, none⟩) m m] 25))
 ·simpa [vecL] using heap_alloc_new (((((w.alloc (.cells #[.int .i64 (m : Int)] 3)).alloc (.cells #[.int .i64 n] 3)).alloc (.cells #[.func (.func 98) #[] #[.pointer (some ⟨b0, 0, none⟩), .pointer (some ⟨b1, 0, none⟩), .pointer (some ⟨b2, 0, none⟩)]] 66)).alloc (.cells (madeCells #[.int .i64 0] m) 3)).alloc (.cells #[.slice (some ⟨w.heap.size + 1 + 1 + 1, 0, none⟩) m m] 25)) (.cells #[.func (.func 139) #[] #[.pointer (some ⟨w.heap.size, 0, none⟩), .pointer (some ⟨w.heap.size + 1 + 1, 0, none⟩), .pointer (some ⟨w.heap.size + 1 + 1 + 1 + 1, 0, none⟩), .pointer (some ⟨w.heap.size + 1, 0, none⟩), .pointer (some ⟨w.heap.size + 1 + 1 + 1 + 1 + 1, 0, none⟩)]] 79)
 ·rw [hl]
  have o2 := own_move (w1 := ((((((w.alloc (.cells #[.int .i64 (m : Int)] 3)).alloc (.cells #[.int .i64 n] 3)).alloc (.cells #[.func (.func 98) #[] #[.pointer (some ⟨b0, 0, none⟩), .pointer (some ⟨b1, 0, none⟩), .pointer (some ⟨b2, 0, none⟩)]] 66)).alloc (.cells (madeCells #[.int .i64 0] m) 3)).alloc (.cells #[.slice (some ⟨w.heap.size + 1 + 1 + 1, 0, none⟩) m m] 25)).alloc
   (.cells #[.func (.func 139) #[] #[.pointer (some ⟨w.heap.size, 0, none⟩), .pointer (some ⟨w.heap.size + 1 + 1, 0, none⟩), .pointer (some ⟨w.heap.size + 1 + 1 + 1 + 1, 0, none⟩), .pointer (some ⟨w.heap.size + 1, 0, none⟩), .pointer (some ⟨w.heap.size + 1 + 1 + 1 + 1 + 1, 0, none⟩)]] 79))) o1 (fun k hk => by
    simp only [Value.ownBlock, Option.some.injEq] at hk; subst hk; exact (Below.heap_alloc _ _ _ (by simp <;> omega)).trans (Below.heap_alloc _ _ _ (by simp)))
  simpa [vecL] using o2
set_option maxHeartbeats 4000000 in
set_option maxRecDepth 100000 in
theorem vectorsM {b0 b1 b2 : Nat} {many n : Int} {J : Int → World → Prop} {g : List Int → Option Bool} {c s : Int} {w : World} (hT : TellOkM (vecL w.heap.size) b0 b1 b2 many J g) (hJ : J c w) (hn0 : 0 ≤ n) (hn : n ≤ 1000) (hM0 : 0 ≤ many) (hM : many ≤ 1000) (hg : cntO g n.toNat many.toNat [] = some s) :
  Calls Try.prog 97 #[.int .i64 many, .int .i64 n, .func (.func 98) #[] #[.pointer (some ⟨b0, 0, none⟩), .pointer (some ⟨b1, 0, none⟩), .pointer (some ⟨b2, 0, none⟩)]] w fun e w' => e = .returned (.tuple #[]) ∧ J (c + s) w' ∧ w.heap.size ≤ w'.heap.size := by
 have HT := Aside0.mk hT; have HJ := Aside0.mk hJ; have HG := Aside0.mk hg; clear hT hJ hg; obtain ⟨m, rfl⟩ := Int.eq_ofNat_of_zero_le hM0; have hmk := print_make (P := Try.prog) 25 3 .i64 8 Try.underlying25 vecInfo (by decide) m (by omega)
 go_enter Try.func97, Try.ntmps97
 go_wp2_with (go_at_call 139; refine (vec_allM HT.out hn0 hn hM m 0 c s _ _ (vec_startM w b0 b1 b2 m n (by omega)) (HT.out.1 _ _ _ HJ.out ((((((((Below.refl w.heap.size w).alloc (Nat.le_refl _) _).alloc (by simp) _).alloc (by simp <;> omega) _).alloc (by simp <;> omega) _).alloc (by simp <;> omega) _).alloc (by simp <;> omega) _))) (Int.le_refl 0) (by omega) HG.out).mono ?_; rintro e w2 ⟨rfl, zs, _, _, hj2, hz2⟩)
 go_end0
 exact ⟨rfl, hj2, by simp at hz2; omega⟩
/-! ### vectors at which a form has a value, counted -/
def tellM (k : Nat) (form : List Int) (t : Int) (v : List Int) : Option Bool := (impl_pair.f k form v v).bind fun s => some (s == t)
def JM (w0 : World) (A : Option Addr) (c0 : Nat) (form : List Int) (t : Int) (b0 b1 b2 : Nat) (c : Int) (w : World) : Prop :=
 w.heap[b0]? = some (.cells #[.slice A form.length c0] 25 (0, 0)) ∧ w.heap[b1]? = some (.cells #[.int .i64 t] 3 (0, 0)) ∧ w.heap[b2]? = some (.cells #[.int .i64 (wrap64 c)] 3 (0, 0)) ∧ Below w0.heap.size w0 w
set_option maxHeartbeats 4000000 in
set_option maxRecDepth 100000 in
theorem tell_okM {w0 : World} {A : Option Addr} {c0 : Nat} {form : List Int} {t : Int} {b0 b1 b2 k : Nat} {L : VecL} (hr0 : Kd.C (Kd.int .i64) w0 A form.length form) (hc0 : form.length ≤ c0) (h0 : w0.heap.size ≤ b0) (h01 : b0 < b1) (h12 : b1 < b2) (hL : b2 < L.a) :
  TellOkM L b0 b1 b2 form.length (JM w0 A c0 form t b0 b1 b2) (tellM k form t) := by
 constructor
 ·rintro c w w' ⟨g0, g1, g2, hB⟩ hb; exact ⟨(hb.block _ (by omega)).trans g0, (hb.block _ (by omega)).trans g1, (hb.block _ (by omega)).trans g2, hB.trans (hb.mono (by omega))⟩
 ·rintro c b xs w ⟨g0, g1, g2, hB⟩ hm hR ha hg; have k0 := cell_of_one g0; have k1 := cell_of_one g1; have k2 := cell_of_one g2; have f2 := free_of_one g2; have HF := Aside0.mk (Kd.C_below hr0 hB); have HX := Aside0.mk (Kd.R_reads' (Kd.R_of_own (enc := Value.int .i64) (h1 := fun _ => rfl) (ok := fun _ => True) hR (fun _ _ => trivial))).2.2; have HCF := Aside0.mk hc0; have HG := Aside0.mk (show _ ∧ _ ∧ _ ∧ _ from ⟨g0, g1, g2, hB⟩); have HH := Aside0.mk (show _ ∧ _ ∧ _ ∧ _ from ⟨h0, h01, h12, hL⟩)
  unfold tellM at hg
  obtain ⟨s, hs, hg⟩ := Option.bind_eq_some_iff.mp hg; have hb := Option.some.inj hg; have HP := Aside0.mk hs; have HE := Aside0.mk hb; clear g0 g1 g2 hB hR hs hg hb hr0 hc0 h0 h01 h12 hL
  by_cases c1 : s = t
  ·have c1b := beq_iff_eq.mpr c1; obtain rfl : b = true := by rw [← HE.out]; exact c1b
   rw [if_pos rfl]; clear c1 hg HE
   go_enter Try.func98, Try.ntmps98
   go_wp2_with fail
   go_quiet ((go_at_call 99; refine Calls.quiet_of (v := .int .i64 s) ((impl_pair.calls k _ _ form _ _ xs _ _ xs s _ ?s1 ?s2 ?s3 ?s4 ?s5 ?s6 HP.out).mono ?s7); (case s7 => (rintro e w' ⟨rfl, ⟨nd, rfl⟩⟩; exact ⟨rfl, nd, rfl⟩)); (case s1 => exact Sqz.mvC HF.out); (case s2 => exact HCF.out); (case s3 => exact Sqz.mvC HX.out); (case s4 => exact Nat.le_refl _); (case s5 => exact Sqz.mvC HX.out); (case s6 => exact Nat.le_refl _)))
   go_wp2_with fail
   go_end0
   obtain ⟨g0, g1, g2, hB⟩ := HG.out; obtain ⟨h0, h01, h12, hL⟩ := HH.out; refine ⟨rfl, ⟨(Below.heap_setCell _ _ _ _ (show b0 ≠ b2 by omega)).trans g0, (Below.heap_setCell _ _ _ _ (show b1 ≠ b2 by omega)).trans g1, ?_, (pw_below_drewN hB _).setCell (show _ ≤ b2 by omega) _⟩, fun k h1 h2 => Below.heap_setCell _ _ _ _ (show k ≠ b2 by omega), by simp [World.setCell]⟩; rw [show wrap64 (c + 1) = wrap64 (wrap64 c + 1) by unfold wrap64; omega]; exact one_setCell (w := w.drewN nq) g2
  ·have c1b := beq_eq_false_iff_ne.mpr c1; obtain rfl : b = false := by rw [← HE.out]; exact c1b
   rw [if_neg (by simp), Int.add_zero]; clear c1 hg HE
   go_enter Try.func98, Try.ntmps98
   go_wp2_with fail
   go_quiet ((go_at_call 99; refine Calls.quiet_of (v := .int .i64 s) ((impl_pair.calls k _ _ form _ _ xs _ _ xs s _ ?s1 ?s2 ?s3 ?s4 ?s5 ?s6 HP.out).mono ?s7); (case s7 => (rintro e w' ⟨rfl, ⟨nd, rfl⟩⟩; exact ⟨rfl, nd, rfl⟩)); (case s1 => exact Sqz.mvC HF.out); (case s2 => exact HCF.out); (case s3 => exact Sqz.mvC HX.out); (case s4 => exact Nat.le_refl _); (case s5 => exact Sqz.mvC HX.out); (case s6 => exact Nat.le_refl _)))
   go_wp2_with fail
   go_end0
   obtain ⟨g0, g1, g2, hB⟩ := HG.out; exact ⟨rfl, ⟨g0, g1, g2, pw_below_drewN hB _⟩, fun _ _ _ => rfl, Nat.le_refl _⟩
def impl_ValueMany.f (k : Nat) (l0 : List Int) (a1 a2 : Int) : Option Int := (impl_FormValid.f k l0).bind fun v => if v = true then (if a1 < -1000 then some (-1) else if a1 > 1000 then some (-1) else if a2 < 1 then some (-1) else if a2 > 6 then some (-1) else if l0.length ≤ 1000 then ((cntO (tellM k l0 a1) a2.toNat l0.length []).bind fun r => some (wrap64 r)) else none) else some (-1)
theorem vm_call {k : Nat} {A0 : Option Addr} {c0 : Nat} {l0 : List Int} {a1 a2 s : Int} {w w1 : World} (hr0 : Kd.C (Kd.int .i64) w A0 l0.length l0) (hc0 : l0.length ≤ c0) (h0 : w1.heap[w.heap.size]? = some (.cells #[.slice A0 l0.length c0] 25 (0, 0))) (h1 : w1.heap[w.heap.size + 1]? = some (.cells #[.int .i64 a1] 3 (0, 0)))
  (hB : Below w.heap.size w w1) (hW : w.heap.size + 1 < w1.heap.size) (ha : 1 ≤ a2 ∧ a2 ≤ 6) (hl : l0.length ≤ 1000) (hs : cntO (tellM k l0 a1) a2.toNat ((l0.length : Int)).toNat [] = some s) :
  Calls Try.prog 97 #[.int .i64 (l0.length : Int), .int .i64 a2, .func (.func 98) #[] #[.pointer (some ⟨w.heap.size, 0, none⟩), .pointer (some ⟨w.heap.size + 1, 0, none⟩), .pointer (some ⟨w1.heap.size, 0, none⟩)]] (w1.alloc (.cells #[.int .i64 0] 3)) fun e w' =>
   e = .returned (.tuple #[]) ∧ w'.heap[w1.heap.size]? = some (.cells #[.int .i64 (wrap64 s)] 3 (0, 0)) ∧ Below w.heap.size w w' := by
 have hT : TellOkM (vecL (w1.alloc (.cells #[.int .i64 0] 3)).heap.size) w.heap.size (w.heap.size + 1) w1.heap.size l0.length (JM w A0 c0 l0 a1 w.heap.size (w.heap.size + 1) w1.heap.size) (tellM k l0 a1) :=
  tell_okM hr0 hc0 (Nat.le_refl _) (by omega) hW (by simp [vecL])
 have hJ : JM w A0 c0 l0 a1 w.heap.size (w.heap.size + 1) w1.heap.size 0 (w1.alloc (.cells #[.int .i64 0] 3)) :=
  ⟨(Below.heap_alloc _ _ _ (by omega)).trans h0, (Below.heap_alloc _ _ _ (by omega)).trans h1, by rw [show wrap64 0 = (0 : Int) by unfold wrap64; omega]; exact heap_alloc_new w1 _, hB.alloc (by omega) _⟩
 refine (vectorsM hT hJ (by omega) (by omega) (by omega) (by omega) hs).mono ?_; rintro e w' ⟨he, ⟨_, _, g2, hb⟩, _⟩; rw [Int.zero_add] at g2; exact ⟨he, g2, hb⟩
set_option maxHeartbeats 8000000 in
set_option maxRecDepth 100000 in
theorem impl_ValueMany.calls (k : Nat) (A0 : Option Addr) (c0 : Nat) (l0 : List Int) (a1 a2 : Int) (r : Int) (w : World) (hr0 : Kd.C (Kd.int .i64) w A0 l0.length l0) (hc0 : l0.length ≤ c0) (h : impl_ValueMany.f k l0 a1 a2 = some r) :
  Calls Try.prog 43 #[.slice A0 l0.length c0, .int .i64 a1, .int .i64 a2] w fun e w' => e = .returned (.int .i64 r) ∧ Below w.heap.size w w' := by
 unfold impl_ValueMany.f at h
 obtain ⟨v, hv, h⟩ := Option.bind_eq_some_iff.mp h; have HV := Aside0.mk hv; have HF := Aside0.mk hr0; have HC := Aside0.mk hc0; clear hv; have hB0 : Below w.heap.size w ((w.alloc (.cells #[.slice A0 l0.length c0] 25)).alloc (.cells #[.int .i64 a1] 3)) := ((Below.refl _ w).alloc (Nat.le_refl _) _).alloc (by simp) _; have g0 : ((w.alloc (.cells #[.slice A0 l0.length c0] 25)).alloc (.cells #[.int .i64 a1] 3)).heap[w.heap.size]? = some (.cells #[.slice A0 l0.length c0] 25 (0, 0)) := (Below.heap_alloc _ _ _ (by simp)).trans (heap_alloc_new w _); have g1 : ((w.alloc (.cells #[.slice A0 l0.length c0] 25)).alloc (.cells #[.int .i64 a1] 3)).heap[w.heap.size + 1]? = some (.cells #[.int .i64 a1] 3 (0, 0)) := by simpa using heap_alloc_new (w.alloc (.cells #[.slice A0 l0.length c0] 25)) (.cells #[.int .i64 a1] 3)
 have HB0 := Aside0.mk hB0; have HG0 := Aside0.mk g0; have HG1 := Aside0.mk g1; clear hB0 g0 g1 hr0 hc0; cases v with
 | false =>
  have hr := Option.some.inj h; subst hr; clear h
  go_enter Try.func43, Try.ntmps43
  go_wp2_with (go_at_call 20; refine (impl_FormValid.calls k _ _ l0 false _ ?s1 ?s2 HV.out).mono ?_; (case s1 => exact Kd.C_below HF.out HB0.out); (case s2 => exact HC.out); rintro e w1 ⟨rfl, hb⟩; have k0 := cell_of_one ((hb.block w.heap.size (by simp <;> omega)).trans HG0.out); have k1 := cell_of_one ((hb.block (w.heap.size + 1) (by simp)).trans HG1.out); have HB1 := Aside0.mk (HB0.out.trans (hb.mono (by simp <;> omega))); clear hb)
  go_ret
  exact ⟨rfl, HB1.out⟩
 | true =>
  rw [if_pos rfl] at h
  by_cases c1 : a1 < -1000
  ·rw [if_pos c1] at h; have hr := Option.some.inj h; subst hr; have d1 := decide_eq_true c1; clear h c1
   go_enter Try.func43, Try.ntmps43
   go_wp2_with (go_at_call 20; refine (impl_FormValid.calls k _ _ l0 true _ ?s1 ?s2 HV.out).mono ?_; (case s1 => exact Kd.C_below HF.out HB0.out); (case s2 => exact HC.out); rintro e w1 ⟨rfl, hb⟩; have k0 := cell_of_one ((hb.block w.heap.size (by simp <;> omega)).trans HG0.out); have k1 := cell_of_one ((hb.block (w.heap.size + 1) (by simp)).trans HG1.out); have HB1 := Aside0.mk (HB0.out.trans (hb.mono (by simp <;> omega))); clear hb)
   go_ret
   exact ⟨rfl, HB1.out⟩
  ·rw [if_neg c1] at h; have d1 := decide_eq_false c1
   by_cases c2 : a1 > 1000
   ·rw [if_pos c2] at h; have hr := Option.some.inj h; subst hr; have d2 : decide (1000 < a1) = true := decide_eq_true c2; clear h c1 c2
    go_enter Try.func43, Try.ntmps43
    go_wp2_with (go_at_call 20; refine (impl_FormValid.calls k _ _ l0 true _ ?s1 ?s2 HV.out).mono ?_; (case s1 => exact Kd.C_below HF.out HB0.out); (case s2 => exact HC.out); rintro e w1 ⟨rfl, hb⟩; have k0 := cell_of_one ((hb.block w.heap.size (by simp <;> omega)).trans HG0.out); have k1 := cell_of_one ((hb.block (w.heap.size + 1) (by simp)).trans HG1.out); have HB1 := Aside0.mk (HB0.out.trans (hb.mono (by simp <;> omega))); clear hb)
    go_ret
    exact ⟨rfl, HB1.out⟩
   ·rw [if_neg c2] at h; have d2 : decide (1000 < a1) = false := decide_eq_false c2
    by_cases c3 : a2 < 1
    ·rw [if_pos c3] at h; have hr := Option.some.inj h; subst hr; have d3 := decide_eq_true c3; clear h c1 c2 c3
     go_enter Try.func43, Try.ntmps43
     go_wp2_with (go_at_call 20; refine (impl_FormValid.calls k _ _ l0 true _ ?s1 ?s2 HV.out).mono ?_; (case s1 => exact Kd.C_below HF.out HB0.out); (case s2 => exact HC.out); rintro e w1 ⟨rfl, hb⟩; have k0 := cell_of_one ((hb.block w.heap.size (by simp <;> omega)).trans HG0.out); have k1 := cell_of_one ((hb.block (w.heap.size + 1) (by simp)).trans HG1.out); have HB1 := Aside0.mk (HB0.out.trans (hb.mono (by simp <;> omega))); clear hb)
     go_ret
     exact ⟨rfl, HB1.out⟩
    ·rw [if_neg c3] at h; have d3 := decide_eq_false c3
     by_cases c4 : a2 > 6
     ·rw [if_pos c4] at h; have hr := Option.some.inj h; subst hr; have d4 : decide (6 < a2) = true := decide_eq_true c4; clear h c1 c2 c3 c4
      go_enter Try.func43, Try.ntmps43
      go_wp2_with (go_at_call 20; refine (impl_FormValid.calls k _ _ l0 true _ ?s1 ?s2 HV.out).mono ?_; (case s1 => exact Kd.C_below HF.out HB0.out); (case s2 => exact HC.out); rintro e w1 ⟨rfl, hb⟩; have k0 := cell_of_one ((hb.block w.heap.size (by simp <;> omega)).trans HG0.out); have k1 := cell_of_one ((hb.block (w.heap.size + 1) (by simp)).trans HG1.out); have HB1 := Aside0.mk (HB0.out.trans (hb.mono (by simp <;> omega))); clear hb)
      go_ret
      exact ⟨rfl, HB1.out⟩
     ·rw [if_neg c4] at h; have d4 : decide (6 < a2) = false := decide_eq_false c4
      by_cases c5 : l0.length ≤ 1000
      ·rw [if_pos c5] at h; obtain ⟨s, hs, h⟩ := Option.bind_eq_some_iff.mp h; have hr := Option.some.inj h; subst hr; have HS := Aside0.mk (show cntO (tellM k l0 a1) a2.toNat ((l0.length : Int)).toNat [] = some s from hs); have HL := Aside0.mk c5; have HA := Aside0.mk (show 1 ≤ a2 ∧ a2 ≤ 6 from ⟨by omega, by omega⟩); clear h hs c1 c2 c3 c4 c5
       go_enter Try.func43, Try.ntmps43
       go_wp2_with (first | (go_at_call 20; refine (impl_FormValid.calls k _ _ l0 true _ ?s1 ?s2 HV.out).mono ?_; (case s1 => exact Kd.C_below HF.out HB0.out); (case s2 => exact HC.out); rintro e w1 ⟨rfl, hb⟩; have k0 := cell_of_one ((hb.block w.heap.size (by simp <;> omega)).trans HG0.out); have k1 := cell_of_one ((hb.block (w.heap.size + 1) (by simp)).trans HG1.out); have K0 := Aside0.mk ((hb.block w.heap.size (by simp <;> omega)).trans HG0.out); have K1 := Aside0.mk ((hb.block (w.heap.size + 1) (by simp)).trans HG1.out); have HW := Aside0.mk (show w.heap.size + 1 < w1.heap.size by have := hb.size; simp at this; omega); have hw0 : w.heap.size < w1.heap.size := (by have := HW.out; omega); have HB1 := Aside0.mk (HB0.out.trans (hb.mono (by simp <;> omega))); clear hb) | (go_at_call 97; refine (vm_call HF.out HC.out K0.out K1.out HB1.out HW.out HA.out HL.out HS.out).mono ?_; rintro e w2 ⟨rfl, h2, hb2⟩; have k2 := cell_of_one h2; have HB2 := Aside0.mk hb2; clear h2 hb2 k0 k1 hw0))
       go_ret
       exact ⟨rfl, HB2.out⟩
      ·rw [if_neg c5] at h; cases h

end

/-! ### slices_Clone_int_int: function 81 -/
section
open Locg
theorem cloneInfo : (Try.prog.info? 3).map (fun i => (i.zero, i.size, i.bytes)) = some (some (.int .i64 0), 1, 8) := by kernel_rfl
def slices_Clone_int_int.f (l0 : List Int) : Option (List Int) := if l0.length ≤ 17592186044416 then some l0 else none
set_option maxHeartbeats 4000000 in
set_option maxRecDepth 100000 in
theorem slices_Clone_int_int.calls (A0 : Option Addr) (c0 : Nat) (l0 : List Int) (r : List Int) (w : World) (hr0 : Kd.C (Kd.int .i64) w A0 l0.length l0) (hc0 : l0.length ≤ c0) (h : slices_Clone_int_int.f l0 = some r) :
  Calls Try.prog 81 #[.slice A0 l0.length c0] w fun e w' => ∃ v0_ : Value, e = .returned (v0_) ∧ Kd.R (Kd.int .i64) 3 w' w.heap.size (fun _ => True) v0_ r ∧ Below w.heap.size w w' := by
 unfold slices_Clone_int_int.f at h
 by_cases hl : l0.length ≤ 17592186044416
 ·rw [if_pos hl] at h; injection h with h
  subst h; have hR : ReadsInt w .i64 A0 l0.length l0 := Kd.reads_of_C (enc := Value.int .i64) (d := (0 : Int)) (h1 := fun _ => rfl) hr0
  rcases A0 with _ | ad
  ·obtain rfl : l0 = [] := by
    rcases Nat.eq_zero_or_pos l0.length with h0 | h0
    ·exact List.eq_nil_of_length_eq_zero h0
    ·obtain ⟨ad, he, _⟩ := hR.2.2 h0; cases he
   clear hR hr0 hl; have he := fun W => Lib.run_eql_slice_nil (P := Try.prog) W 25 3 none (List.length ([] : List Int)) c0 0 0 Try.underlying25
   simp only [List.length_nil] at he ⊢
   go_enter Try.func81, Try.ntmps81
   go_wp2; go_ret
   exact ⟨_, rfl, Kd.R_nil _ _ _ _ _, Below.refl _ _⟩
  ·have he := fun W => Lib.run_eql_slice_nil (P := Try.prog) W 25 3 (some ad) l0.length c0 0 0 Try.underlying25
   have HR := Lib.hid hR; have HL := Lib.hid hl; clear hR hr0 hl
   go_enter Try.func81, Try.ntmps81
   go_wp2_with (at_builtin; refine print_append_row (w0 := w) w.heap.size rfl (.tmp 5) (.tmp 6) 25 3 .i64 8 rfl Try.underlying25 cloneInfo (by decide) (.slice (some ⟨w.heap.size, 0, none⟩) 0 0) [] l0 (some ad) l0.length c0 rfl rfl (own_lit w w.heap.size 3 .i64 [] (Nat.le_refl _) (by simp)) (HR.out.below (below_alloc (Below.refl _ _) _)) (below_alloc (Below.refl _ _) _) (by simp) (by have := HL.out; simp; omega) ?_; intro v1 w1 hown1 hB1 hg1 hat1; clear hat1; obtain ⟨A1, k1, rfl⟩ := own_slice hown1)
   go_ret
   exact ⟨_, rfl, Kd.R_of_own hown1 (fun _ _ => trivial), hB1⟩
 ·rw [if_neg hl] at h; cases h

end

/-! ### impl_valueOk: function 82 -/
def impl_valueOk.f (a0 : Int) : Option (Bool) := if a0 = 0 then (some false) else (if a0 ≥ (-30) then (some (decide (a0 ≤ 30))) else (some false))
set_option maxHeartbeats 8000000 in
set_option maxRecDepth 100000 in
theorem impl_valueOk.calls (a0 : Int) (r : Bool) (w : World) (h : impl_valueOk.f a0 = some r) :
  Calls Try.prog 82 #[.int .i64 a0] w fun e w' => e = .returned (.bool r) ∧ Drawn0 w w' := by
 have H : (if a0 = 0 then (some false) else (if a0 ≥ (-30) then (some (decide (a0 ≤ 30))) else (some false))) = some r := h; clear h
 by_cases c2 : a0 = 0
 ·rw [if_pos c2] at H; have c2b0 := beq_iff_eq.mpr c2; have c2b1 := bne_eq_false_iff_eq.mpr c2; clear c2; obtain rfl := Option.some.inj H
  go_enter Try.func82, Try.ntmps82
  go_wp2; go_ret
  exact ⟨Sqz.auS, by repeat (first | exact Drawn0.refl _ | apply Drawn0.step)⟩
 ·rw [if_neg c2] at H; have c2b0 := beq_eq_false_iff_ne.mpr c2; have c2b1 := bne_iff_ne.mpr c2
  by_cases c3 : a0 ≥ (-30)
  ·rw [if_pos c3] at H; have c3b0 : decide ((-30) ≤ a0) = true := decide_eq_true c3; clear c3; obtain rfl := Option.some.inj H
   go_enter Try.func82, Try.ntmps82
   go_wp2; go_ret
   exact ⟨Sqz.auS, by repeat (first | exact Drawn0.refl _ | apply Drawn0.step)⟩
  ·rw [if_neg c3] at H; have c3b0 : decide ((-30) ≤ a0) = false := decide_eq_false c3; clear c3; obtain rfl := Option.some.inj H
   go_enter Try.func82, Try.ntmps82
   go_wp2; go_ret
   exact ⟨Sqz.auS, by repeat (first | exact Drawn0.refl _ | apply Drawn0.step)⟩

/-! ### impl_split: function 112 -/
def impl_split.l0 : Nat → Int → Int → Int → Option (Int × Int)
 | 0, _, _, _ => none
 | k + 1, x0, x1, x6 => if x1 = 0 then (none) else (if (Int.tmod x0 x1) = 0 then (impl_split.l0 k (wrap64 (Int.tdiv x0 x1)) x1 (wrap64 (x6 + 1))) else (some (x6, x0)))
def impl_split.f (k : Nat) (a0 : Int) (a1 : Int) : Option (Int × Int) := impl_split.l0 k a0 a1 0
set_option maxHeartbeats 8000000 in
set_option maxRecDepth 100000 in
theorem impl_split.calls (k : Nat) (a0 : Int) (a1 : Int) (r1 : Int) (r2 : Int) (w : World) (h : impl_split.f k a0 a1 = some (r1, r2)) :
  Calls Try.prog 112 #[.int .i64 a0, .int .i64 a1] w fun e w' => e = .returned (.tuple #[.int .i64 r1, .int .i64 r2]) ∧ Drawn0 w w' := by
 have H : (impl_split.l0 k a0 a1 0) = some (r1, r2) := h; clear h; have H' := Aside0.mk H; clear H
 go_enter Try.func112, Try.ntmps112
 go_wp2
 go_loopg [0, 6] k (fun kq v0 v6 w' => ∃ (x0_1 : Int) (x6_1 : Int), v0 = .int .i64 x0_1 ∧ v6 = .int .i64 x6_1 ∧ Aside0 (impl_split.l0 kq x0_1 a1 x6_1 = some (r1, r2)) ∧ Aside0 (kq ≤ k) ∧ Drawn0 w w')
 case atStart => exact ⟨(a0), (0), Sqz.auS, Sqz.auS, H', ⟨Nat.le_refl _⟩, by repeat (first | exact Drawn0.refl _ | apply Drawn0.step)⟩
 case round =>
  clear H'
  try clear c1
  try clear p2
  obtain ⟨x0_1, x6_1, rfl, rfl, HA, HK1, ⟨m1, rfl⟩⟩ := hrel; cases gk with
  | zero => exact absurd HA.out (by simp [impl_split.l0])
  | succ k1 =>
   have H := HA.out; clear HA; simp only [impl_split.l0] at H
   by_cases c3 : a1 = 0
   ·rw [if_pos c3] at H; exact absurd H (by simp)
   ·rw [if_neg c3] at H; have c3b0 := beq_eq_false_iff_ne.mpr c3; have c3b1 := bne_iff_ne.mpr c3
    by_cases c4 : (Int.tmod x0_1 a1) = 0
    ·rw [if_pos c4] at H; have c4b0 := beq_iff_eq.mpr c4; have c4b1 := bne_eq_false_iff_eq.mpr c4; clear c4; have H' := Aside0.mk H; clear H; go_wp2
     go_roundg k1
     case measure => have := HK1.out; omega
     case rel => exact ⟨(wrap64 (Int.tdiv x0_1 a1)), (wrap64 (x6_1 + 1)), Sqz.auS, Sqz.auS, H', ⟨by have := HK1.out; omega⟩, by repeat (first | exact Drawn0.refl _ | apply Drawn0.step)⟩
    ·rw [if_neg c4] at H; have c4b0 := beq_eq_false_iff_ne.mpr c4; have c4b1 := bne_iff_ne.mpr c4; simp only [Option.some.injEq, Prod.mk.injEq] at H; obtain ⟨rfl, rfl⟩ := H; go_wp2; go_ret2
     exact ⟨Sqz.auS, by repeat (first | exact Drawn0.refl _ | apply Drawn0.step)⟩

/-! ### impl_rest: function 134 -/
def impl_rest.f (a0 : Int) (a1 : Int) : Option (Int) := if a1 = 0 then (none) else (some (Int.tmod (wrap64 ((Int.tmod a0 a1) + a1)) a1))
set_option maxHeartbeats 8000000 in
set_option maxRecDepth 100000 in
theorem impl_rest.calls (a0 : Int) (a1 : Int) (r : Int) (w : World) (h : impl_rest.f a0 a1 = some r) :
  Calls Try.prog 134 #[.int .i64 a0, .int .i64 a1] w fun e w' => e = .returned (.int .i64 r) ∧ Drawn0 w w' := by
 have H : (if a1 = 0 then (none) else (some (Int.tmod (wrap64 ((Int.tmod a0 a1) + a1)) a1))) = some r := h; clear h
 by_cases c3 : a1 = 0
 ·rw [if_pos c3] at H; exact absurd H (by simp)
 ·rw [if_neg c3] at H; have c3b0 := beq_eq_false_iff_ne.mpr c3; have c3b1 := bne_iff_ne.mpr c3; obtain rfl := Option.some.inj H
  go_enter Try.func134, Try.ntmps134
  go_wp2; go_ret
  exact ⟨Sqz.auS, by repeat (first | exact Drawn0.refl _ | apply Drawn0.step)⟩

/-! ### impl_residue: function 135 -/
def impl_residue.l0 : Nat → Int → Int → Int → Option (Int)
 | 0, _, _, _ => none
 | k + 1, x1, x5, x6 => if x6 ≤ (wrap64 (Int.tdiv x1 2)) then (if x1 = 0 then (none) else (if (Int.tmod (wrap64 (x6 * x6)) x1) = x5 then (some 1) else (impl_residue.l0 k x1 x5 (wrap64 (x6 + 1))))) else (some (-1))
def impl_residue.f (k : Nat) (a0 : Int) (a1 : Int) : Option (Int) := (impl_rest.f a0 a1).bind fun t106 => (if t106 = 0 then (some 0) else (impl_residue.l0 k a1 t106 1))
set_option maxHeartbeats 8000000 in
set_option maxRecDepth 100000 in
theorem impl_residue.calls (k : Nat) (a0 : Int) (a1 : Int) (r : Int) (w : World) (h : impl_residue.f k a0 a1 = some r) :
  Calls Try.prog 135 #[.int .i64 a0, .int .i64 a1] w fun e w' => e = .returned (.int .i64 r) ∧ Drawn0 w w' := by
 have H : ((impl_rest.f a0 a1).bind fun t106 => (if t106 = 0 then (some 0) else (impl_residue.l0 k a1 t106 1))) = some r := h; clear h; obtain ⟨t106, A3, H⟩ := Sqz.be H
 by_cases c4 : t106 = 0
 ·rw [if_pos c4] at H; have c4b0 := beq_iff_eq.mpr c4; have c4b1 := bne_eq_false_iff_eq.mpr c4; clear c4; obtain rfl := Option.some.inj H
  go_enter Try.func135, Try.ntmps135
  go_wp2_with (first | ((with_reducible refine gate_callee (f := 134) rfl ?_); refine goesL_ (some 9) rfl rfl Try.func134 (by kernel_rfl) rfl #[.int .i64 a0, .int .i64 a1] rfl Sqz.auM ?_; (with_reducible refine (impl_rest.calls a0 a1 t106 _ A3.out).mono ?_); rintro e w' ⟨rfl, ⟨nd, rfl⟩⟩; refine ⟨_, rfl, ?_⟩))
  go_ret
  exact ⟨Sqz.auS, by repeat (first | exact Drawn0.refl _ | apply Drawn0.step)⟩
 ·rw [if_neg c4] at H; have c4b0 := beq_eq_false_iff_ne.mpr c4; have c4b1 := bne_iff_ne.mpr c4; have H' := Aside0.mk H; clear H
  go_enter Try.func135, Try.ntmps135
  go_wp2_with (first | ((with_reducible refine gate_callee (f := 134) rfl ?_); refine goesL_ (some 9) rfl rfl Try.func134 (by kernel_rfl) rfl #[.int .i64 a0, .int .i64 a1] rfl Sqz.auM ?_; (with_reducible refine (impl_rest.calls a0 a1 t106 _ A3.out).mono ?_); rintro e w' ⟨rfl, ⟨nd, rfl⟩⟩; refine ⟨_, rfl, ?_⟩))
  go_loopg [6] k (fun kq v6 w' => ∃ (x6_1 : Int), v6 = .int .i64 x6_1 ∧ Aside0 (impl_residue.l0 kq a1 t106 x6_1 = some r) ∧ Aside0 (kq ≤ k) ∧ Drawn0 w w')
  case atStart => exact ⟨(1), Sqz.auS, H', ⟨Nat.le_refl _⟩, by repeat (first | exact Drawn0.refl _ | apply Drawn0.step)⟩
  case round =>
   clear H'
   try clear c1
   try clear p2
   try clear c4
   try clear c4b0
   try clear c4b1
   obtain ⟨x6_1, rfl, HA, HK1, ⟨m1, rfl⟩⟩ := hrel; cases gk with
   | zero => exact absurd HA.out (by simp [impl_residue.l0])
   | succ k1 =>
    have H := HA.out; clear HA; simp only [impl_residue.l0] at H
    by_cases c5 : x6_1 ≤ (wrap64 (Int.tdiv a1 2))
    ·rw [if_pos c5] at H; have c5b0 := decide_eq_true c5; clear c5
     by_cases c6 : a1 = 0
     ·rw [if_pos c6] at H; exact absurd H (by simp)
     ·rw [if_neg c6] at H; have c6b0 := beq_eq_false_iff_ne.mpr c6; have c6b1 := bne_iff_ne.mpr c6
      by_cases c7 : (Int.tmod (wrap64 (x6_1 * x6_1)) a1) = t106
      ·rw [if_pos c7] at H; have c7b0 := beq_iff_eq.mpr c7; have c7b1 := bne_eq_false_iff_eq.mpr c7; clear c7; obtain rfl := Option.some.inj H; go_wp2; go_ret
       exact ⟨Sqz.auS, by repeat (first | exact Drawn0.refl _ | apply Drawn0.step)⟩
      ·rw [if_neg c7] at H; have c7b0 := beq_eq_false_iff_ne.mpr c7; have c7b1 := bne_iff_ne.mpr c7; have H' := Aside0.mk H; clear H; go_wp2
       go_roundg k1
       case measure => have := HK1.out; omega
       case rel => exact ⟨(wrap64 (x6_1 + 1)), Sqz.auS, H', ⟨by have := HK1.out; omega⟩, by repeat (first | exact Drawn0.refl _ | apply Drawn0.step)⟩
    ·rw [if_neg c5] at H; have c5b0 := decide_eq_false c5; clear c5; obtain rfl := Option.some.inj H; go_wp2; go_ret
     exact ⟨Sqz.auS, by repeat (first | exact Drawn0.refl _ | apply Drawn0.step)⟩

end Go.Proofs.Ytihadpckmcebgaa.PFnValueMany
