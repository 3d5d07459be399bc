/- A function's Lean twin and its walk, written by a program of this session. -/
import Derived.Test.YtihadpckmcebgaaTPFnValueManyx0
import Derived.Test.YtihadpckmcebgaaTPFnValueManyx1
namespace Go.Proofs.Ytihadpckmcebgaa.PFnValueMany
open Go.RowKit Go.Proofs.YtihadpckmcebgaaW.PrintWords Go.Proofs.YtihadpckmcebgaaW.PrintLast Go.Proofs.YtihadpckmcebgaaW.PrintMore
attribute [local go_sem] max2_int min2_int max_two min_two max_three min_three max_four min_four   -- for this text's walks alone
set_option linter.unusedVariables false
set_option linter.unusedSimpArgs false

/-! ### impl_localSquare: function 89 -/
def impl_localSquare.f (k : Nat) (a0 : Int) (a1 : Int) : Option (Bool) := if a1 = 0 then (some (decide (a0 > 0))) else ((impl_split.f k a0 a1).bind fun bt107 => (if (Int.tmod bt107.1 2) = 0 then (if a1 = 2 then ((impl_rest.f bt107.2 8).bind fun t109 => (some (t109 == 1))) else ((impl_residue.f k bt107.2 a1).bind fun t110 => (some (t110 == 1)))) else (some false)))
set_option maxHeartbeats 8000000 in
set_option maxRecDepth 100000 in
theorem impl_localSquare.calls (k : Nat) (a0 : Int) (a1 : Int) (r : Bool) (w : World) (h : impl_localSquare.f k a0 a1 = some r) :
  Calls Try.prog 89 #[.int .i64 a0, .int .i64 a1] w fun e w' => e = .returned (.bool r) ∧ Drawn0 w w' := by
 have H : (if a1 = 0 then (some (decide (a0 > 0))) else ((impl_split.f k a0 a1).bind fun bt107 => (if (Int.tmod bt107.1 2) = 0 then (if a1 = 2 then ((impl_rest.f bt107.2 8).bind fun t109 => (some (t109 == 1))) else ((impl_residue.f k bt107.2 a1).bind fun t110 => (some (t110 == 1)))) else (some false)))) = some r := h; clear h
 by_cases c3 : a1 = 0
 ·rw [if_pos c3] at H; have c3b0 := beq_iff_eq.mpr c3; have c3b1 := bne_eq_false_iff_eq.mpr c3; clear c3; obtain rfl := Option.some.inj H
  go_enter Try.func89, Try.ntmps89
  go_wp2; go_ret
  exact ⟨Sqz.auS, by repeat (first | exact Drawn0.refl _ | apply Drawn0.step)⟩
 ·rw [if_neg c3] at H; have c3b0 := beq_eq_false_iff_ne.mpr c3; have c3b1 := bne_iff_ne.mpr c3; replace H := Option.bind_eq_some_iff.mp H; obtain ⟨⟨t107, t108⟩, A40, H⟩ := H; replace H : (if (Int.tmod t107 2) = 0 then (if a1 = 2 then ((impl_rest.f t108 8).bind fun t109 => (some (t109 == 1))) else ((impl_residue.f k t108 a1).bind fun t110 => (some (t110 == 1)))) else (some false)) = some r := H; have A4 := Aside0.mk A40; clear A40
  by_cases c5 : (Int.tmod t107 2) = 0
  ·rw [if_pos c5] at H; have c5b0 := beq_iff_eq.mpr c5; have c5b1 := bne_eq_false_iff_eq.mpr c5; clear c5
   by_cases c6 : a1 = 2
   ·rw [if_pos c6] at H; have c6b0 := beq_iff_eq.mpr c6; have c6b1 := bne_eq_false_iff_eq.mpr c6; clear c6; obtain ⟨t109, A7, H⟩ := Sqz.be H; obtain rfl := Option.some.inj H
    go_enter Try.func89, Try.ntmps89
    go_wp2_with (first | ((with_reducible refine gate_callee (f := 112) rfl ?_); refine goesL_ (some 14) rfl rfl Try.func112 (by kernel_rfl) rfl #[.int .i64 a0, .int .i64 a1] rfl Sqz.auM ?_; (with_reducible refine (impl_split.calls k a0 a1 t107 t108 _ A4.out).mono ?_); rintro e w' ⟨rfl, ⟨nd, rfl⟩⟩; refine ⟨_, rfl, ?_⟩) | ((with_reducible refine gate_callee (f := 134) rfl ?_); refine goesL_ (some 23) rfl rfl Try.func134 (by kernel_rfl) rfl #[.int .i64 t108, .int .i64 8] rfl Sqz.auM ?_; (with_reducible refine (impl_rest.calls t108 8 t109 _ A7.out).mono ?_); rintro e w' ⟨rfl, ⟨nd, rfl⟩⟩; refine ⟨_, rfl, ?_⟩))
    go_ret
    exact ⟨Sqz.auS, by repeat (first | exact Drawn0.refl _ | apply Drawn0.step)⟩
   ·rw [if_neg c6] at H; have c6b0 := beq_eq_false_iff_ne.mpr c6; have c6b1 := bne_iff_ne.mpr c6; obtain ⟨t110, A8, H⟩ := Sqz.be H; obtain rfl := Option.some.inj H
    go_enter Try.func89, Try.ntmps89
    go_wp2_with (first | ((with_reducible refine gate_callee (f := 112) rfl ?_); refine goesL_ (some 14) rfl rfl Try.func112 (by kernel_rfl) rfl #[.int .i64 a0, .int .i64 a1] rfl Sqz.auM ?_; (with_reducible refine (impl_split.calls k a0 a1 t107 t108 _ A4.out).mono ?_); rintro e w' ⟨rfl, ⟨nd, rfl⟩⟩; refine ⟨_, rfl, ?_⟩) | ((with_reducible refine gate_callee (f := 135) rfl ?_); refine goesL_ (some 27) rfl rfl Try.func135 (by kernel_rfl) rfl #[.int .i64 t108, .int .i64 a1] rfl Sqz.auM ?_; (with_reducible refine (impl_residue.calls k t108 a1 t110 _ A8.out).mono ?_); rintro e w' ⟨rfl, ⟨nd, rfl⟩⟩; refine ⟨_, rfl, ?_⟩))
    go_ret
    exact ⟨Sqz.auS, by repeat (first | exact Drawn0.refl _ | apply Drawn0.step)⟩
  ·rw [if_neg c5] at H; have c5b0 := beq_eq_false_iff_ne.mpr c5; have c5b1 := bne_iff_ne.mpr c5; obtain rfl := Option.some.inj H
   go_enter Try.func89, Try.ntmps89
   go_wp2_with (first | ((with_reducible refine gate_callee (f := 112) rfl ?_); refine goesL_ (some 14) rfl rfl Try.func112 (by kernel_rfl) rfl #[.int .i64 a0, .int .i64 a1] rfl Sqz.auM ?_; (with_reducible refine (impl_split.calls k a0 a1 t107 t108 _ A4.out).mono ?_); rintro e w' ⟨rfl, ⟨nd, rfl⟩⟩; refine ⟨_, rfl, ?_⟩))
   go_ret
   exact ⟨Sqz.auS, by repeat (first | exact Drawn0.refl _ | apply Drawn0.step)⟩

/-! ### impl_product: function 124 -/
def impl_product.l0 : Nat → Int → List Int → Int → Int → Option (Int)
 | 0, _, _, _, _ => none
 | k + 1, x3, x6, x7, x8 => if x8 < x7 then (if 0 ≤ x8 then (if x8 < (x6.length : Int) then (impl_product.l0 k (wrap64 (x3 * (rd x6 x8))) x6 x7 (wrap64 (x8 + 1))) else (none)) else (none)) else (some x3)
def impl_product.f (k : Nat) (l0 : List Int) : Option (Int) := impl_product.l0 k 1 l0 (l0.length : Int) 0
set_option maxHeartbeats 8000000 in
set_option maxRecDepth 100000 in
theorem impl_product.calls (k : Nat) (A0 : Option Addr) (c0 : Nat) (l0 : List Int) (r : Int) (w : World) (hr0 : Kd.C (Kd.int .i64) w A0 l0.length l0) (hc0 : l0.length ≤ c0) (h : impl_product.f k l0 = some r) :
  Calls Try.prog 124 #[.slice A0 l0.length c0] w fun e w' => e = .returned (.int .i64 r) ∧ Drawn0 w w' := by
 have HR0 := Aside0.mk hr0; have HC0 := Aside0.mk hc0; clear hr0 hc0; have H : (impl_product.l0 k 1 l0 (l0.length : Int) 0) = some r := h; clear h; have H' := Aside0.mk H; clear H
 go_enter Try.func124, Try.ntmps124
 go_wp2
 go_loopg [3, 8] k (fun kq v3 v8 w' => ∃ (x3_1 : Int) (x8_1 : Int), v3 = .int .i64 x3_1 ∧ v8 = .int .i64 x8_1 ∧ Aside0 (impl_product.l0 kq x3_1 l0 (l0.length : Int) x8_1 = some r) ∧ Aside0 (kq ≤ k) ∧ Drawn0 w w')
 case atStart => exact ⟨(1), (0), Sqz.auS, Sqz.auS, H', ⟨Nat.le_refl _⟩, by repeat (first | exact Drawn0.refl _ | apply Drawn0.step)⟩
 case round =>
  clear H'
  try clear c1
  obtain ⟨x3_1, x8_1, rfl, rfl, HA, HK1, ⟨m1, rfl⟩⟩ := hrel; cases gk with
  | zero => exact absurd HA.out (by simp [impl_product.l0])
  | succ k1 =>
   have H := HA.out; clear HA; simp only [impl_product.l0] at H
   by_cases c2 : x8_1 < (l0.length : Int)
   ·rw [if_pos c2] at H; have c2b0 := decide_eq_true c2; clear c2
    by_cases c3 : 0 ≤ x8_1
    ·rw [if_pos c3] at H; have c3b0 := decide_eq_true c3; clear c3
     by_cases c4 : x8_1 < (l0.length : Int)
     ·rw [if_pos c4] at H; have c4b0 := decide_eq_true c4; clear c4; have H' := Aside0.mk H; clear H; have p111 : 0 ≤ (x8_1 : Int) := Sqz.od; have q111 : x8_1 < (l0.length : Int) := Sqz.od; obtain ⟨ad111, e111, hx111_0⟩ := Kd.at_int HR0.out x8_1 p111 q111; cases e111; replace p111 := eq_true p111; replace q111 := eq_true q111; go_wp2
      go_roundg k1
      case measure => have := HK1.out; omega
      case rel => exact ⟨(wrap64 (x3_1 * (rd l0 x8_1))), (wrap64 (x8_1 + 1)), Sqz.auS, Sqz.auS, H', ⟨by have := HK1.out; omega⟩, by repeat (first | exact Drawn0.refl _ | apply Drawn0.step)⟩
     ·rw [if_neg c4] at H; exact absurd H (by simp)
    ·rw [if_neg c3] at H; exact absurd H (by simp)
   ·rw [if_neg c2] at H; have c2b0 := decide_eq_false c2; clear c2; obtain rfl := Option.some.inj H; go_wp2; go_ret
    exact ⟨Sqz.auS, by repeat (first | exact Drawn0.refl _ | apply Drawn0.step)⟩

/-! ### impl_lessTerms: function 125 -/
def impl_lessTerms.l0 : Nat → Int → List Int → Int → Int → Option (Int)
 | 0, _, _, _, _ => none
 | k + 1, x3, x6, x7, x8 => if x8 < x7 then (if 0 ≤ x8 then (if x8 < (x6.length : Int) then (if (rd x6 x8) < 0 then (impl_lessTerms.l0 k (wrap64 (x3 + 1)) x6 x7 (wrap64 (x8 + 1))) else (impl_lessTerms.l0 k x3 x6 x7 (wrap64 (x8 + 1)))) else (none)) else (none)) else (some x3)
def impl_lessTerms.f (k : Nat) (l0 : List Int) : Option (Int) := impl_lessTerms.l0 k 0 l0 (l0.length : Int) 0
set_option maxHeartbeats 8000000 in
set_option maxRecDepth 100000 in
theorem impl_lessTerms.calls (k : Nat) (A0 : Option Addr) (c0 : Nat) (l0 : List Int) (r : Int) (w : World) (hr0 : Kd.C (Kd.int .i64) w A0 l0.length l0) (hc0 : l0.length ≤ c0) (h : impl_lessTerms.f k l0 = some r) :
  Calls Try.prog 125 #[.slice A0 l0.length c0] w fun e w' => e = .returned (.int .i64 r) ∧ Drawn0 w w' := by
 have HR0 := Aside0.mk hr0; have HC0 := Aside0.mk hc0; clear hr0 hc0; have H : (impl_lessTerms.l0 k 0 l0 (l0.length : Int) 0) = some r := h; clear h; have H' := Aside0.mk H; clear H
 go_enter Try.func125, Try.ntmps125
 go_wp2
 go_loopg [3, 8] k (fun kq v3 v8 w' => ∃ (x3_1 : Int) (x8_1 : Int), v3 = .int .i64 x3_1 ∧ v8 = .int .i64 x8_1 ∧ Aside0 (impl_lessTerms.l0 kq x3_1 l0 (l0.length : Int) x8_1 = some r) ∧ Aside0 (kq ≤ k) ∧ Drawn0 w w')
 case atStart => exact ⟨(0), (0), Sqz.auS, Sqz.auS, H', ⟨Nat.le_refl _⟩, by repeat (first | exact Drawn0.refl _ | apply Drawn0.step)⟩
 case round =>
  clear H'
  try clear c1
  obtain ⟨x3_1, x8_1, rfl, rfl, HA, HK1, ⟨m1, rfl⟩⟩ := hrel; cases gk with
  | zero => exact absurd HA.out (by simp [impl_lessTerms.l0])
  | succ k1 =>
   have H := HA.out; clear HA; simp only [impl_lessTerms.l0] at H
   by_cases c2 : x8_1 < (l0.length : Int)
   ·rw [if_pos c2] at H; have c2b0 := decide_eq_true c2; clear c2
    by_cases c3 : 0 ≤ x8_1
    ·rw [if_pos c3] at H; have c3b0 := decide_eq_true c3; clear c3
     by_cases c4 : x8_1 < (l0.length : Int)
     ·rw [if_pos c4] at H; have c4b0 := decide_eq_true c4; clear c4
      by_cases c5 : (rd l0 x8_1) < 0
      ·rw [if_pos c5] at H; have c5b0 := decide_eq_true c5; clear c5; have H' := Aside0.mk H; clear H; have p112 : 0 ≤ (x8_1 : Int) := Sqz.od; have q112 : x8_1 < (l0.length : Int) := Sqz.od; obtain ⟨ad112, e112, hx112_0⟩ := Kd.at_int HR0.out x8_1 p112 q112; cases e112; replace p112 := eq_true p112; replace q112 := eq_true q112; go_wp2
       go_roundg k1
       case measure => have := HK1.out; omega
       case rel => exact ⟨(wrap64 (x3_1 + 1)), (wrap64 (x8_1 + 1)), Sqz.auS, Sqz.auS, H', ⟨by have := HK1.out; omega⟩, by repeat (first | exact Drawn0.refl _ | apply Drawn0.step)⟩
      ·rw [if_neg c5] at H; have c5b0 := decide_eq_false c5; clear c5; have H' := Aside0.mk H; clear H; have p112 : 0 ≤ (x8_1 : Int) := Sqz.od; have q112 : x8_1 < (l0.length : Int) := Sqz.od; obtain ⟨ad112, e112, hx112_0⟩ := Kd.at_int HR0.out x8_1 p112 q112; cases e112; replace p112 := eq_true p112; replace q112 := eq_true q112; go_wp2
       go_roundg k1
       case measure => have := HK1.out; omega
       case rel => exact ⟨(x3_1), (wrap64 (x8_1 + 1)), Sqz.auS, Sqz.auS, H', ⟨by have := HK1.out; omega⟩, by repeat (first | exact Drawn0.refl _ | apply Drawn0.step)⟩
     ·rw [if_neg c4] at H; exact absurd H (by simp)
    ·rw [if_neg c3] at H; exact absurd H (by simp)
   ·rw [if_neg c2] at H; have c2b0 := decide_eq_false c2; clear c2; obtain rfl := Option.some.inj H; go_wp2; go_ret
    exact ⟨Sqz.auS, by repeat (first | exact Drawn0.refl _ | apply Drawn0.step)⟩

/-! ### impl_power: function 147 -/
def impl_power.l0 : Nat → Int → Int → Int → Int → Option (Int)
 | 0, _, _, _, _ => none
 | k + 1, x0, x5, x6, x7 => if x7 < x6 then (impl_power.l0 k x0 (wrap64 (x5 * x0)) x6 (wrap64 (x7 + 1))) else (some x5)
def impl_power.f (k : Nat) (a0 : Int) (a1 : Int) : Option (Int) := impl_power.l0 k a0 1 a1 0
set_option maxHeartbeats 8000000 in
set_option maxRecDepth 100000 in
theorem impl_power.calls (k : Nat) (a0 : Int) (a1 : Int) (r : Int) (w : World) (h : impl_power.f k a0 a1 = some r) :
  Calls Try.prog 147 #[.int .i64 a0, .int .i64 a1] w fun e w' => e = .returned (.int .i64 r) ∧ Drawn0 w w' := by
 have H : (impl_power.l0 k a0 1 a1 0) = some r := h; clear h; have H' := Aside0.mk H; clear H
 go_enter Try.func147, Try.ntmps147
 go_wp2
 go_loopg [5, 7] k (fun kq v5 v7 w' => ∃ (x5_1 : Int) (x7_1 : Int), v5 = .int .i64 x5_1 ∧ v7 = .int .i64 x7_1 ∧ Aside0 (impl_power.l0 kq a0 x5_1 a1 x7_1 = some r) ∧ Aside0 (kq ≤ k) ∧ Drawn0 w w')
 case atStart => exact ⟨(1), (0), Sqz.auS, Sqz.auS, H', ⟨Nat.le_refl _⟩, by repeat (first | exact Drawn0.refl _ | apply Drawn0.step)⟩
 case round =>
  clear H'
  try clear c1
  try clear p2
  obtain ⟨x5_1, x7_1, rfl, rfl, HA, HK1, ⟨m1, rfl⟩⟩ := hrel; cases gk with
  | zero => exact absurd HA.out (by simp [impl_power.l0])
  | succ k1 =>
   have H := HA.out; clear HA; simp only [impl_power.l0] at H
   by_cases c3 : x7_1 < a1
   ·rw [if_pos c3] at H; have c3b0 := decide_eq_true c3; clear c3; have H' := Aside0.mk H; clear H; go_wp2
    go_roundg k1
    case measure => have := HK1.out; omega
    case rel => exact ⟨(wrap64 (x5_1 * a0)), (wrap64 (x7_1 + 1)), Sqz.auS, Sqz.auS, H', ⟨by have := HK1.out; omega⟩, by repeat (first | exact Drawn0.refl _ | apply Drawn0.step)⟩
   ·rw [if_neg c3] at H; have c3b0 := decide_eq_false c3; clear c3; obtain rfl := Option.some.inj H; go_wp2; go_ret
    exact ⟨Sqz.auS, by repeat (first | exact Drawn0.refl _ | apply Drawn0.step)⟩

/-! ### impl_symbol: function 127 -/
def impl_symbol.f (k : Nat) (a0 : Int) (a1 : Int) (a2 : Int) : Option (Int) := if a2 = 0 then (if a0 < 0 then (if a1 < 0 then (some (-1)) else (some 1)) else (some 1)) else ((impl_split.f k a0 a2).bind fun bt113 => ((impl_split.f k a1 a2).bind fun bt115 => (if a2 = 2 then ((impl_rest.f bt113.2 8).bind fun t117 => ((impl_rest.f bt115.2 8).bind fun t118 => ((impl_power.f k (-1) (Int.tmod (wrap64 ((wrap64 ((wrap64 ((wrap64 (Int.tdiv (wrap64 (t117 - 1)) 2)) * (wrap64 (Int.tdiv (wrap64 (t118 - 1)) 2)))) + (wrap64 (Int.tdiv (wrap64 (bt113.1 * (wrap64 ((wrap64 (t118 * t118)) - 1)))) 8)))) + (wrap64 (Int.tdiv (wrap64 (bt115.1 * (wrap64 ((wrap64 (t117 * t117)) - 1)))) 8)))) 2)).bind fun t119 => (some t119)))) else ((impl_power.f k (-1) (Int.tmod (wrap64 (Int.tdiv (wrap64 ((wrap64 (bt113.1 * bt115.1)) * (wrap64 (a2 - 1)))) 2)) 2)).bind fun t120 => ((impl_residue.f k bt113.2 a2).bind fun t121 => ((impl_power.f k t121 (Int.tmod bt115.1 2)).bind fun t122 => ((impl_residue.f k bt115.2 a2).bind fun t123 => ((impl_power.f k t123 (Int.tmod bt113.1 2)).bind fun t124 => (some (wrap64 ((wrap64 (t120 * t122)) * t124)))))))))))
set_option maxHeartbeats 8000000 in
set_option maxRecDepth 100000 in
theorem impl_symbol.calls (k : Nat) (a0 : Int) (a1 : Int) (a2 : Int) (r : Int) (w : World) (h : impl_symbol.f k a0 a1 a2 = some r) :
  Calls Try.prog 127 #[.int .i64 a0, .int .i64 a1, .int .i64 a2] w fun e w' => e = .returned (.int .i64 r) ∧ Drawn0 w w' := by
 have H : (if a2 = 0 then (if a0 < 0 then (if a1 < 0 then (some (-1)) else (some 1)) else (some 1)) else ((impl_split.f k a0 a2).bind fun bt113 => ((impl_split.f k a1 a2).bind fun bt115 => (if a2 = 2 then ((impl_rest.f bt113.2 8).bind fun t117 => ((impl_rest.f bt115.2 8).bind fun t118 => ((impl_power.f k (-1) (Int.tmod (wrap64 ((wrap64 ((wrap64 ((wrap64 (Int.tdiv (wrap64 (t117 - 1)) 2)) * (wrap64 (Int.tdiv (wrap64 (t118 - 1)) 2)))) + (wrap64 (Int.tdiv (wrap64 (bt113.1 * (wrap64 ((wrap64 (t118 * t118)) - 1)))) 8)))) + (wrap64 (Int.tdiv (wrap64 (bt115.1 * (wrap64 ((wrap64 (t117 * t117)) - 1)))) 8)))) 2)).bind fun t119 => (some t119)))) else ((impl_power.f k (-1) (Int.tmod (wrap64 (Int.tdiv (wrap64 ((wrap64 (bt113.1 * bt115.1)) * (wrap64 (a2 - 1)))) 2)) 2)).bind fun t120 => ((impl_residue.f k bt113.2 a2).bind fun t121 => ((impl_power.f k t121 (Int.tmod bt115.1 2)).bind fun t122 => ((impl_residue.f k bt115.2 a2).bind fun t123 => ((impl_power.f k t123 (Int.tmod bt113.1 2)).bind fun t124 => (some (wrap64 ((wrap64 (t120 * t122)) * t124)))))))))))) = some r := h; clear h
 by_cases c4 : a2 = 0
 ·rw [if_pos c4] at H; have c4b0 := beq_iff_eq.mpr c4; have c4b1 := bne_eq_false_iff_eq.mpr c4; clear c4
  by_cases c5 : a0 < 0
  ·rw [if_pos c5] at H; have c5b0 := decide_eq_true c5; clear c5
   by_cases c6 : a1 < 0
   ·rw [if_pos c6] at H; have c6b0 := decide_eq_true c6; clear c6; obtain rfl := Option.some.inj H
    go_enter Try.func127, Try.ntmps127
    go_wp2; go_ret
    exact ⟨Sqz.auS, by repeat (first | exact Drawn0.refl _ | apply Drawn0.step)⟩
   ·rw [if_neg c6] at H; have c6b0 := decide_eq_false c6; clear c6; obtain rfl := Option.some.inj H
    go_enter Try.func127, Try.ntmps127
    go_wp2; go_ret
    exact ⟨Sqz.auS, by repeat (first | exact Drawn0.refl _ | apply Drawn0.step)⟩
  ·rw [if_neg c5] at H; have c5b0 := decide_eq_false c5; clear c5; obtain rfl := Option.some.inj H
   go_enter Try.func127, Try.ntmps127
   go_wp2; go_ret
   exact ⟨Sqz.auS, by repeat (first | exact Drawn0.refl _ | apply Drawn0.step)⟩
 ·rw [if_neg c4] at H; have c4b0 := beq_eq_false_iff_ne.mpr c4; have c4b1 := bne_iff_ne.mpr c4; replace H := Option.bind_eq_some_iff.mp H; obtain ⟨⟨t113, t114⟩, A70, H⟩ := H; replace H : ((impl_split.f k a1 a2).bind fun bt115 => (if a2 = 2 then ((impl_rest.f t114 8).bind fun t117 => ((impl_rest.f bt115.2 8).bind fun t118 => ((impl_power.f k (-1) (Int.tmod (wrap64 ((wrap64 ((wrap64 ((wrap64 (Int.tdiv (wrap64 (t117 - 1)) 2)) * (wrap64 (Int.tdiv (wrap64 (t118 - 1)) 2)))) + (wrap64 (Int.tdiv (wrap64 (t113 * (wrap64 ((wrap64 (t118 * t118)) - 1)))) 8)))) + (wrap64 (Int.tdiv (wrap64 (bt115.1 * (wrap64 ((wrap64 (t117 * t117)) - 1)))) 8)))) 2)).bind fun t119 => (some t119)))) else ((impl_power.f k (-1) (Int.tmod (wrap64 (Int.tdiv (wrap64 ((wrap64 (t113 * bt115.1)) * (wrap64 (a2 - 1)))) 2)) 2)).bind fun t120 => ((impl_residue.f k t114 a2).bind fun t121 => ((impl_power.f k t121 (Int.tmod bt115.1 2)).bind fun t122 => ((impl_residue.f k bt115.2 a2).bind fun t123 => ((impl_power.f k t123 (Int.tmod t113 2)).bind fun t124 => (some (wrap64 ((wrap64 (t120 * t122)) * t124)))))))))) = some r := H; have A7 := Aside0.mk A70; clear A70; replace H := Option.bind_eq_some_iff.mp H; obtain ⟨⟨t115, t116⟩, A80, H⟩ := H; replace H : (if a2 = 2 then ((impl_rest.f t114 8).bind fun t117 => ((impl_rest.f t116 8).bind fun t118 => ((impl_power.f k (-1) (Int.tmod (wrap64 ((wrap64 ((wrap64 ((wrap64 (Int.tdiv (wrap64 (t117 - 1)) 2)) * (wrap64 (Int.tdiv (wrap64 (t118 - 1)) 2)))) + (wrap64 (Int.tdiv (wrap64 (t113 * (wrap64 ((wrap64 (t118 * t118)) - 1)))) 8)))) + (wrap64 (Int.tdiv (wrap64 (t115 * (wrap64 ((wrap64 (t117 * t117)) - 1)))) 8)))) 2)).bind fun t119 => (some t119)))) else ((impl_power.f k (-1) (Int.tmod (wrap64 (Int.tdiv (wrap64 ((wrap64 (t113 * t115)) * (wrap64 (a2 - 1)))) 2)) 2)).bind fun t120 => ((impl_residue.f k t114 a2).bind fun t121 => ((impl_power.f k t121 (Int.tmod t115 2)).bind fun t122 => ((impl_residue.f k t116 a2).bind fun t123 => ((impl_power.f k t123 (Int.tmod t113 2)).bind fun t124 => (some (wrap64 ((wrap64 (t120 * t122)) * t124))))))))) = some r := H; have A8 := Aside0.mk A80; clear A80
  by_cases c9 : a2 = 2
  ·rw [if_pos c9] at H; have c9b0 := beq_iff_eq.mpr c9; have c9b1 := bne_eq_false_iff_eq.mpr c9; clear c9; obtain ⟨t117, A10, H⟩ := Sqz.be H; obtain ⟨t118, A11, H⟩ := Sqz.be H; obtain ⟨t119, A12, H⟩ := Sqz.be H; obtain rfl := Option.some.inj H
   go_enter Try.func127, Try.ntmps127
   go_wp2_with (first | ((with_reducible refine gate_callee (f := 112) rfl ?_); refine goesL_ (some 24) rfl rfl Try.func112 (by kernel_rfl) rfl #[.int .i64 a0, .int .i64 a2] rfl Sqz.auM ?_; (with_reducible refine (impl_split.calls k a0 a2 t113 t114 _ A7.out).mono ?_); rintro e w' ⟨rfl, ⟨nd, rfl⟩⟩; refine ⟨_, rfl, ?_⟩) | ((with_reducible refine gate_callee (f := 112) rfl ?_); refine goesL_ (some 30) rfl rfl Try.func112 (by kernel_rfl) rfl #[.int .i64 a1, .int .i64 a2] rfl Sqz.auM ?_; (with_reducible refine (impl_split.calls k a1 a2 t115 t116 _ A8.out).mono ?_); rintro e w' ⟨rfl, ⟨nd, rfl⟩⟩; refine ⟨_, rfl, ?_⟩) | ((with_reducible refine gate_callee (f := 134) rfl ?_); refine goesL_ (some 59) rfl rfl Try.func134 (by kernel_rfl) rfl #[.int .i64 t114, .int .i64 8] rfl Sqz.auM ?_; (with_reducible refine (impl_rest.calls t114 8 t117 _ A10.out).mono ?_); rintro e w' ⟨rfl, ⟨nd, rfl⟩⟩; refine ⟨_, rfl, ?_⟩) | ((with_reducible refine gate_callee (f := 134) rfl ?_); refine goesL_ (some 61) rfl rfl Try.func134 (by kernel_rfl) rfl #[.int .i64 t116, .int .i64 8] rfl Sqz.auM ?_; (with_reducible refine (impl_rest.calls t116 8 t118 _ A11.out).mono ?_); rintro e w' ⟨rfl, ⟨nd, rfl⟩⟩; refine ⟨_, rfl, ?_⟩) | ((with_reducible refine gate_callee (f := 147) rfl ?_); refine goesL_ (some 86) rfl rfl Try.func147 (by kernel_rfl) rfl #[.int .i64 (-1), .int .i64 (Int.tmod (wrap64 ((wrap64 ((wrap64 ((wrap64 (Int.tdiv (wrap64 (t117 - 1)) 2)) * (wrap64 (Int.tdiv (wrap64 (t118 - 1)) 2)))) + (wrap64 (Int.tdiv (wrap64 (t113 * (wrap64 ((wrap64 (t118 * t118)) - 1)))) 8)))) + (wrap64 (Int.tdiv (wrap64 (t115 * (wrap64 ((wrap64 (t117 * t117)) - 1)))) 8)))) 2)] rfl Sqz.auM ?_; (with_reducible refine (impl_power.calls k (-1) (Int.tmod (wrap64 ((wrap64 ((wrap64 ((wrap64 (Int.tdiv (wrap64 (t117 - 1)) 2)) * (wrap64 (Int.tdiv (wrap64 (t118 - 1)) 2)))) + (wrap64 (Int.tdiv (wrap64 (t113 * (wrap64 ((wrap64 (t118 * t118)) - 1)))) 8)))) + (wrap64 (Int.tdiv (wrap64 (t115 * (wrap64 ((wrap64 (t117 * t117)) - 1)))) 8)))) 2) t119 _ A12.out).mono ?_); rintro e w' ⟨rfl, ⟨nd, rfl⟩⟩; refine ⟨_, rfl, ?_⟩))
   go_ret
   exact ⟨Sqz.auS, by repeat (first | exact Drawn0.refl _ | apply Drawn0.step)⟩
  ·rw [if_neg c9] at H; have c9b0 := beq_eq_false_iff_ne.mpr c9; have c9b1 := bne_iff_ne.mpr c9; obtain ⟨t120, A13, H⟩ := Sqz.be H; obtain ⟨t121, A14, H⟩ := Sqz.be H; obtain ⟨t122, A15, H⟩ := Sqz.be H; obtain ⟨t123, A16, H⟩ := Sqz.be H; obtain ⟨t124, A17, H⟩ := Sqz.be H; obtain rfl := Option.some.inj H
   go_enter Try.func127, Try.ntmps127
   go_wp2_with (first | ((with_reducible refine gate_callee (f := 112) rfl ?_); refine goesL_ (some 24) rfl rfl Try.func112 (by kernel_rfl) rfl #[.int .i64 a0, .int .i64 a2] rfl Sqz.auM ?_; (with_reducible refine (impl_split.calls k a0 a2 t113 t114 _ A7.out).mono ?_); rintro e w' ⟨rfl, ⟨nd, rfl⟩⟩; refine ⟨_, rfl, ?_⟩) | ((with_reducible refine gate_callee (f := 112) rfl ?_); refine goesL_ (some 30) rfl rfl Try.func112 (by kernel_rfl) rfl #[.int .i64 a1, .int .i64 a2] rfl Sqz.auM ?_; (with_reducible refine (impl_split.calls k a1 a2 t115 t116 _ A8.out).mono ?_); rintro e w' ⟨rfl, ⟨nd, rfl⟩⟩; refine ⟨_, rfl, ?_⟩) | ((with_reducible refine gate_callee (f := 147) rfl ?_); refine goesL_ (some 43) rfl rfl Try.func147 (by kernel_rfl) rfl #[.int .i64 (-1), .int .i64 (Int.tmod (wrap64 (Int.tdiv (wrap64 ((wrap64 (t113 * t115)) * (wrap64 (a2 - 1)))) 2)) 2)] rfl Sqz.auM ?_; (with_reducible refine (impl_power.calls k (-1) (Int.tmod (wrap64 (Int.tdiv (wrap64 ((wrap64 (t113 * t115)) * (wrap64 (a2 - 1)))) 2)) 2) t120 _ A13.out).mono ?_); rintro e w' ⟨rfl, ⟨nd, rfl⟩⟩; refine ⟨_, rfl, ?_⟩) | ((with_reducible refine gate_callee (f := 135) rfl ?_); refine goesL_ (some 46) rfl rfl Try.func135 (by kernel_rfl) rfl #[.int .i64 t114, .int .i64 a2] rfl Sqz.auM ?_; (with_reducible refine (impl_residue.calls k t114 a2 t121 _ A14.out).mono ?_); rintro e w' ⟨rfl, ⟨nd, rfl⟩⟩; refine ⟨_, rfl, ?_⟩) | ((with_reducible refine gate_callee (f := 147) rfl ?_); refine goesL_ (some 49) rfl rfl Try.func147 (by kernel_rfl) rfl #[.int .i64 t121, .int .i64 (Int.tmod t115 2)] rfl Sqz.auM ?_; (with_reducible refine (impl_power.calls k t121 (Int.tmod t115 2) t122 _ A15.out).mono ?_); rintro e w' ⟨rfl, ⟨nd, rfl⟩⟩; refine ⟨_, rfl, ?_⟩) | ((with_reducible refine gate_callee (f := 135) rfl ?_); refine goesL_ (some 53) rfl rfl Try.func135 (by kernel_rfl) rfl #[.int .i64 t116, .int .i64 a2] rfl Sqz.auM ?_; (with_reducible refine (impl_residue.calls k t116 a2 t123 _ A16.out).mono ?_); rintro e w' ⟨rfl, ⟨nd, rfl⟩⟩; refine ⟨_, rfl, ?_⟩) | ((with_reducible refine gate_callee (f := 147) rfl ?_); refine goesL_ (some 56) rfl rfl Try.func147 (by kernel_rfl) rfl #[.int .i64 t123, .int .i64 (Int.tmod t113 2)] rfl Sqz.auM ?_; (with_reducible refine (impl_power.calls k t123 (Int.tmod t113 2) t124 _ A17.out).mono ?_); rintro e w' ⟨rfl, ⟨nd, rfl⟩⟩; refine ⟨_, rfl, ?_⟩))
   go_ret
   exact ⟨Sqz.auS, by repeat (first | exact Drawn0.refl _ | apply Drawn0.step)⟩

/-! ### impl_invariant: function 126 -/
mutual
def impl_invariant.l0 : Nat → List Int → Int → Int → List Int → Int → Int → Option (Int)
 | 0, _, _, _, _, _, _ => none
 | k + 1, x0, x1, x5, x10, x11, x12 => if x12 < x11 then (if 0 ≤ x12 then (if x12 < (x10.length : Int) then (if x12 ≤ (x0.length : Int) then (impl_invariant.l1 k x0 x1 x5 (rd x10 x12) x10 x11 x12 (x0.take (x12 : Int).toNat) ((x0.take (x12 : Int).toNat).length : Int) 0) else (none)) else (none)) else (none)) else (some x5)
def impl_invariant.l1 : Nat → List Int → Int → Int → Int → List Int → Int → Int → List Int → Int → Int → Option (Int)
 | 0, _, _, _, _, _, _, _, _, _, _ => none
 | k + 1, x0, x1, x5, x7, x10, x11, x12, x19, x20, x21 => if x21 < x20 then (if 0 ≤ x21 then (if x21 < (x19.length : Int) then ((impl_symbol.f k x7 (rd x19 x21) x1).bind fun t128 => (impl_invariant.l1 k x0 x1 (wrap64 (x5 * t128)) x7 x10 x11 x12 x19 x20 (wrap64 (x21 + 1)))) else (none)) else (none)) else (impl_invariant.l0 k x0 x1 x5 x10 x11 (wrap64 (x12 + 1)))
end
def impl_invariant.f (k : Nat) (l0 : List Int) (a1 : Int) : Option (Int) := impl_invariant.l0 k l0 a1 1 l0 (l0.length : Int) 0
set_option maxHeartbeats 8000000 in
set_option maxRecDepth 100000 in
theorem impl_invariant.calls (k : Nat) (A0 : Option Addr) (c0 : Nat) (l0 : List Int) (a1 : Int) (r : Int) (w : World) (hr0 : Kd.C (Kd.int .i64) w A0 l0.length l0) (hc0 : l0.length ≤ c0) (h : impl_invariant.f k l0 a1 = some r) :
  Calls Try.prog 126 #[.slice A0 l0.length c0, .int .i64 a1] w fun e w' => e = .returned (.int .i64 r) ∧ Drawn0 w w' := by
 have HR0 := Aside0.mk hr0; have HC0 := Aside0.mk hc0; clear hr0 hc0; have H : (impl_invariant.l0 k l0 a1 1 l0 (l0.length : Int) 0) = some r := h; clear h; have H' := Aside0.mk H; clear H
 go_enter Try.func126, Try.ntmps126
 go_wp2
 go_loopg [5, 12] k (fun kq v5 v12 w' => ∃ (x5_1 : Int) (x12_1 : Int), v5 = .int .i64 x5_1 ∧ v12 = .int .i64 x12_1 ∧ Aside0 (impl_invariant.l0 kq l0 a1 x5_1 l0 (l0.length : Int) x12_1 = some r) ∧ Aside0 (kq ≤ k) ∧ Drawn0 w w')
 case atStart => exact ⟨(1), (0), Sqz.auS, Sqz.auS, H', ⟨Nat.le_refl _⟩, by repeat (first | exact Drawn0.refl _ | apply Drawn0.step)⟩
 case round =>
  clear H'
  try clear c1
  try clear p2
  obtain ⟨x5_1, x12_1, rfl, rfl, HA, HK1, ⟨m1, rfl⟩⟩ := hrel; cases gk with
  | zero => exact absurd HA.out (by simp [impl_invariant.l0])
  | succ k1 =>
   have H := HA.out; clear HA; simp only [impl_invariant.l0] at H
   by_cases c3 : x12_1 < (l0.length : Int)
   ·rw [if_pos c3] at H; have c3b0 := decide_eq_true c3; clear c3
    by_cases c4 : 0 ≤ x12_1
    ·rw [if_pos c4] at H; have c4b0 := decide_eq_true c4; clear c4
     by_cases c5 : x12_1 < (l0.length : Int)
     ·rw [if_pos c5] at H; have c5b0 := decide_eq_true c5; clear c5; have c6b0 := eq_true (Sqz.od : 0 ≤ x12_1)
      by_cases c7 : x12_1 ≤ (l0.length : Int)
      ·rw [if_pos c7] at H; have c7b0 := eq_true c7; have c7b1 := decide_eq_true c7; clear c7; have H' := Aside0.mk H; clear H; have p125 : 0 ≤ (x12_1 : Int) := Sqz.od; have q125 : x12_1 < (l0.length : Int) := Sqz.od; obtain ⟨ad125, e125, hx125_0⟩ := Kd.at_int HR0.out x12_1 p125 q125; cases e125; replace p125 := eq_true p125; replace q125 := eq_true q125; obtain ⟨i08, hi08, _, hsz8, _⟩ := info_parts info3; obtain ⟨hcut8, hA8, hC8⟩ := print_take_of (P := Try.prog) (Value.int .i64) 0 25 3 .i64 Try.underlying25 hi08 hsz8 (some ad125) c0 l0 x12_1 (Sqz.od) (Sqz.od) HC0.out; have HR126 := Aside0.mk (Kd.C_of_reads (h1 := fun _ => rfl) (hA8 _ (Kd.reads_of_C HR0.out))); have HZ_ : Aside0 (x12_1 < (l0.length : Int)) := ⟨by first | exact of_decide_eq_true (by assumption) | exact of_eq_true (by assumption)⟩; have HC126 := Aside0.mk hC8; clear hA8 hC8 hi08 hsz8; go_wp2
       go_loopg [5, 21] k1 (fun kq v5 v21 w' => ∃ (x5_2 : Int) (x21_2 : Int), v5 = .int .i64 x5_2 ∧ v21 = .int .i64 x21_2 ∧ Aside0 (impl_invariant.l1 kq l0 a1 x5_2 (rd l0 x12_1) l0 (l0.length : Int) x12_1 (l0.take (x12_1 : Int).toNat) ((l0.take (x12_1 : Int).toNat).length : Int) x21_2 = some r) ∧ Aside0 (kq ≤ k1) ∧ Drawn0 w w')
       case atStart => exact ⟨(x5_1), (0), Sqz.auS, Sqz.auS, H', ⟨Nat.le_refl _⟩, by repeat (first | exact Drawn0.refl _ | apply Drawn0.step)⟩
       case round =>
        clear H'
        try clear c1
        try clear p1
        try clear q1
        try clear hx1
        try clear p2
        try clear c3
        try clear c3b0
        try clear c4
        try clear c4b0
        try clear c5
        try clear c5b0
        try clear c6
        try clear c6b0
        try clear c7
        try clear c7b0
        try clear c7b1
        try clear hx125_0
        try clear p125
        try clear p2
        try clear q125
        obtain ⟨x5_2, x21_2, rfl, rfl, HA, HK2, ⟨m2, rfl⟩⟩ := hrel; cases gk with
        | zero => exact absurd HA.out (by simp [impl_invariant.l1])
        | succ k2 =>
         have H := HA.out; clear HA; simp only [impl_invariant.l1] at H
         by_cases c9 : x21_2 < ((l0.take (x12_1 : Int).toNat).length : Int)
         ·rw [if_pos c9] at H; have c9b0 := decide_eq_true c9; clear c9
          by_cases c10 : 0 ≤ x21_2
          ·rw [if_pos c10] at H; have c10b0 := decide_eq_true c10; clear c10
           by_cases c11 : x21_2 < ((l0.take (x12_1 : Int).toNat).length : Int)
           ·rw [if_pos c11] at H; have c11b0 := decide_eq_true c11; clear c11; obtain ⟨t128, A12, H⟩ := Sqz.be H; have H' := Aside0.mk H; clear H; have p127 : 0 ≤ (x21_2 : Int) := Sqz.od; have q127 : x21_2 < ((l0.take (x12_1 : Int).toNat).length : Int) := Sqz.od; obtain ⟨ad127, e127, hx127_0⟩ := Kd.at_int HR126.out x21_2 p127 q127; obtain rfl : ad125 = ad127 := (by injection e127); replace p127 := eq_true p127; replace q127 := eq_true q127; have q127m : (x21_2 < max x12_1 0) = True := eq_true (by have h_ := of_eq_true q127; simp only [List.length_take] at h_; omega)
            go_wp2_with (first | ((with_reducible refine gate_callee (f := 127) rfl ?_); refine goesL_ (some 29) rfl rfl Try.func127 (by kernel_rfl) rfl #[.int .i64 (rd l0 x12_1), .int .i64 (rd (l0.take (x12_1 : Int).toNat) x21_2), .int .i64 a1] rfl Sqz.auM ?_; (with_reducible refine (impl_symbol.calls k2 (rd l0 x12_1) (rd (l0.take (x12_1 : Int).toNat) x21_2) a1 t128 _ A12.out).mono ?_); rintro e w' ⟨rfl, ⟨nd, rfl⟩⟩; refine ⟨_, rfl, ?_⟩))
            go_roundg k2
            case measure => have := HK1.out; have := HK2.out; omega
            case rel => exact ⟨(wrap64 (x5_2 * t128)), (wrap64 (x21_2 + 1)), Sqz.auS, Sqz.auS, H', ⟨by have := HK1.out; have := HK2.out; omega⟩, by repeat (first | exact Drawn0.refl _ | apply Drawn0.step)⟩
           ·rw [if_neg c11] at H; exact absurd H (by simp)
          ·rw [if_neg c10] at H; exact absurd H (by simp)
         ·rw [if_neg c9] at H; have c9b0 := decide_eq_false c9; have c9bm : decide (x21_2 < max x12_1 0) = false := decide_eq_false (by have h_ := HZ_.out; simp only [List.length_take] at c9; omega); clear c9; have H' := Aside0.mk H; clear H; go_wp2
          go_roundg k2
          case measure => have := HK1.out; have := HK2.out; omega
          case rel => exact ⟨(x5_2), (wrap64 (x12_1 + 1)), Sqz.auS, Sqz.auS, H', ⟨by have := HK1.out; have := HK2.out; omega⟩, by repeat (first | exact Drawn0.refl _ | apply Drawn0.step)⟩
      ·rw [if_neg c7] at H; exact absurd H (by simp)
     ·rw [if_neg c5] at H; exact absurd H (by simp)
    ·rw [if_neg c4] at H; exact absurd H (by simp)
   ·rw [if_neg c3] at H; have c3b0 := decide_eq_false c3; clear c3; obtain rfl := Option.some.inj H; go_wp2; go_ret
    exact ⟨Sqz.auS, by repeat (first | exact Drawn0.refl _ | apply Drawn0.step)⟩

/-! ### impl_vanishes: function 74 -/
def impl_vanishes.f (k : Nat) (l0 : List Int) (a1 : Int) : Option (Bool) := (impl_product.f k l0).bind fun t129 => (if a1 = 0 then ((impl_lessTerms.f k l0).bind fun t130 => (if t130 > 0 then (some (decide (t130 < (l0.length : Int)))) else (some false))) else (if (l0.length : Int) = 2 then ((impl_localSquare.f k (wrap64 (-t129)) a1).bind fun t131 => (some t131)) else (if (l0.length : Int) = 3 then ((impl_invariant.f k l0 a1).bind fun t132 => ((impl_symbol.f k (-1) (wrap64 (-t129)) a1).bind fun t133 => (some (t132 == t133)))) else (if (l0.length : Int) = 4 then ((impl_localSquare.f k t129 a1).bind fun t134 => (if t134 = true then ((impl_invariant.f k l0 a1).bind fun t135 => ((impl_symbol.f k (-1) (-1) a1).bind fun t136 => (some (t135 == t136)))) else (some true))) else (some false)))))
set_option maxHeartbeats 8000000 in
set_option maxRecDepth 100000 in
theorem impl_vanishes.calls (k : Nat) (A0 : Option Addr) (c0 : Nat) (l0 : List Int) (a1 : Int) (r : Bool) (w : World) (hr0 : Kd.C (Kd.int .i64) w A0 l0.length l0) (hc0 : l0.length ≤ c0) (h : impl_vanishes.f k l0 a1 = some r) :
  Calls Try.prog 74 #[.slice A0 l0.length c0, .int .i64 a1] w fun e w' => e = .returned (.bool r) ∧ Drawn0 w w' := by
 have HR0 := Aside0.mk hr0; have HC0 := Aside0.mk hc0; clear hr0 hc0; have H : ((impl_product.f k l0).bind fun t129 => (if a1 = 0 then ((impl_lessTerms.f k l0).bind fun t130 => (if t130 > 0 then (some (decide (t130 < (l0.length : Int)))) else (some false))) else (if (l0.length : Int) = 2 then ((impl_localSquare.f k (wrap64 (-t129)) a1).bind fun t131 => (some t131)) else (if (l0.length : Int) = 3 then ((impl_invariant.f k l0 a1).bind fun t132 => ((impl_symbol.f k (-1) (wrap64 (-t129)) a1).bind fun t133 => (some (t132 == t133)))) else (if (l0.length : Int) = 4 then ((impl_localSquare.f k t129 a1).bind fun t134 => (if t134 = true then ((impl_invariant.f k l0 a1).bind fun t135 => ((impl_symbol.f k (-1) (-1) a1).bind fun t136 => (some (t135 == t136)))) else (some true))) else (some false)))))) = some r := h; clear h; obtain ⟨t129, A3, H⟩ := Sqz.be H
 by_cases c4 : a1 = 0
 ·rw [if_pos c4] at H; have c4b0 := beq_iff_eq.mpr c4; have c4b1 := bne_eq_false_iff_eq.mpr c4; clear c4; obtain ⟨t130, A5, H⟩ := Sqz.be H
  by_cases c6 : t130 > 0
  ·rw [if_pos c6] at H; have c6b0 : decide (0 < t130) = true := decide_eq_true c6; clear c6; obtain rfl := Option.some.inj H
   go_enter Try.func74, Try.ntmps74
   go_wp2_with (first | ((with_reducible refine gate_callee (f := 124) rfl ?_); refine goesL_ (some 8) rfl rfl Try.func124 (by kernel_rfl) rfl #[.slice A0 l0.length c0] rfl Sqz.auM ?_; (with_reducible refine (impl_product.calls k _ _ l0 t129 _ ?side1 ?side2 A3.out).mono ?_); (case side1 => exact Sqz.mvC (HR0.out)); (case side2 => exact HC0.out); rintro e w' ⟨rfl, ⟨nd, rfl⟩⟩; refine ⟨_, rfl, ?_⟩) | ((with_reducible refine gate_callee (f := 125) rfl ?_); refine goesL_ (some 12) rfl rfl Try.func125 (by kernel_rfl) rfl #[.slice A0 l0.length c0] rfl Sqz.auM ?_; (with_reducible refine (impl_lessTerms.calls k _ _ l0 t130 _ ?side1 ?side2 A5.out).mono ?_); (case side1 => exact Sqz.mvC (HR0.out)); (case side2 => exact HC0.out); rintro e w' ⟨rfl, ⟨nd, rfl⟩⟩; refine ⟨_, rfl, ?_⟩))
   go_ret
   exact ⟨Sqz.auS, by repeat (first | exact Drawn0.refl _ | apply Drawn0.step)⟩
  ·rw [if_neg c6] at H; have c6b0 : decide (0 < t130) = false := decide_eq_false c6; clear c6; obtain rfl := Option.some.inj H
   go_enter Try.func74, Try.ntmps74
   go_wp2_with (first | ((with_reducible refine gate_callee (f := 124) rfl ?_); refine goesL_ (some 8) rfl rfl Try.func124 (by kernel_rfl) rfl #[.slice A0 l0.length c0] rfl Sqz.auM ?_; (with_reducible refine (impl_product.calls k _ _ l0 t129 _ ?side1 ?side2 A3.out).mono ?_); (case side1 => exact Sqz.mvC (HR0.out)); (case side2 => exact HC0.out); rintro e w' ⟨rfl, ⟨nd, rfl⟩⟩; refine ⟨_, rfl, ?_⟩) | ((with_reducible refine gate_callee (f := 125) rfl ?_); refine goesL_ (some 12) rfl rfl Try.func125 (by kernel_rfl) rfl #[.slice A0 l0.length c0] rfl Sqz.auM ?_; (with_reducible refine (impl_lessTerms.calls k _ _ l0 t130 _ ?side1 ?side2 A5.out).mono ?_); (case side1 => exact Sqz.mvC (HR0.out)); (case side2 => exact HC0.out); rintro e w' ⟨rfl, ⟨nd, rfl⟩⟩; refine ⟨_, rfl, ?_⟩))
   go_ret
   exact ⟨Sqz.auS, by repeat (first | exact Drawn0.refl _ | apply Drawn0.step)⟩
 ·rw [if_neg c4] at H; have c4b0 := beq_eq_false_iff_ne.mpr c4; have c4b1 := bne_iff_ne.mpr c4
  by_cases c7 : (l0.length : Int) = 2
  ·rw [if_pos c7] at H; have c7b0 := beq_iff_eq.mpr c7; have c7b1 := bne_eq_false_iff_eq.mpr c7; clear c7; obtain ⟨t131, A8, H⟩ := Sqz.be H; obtain rfl := Option.some.inj H
   go_enter Try.func74, Try.ntmps74
   go_wp2_with (first | ((with_reducible refine gate_callee (f := 124) rfl ?_); refine goesL_ (some 8) rfl rfl Try.func124 (by kernel_rfl) rfl #[.slice A0 l0.length c0] rfl Sqz.auM ?_; (with_reducible refine (impl_product.calls k _ _ l0 t129 _ ?side1 ?side2 A3.out).mono ?_); (case side1 => exact Sqz.mvC (HR0.out)); (case side2 => exact HC0.out); rintro e w' ⟨rfl, ⟨nd, rfl⟩⟩; refine ⟨_, rfl, ?_⟩) | ((with_reducible refine gate_callee (f := 89) rfl ?_); refine goesL_ (some 28) rfl rfl Try.func89 (by kernel_rfl) rfl #[.int .i64 (wrap64 (-t129)), .int .i64 a1] rfl Sqz.auM ?_; (with_reducible refine (impl_localSquare.calls k (wrap64 (-t129)) a1 t131 _ A8.out).mono ?_); rintro e w' ⟨rfl, ⟨nd, rfl⟩⟩; refine ⟨_, rfl, ?_⟩))
   go_ret
   exact ⟨Sqz.auS, by repeat (first | exact Drawn0.refl _ | apply Drawn0.step)⟩
  ·rw [if_neg c7] at H; have c7b0 := beq_eq_false_iff_ne.mpr c7; have c7b1 := bne_iff_ne.mpr c7
   by_cases c9 : (l0.length : Int) = 3
   ·rw [if_pos c9] at H; have c9b0 := beq_iff_eq.mpr c9; have c9b1 := bne_eq_false_iff_eq.mpr c9; clear c9; obtain ⟨t132, A10, H⟩ := Sqz.be H; obtain ⟨t133, A11, H⟩ := Sqz.be H; obtain rfl := Option.some.inj H
    go_enter Try.func74, Try.ntmps74
    go_wp2_with (first | ((with_reducible refine gate_callee (f := 124) rfl ?_); refine goesL_ (some 8) rfl rfl Try.func124 (by kernel_rfl) rfl #[.slice A0 l0.length c0] rfl Sqz.auM ?_; (with_reducible refine (impl_product.calls k _ _ l0 t129 _ ?side1 ?side2 A3.out).mono ?_); (case side1 => exact Sqz.mvC (HR0.out)); (case side2 => exact HC0.out); rintro e w' ⟨rfl, ⟨nd, rfl⟩⟩; refine ⟨_, rfl, ?_⟩) | ((with_reducible refine gate_callee (f := 126) rfl ?_); refine goesL_ (some 33) rfl rfl Try.func126 (by kernel_rfl) rfl #[.slice A0 l0.length c0, .int .i64 a1] rfl Sqz.auM ?_; (with_reducible refine (impl_invariant.calls k _ _ l0 a1 t132 _ ?side1 ?side2 A10.out).mono ?_); (case side1 => exact Sqz.mvC (HR0.out)); (case side2 => exact HC0.out); rintro e w' ⟨rfl, ⟨nd, rfl⟩⟩; refine ⟨_, rfl, ?_⟩) | ((with_reducible refine gate_callee (f := 127) rfl ?_); refine goesL_ (some 37) rfl rfl Try.func127 (by kernel_rfl) rfl #[.int .i64 (-1), .int .i64 (wrap64 (-t129)), .int .i64 a1] rfl Sqz.auM ?_; (with_reducible refine (impl_symbol.calls k (-1) (wrap64 (-t129)) a1 t133 _ A11.out).mono ?_); rintro e w' ⟨rfl, ⟨nd, rfl⟩⟩; refine ⟨_, rfl, ?_⟩))
    go_ret
    exact ⟨Sqz.auS, by repeat (first | exact Drawn0.refl _ | apply Drawn0.step)⟩
   ·rw [if_neg c9] at H; have c9b0 := beq_eq_false_iff_ne.mpr c9; have c9b1 := bne_iff_ne.mpr c9
    by_cases c12 : (l0.length : Int) = 4
    ·rw [if_pos c12] at H; have c12b0 := beq_iff_eq.mpr c12; have c12b1 := bne_eq_false_iff_eq.mpr c12; clear c12; obtain ⟨t134, A13, H⟩ := Sqz.be H
     by_cases c14 : t134 = true
     ·subst c14; have H1 : ((impl_invariant.f k l0 a1).bind fun t135 => ((impl_symbol.f k (-1) (-1) a1).bind fun t136 => (some (t135 == t136)))) = some r := by rw [if_pos rfl] at H; exact H
      clear H; have H := H1; clear H1; obtain ⟨t135, A15, H⟩ := Sqz.be H; obtain ⟨t136, A16, H⟩ := Sqz.be H; obtain rfl := Option.some.inj H
      go_enter Try.func74, Try.ntmps74
      go_wp2_with (first | ((with_reducible refine gate_callee (f := 124) rfl ?_); refine goesL_ (some 8) rfl rfl Try.func124 (by kernel_rfl) rfl #[.slice A0 l0.length c0] rfl Sqz.auM ?_; (with_reducible refine (impl_product.calls k _ _ l0 t129 _ ?side1 ?side2 A3.out).mono ?_); (case side1 => exact Sqz.mvC (HR0.out)); (case side2 => exact HC0.out); rintro e w' ⟨rfl, ⟨nd, rfl⟩⟩; refine ⟨_, rfl, ?_⟩) | ((with_reducible refine gate_callee (f := 89) rfl ?_); refine goesL_ (some 43) rfl rfl Try.func89 (by kernel_rfl) rfl #[.int .i64 t129, .int .i64 a1] rfl Sqz.auM ?_; (with_reducible refine (impl_localSquare.calls k t129 a1 true _ A13.out).mono ?_); rintro e w' ⟨rfl, ⟨nd, rfl⟩⟩; refine ⟨_, rfl, ?_⟩) | (go_at_call 126; (with_reducible refine (impl_invariant.calls k _ _ l0 a1 t135 _ ?side1 ?side2 A15.out).mono ?_); (case side1 => exact Sqz.mvC (HR0.out)); (case side2 => exact HC0.out); rintro e w' ⟨rfl, ⟨nd, rfl⟩⟩) | (go_at_call 127; (with_reducible refine (impl_symbol.calls k (-1) (-1) a1 t136 _ A16.out).mono ?_); rintro e w' ⟨rfl, ⟨nd, rfl⟩⟩))
      go_ret
      exact ⟨Sqz.auS, by repeat (first | exact Drawn0.refl _ | apply Drawn0.step)⟩
     ·replace c14 := Bool.eq_false_iff.mpr c14; subst c14; have H1 : (some true) = some r := by rw [if_neg (show ¬ (false = true) by decide)] at H; exact H
      clear H; have H := H1; clear H1; obtain rfl := Option.some.inj H
      go_enter Try.func74, Try.ntmps74
      go_wp2_with (first | ((with_reducible refine gate_callee (f := 124) rfl ?_); refine goesL_ (some 8) rfl rfl Try.func124 (by kernel_rfl) rfl #[.slice A0 l0.length c0] rfl Sqz.auM ?_; (with_reducible refine (impl_product.calls k _ _ l0 t129 _ ?side1 ?side2 A3.out).mono ?_); (case side1 => exact Sqz.mvC (HR0.out)); (case side2 => exact HC0.out); rintro e w' ⟨rfl, ⟨nd, rfl⟩⟩; refine ⟨_, rfl, ?_⟩) | ((with_reducible refine gate_callee (f := 89) rfl ?_); refine goesL_ (some 43) rfl rfl Try.func89 (by kernel_rfl) rfl #[.int .i64 t129, .int .i64 a1] rfl Sqz.auM ?_; (with_reducible refine (impl_localSquare.calls k t129 a1 false _ A13.out).mono ?_); rintro e w' ⟨rfl, ⟨nd, rfl⟩⟩; refine ⟨_, rfl, ?_⟩))
      go_ret
      exact ⟨Sqz.auS, by repeat (first | exact Drawn0.refl _ | apply Drawn0.step)⟩
    ·rw [if_neg c12] at H; have c12b0 := beq_eq_false_iff_ne.mpr c12; have c12b1 := bne_iff_ne.mpr c12; obtain rfl := Option.some.inj H
     go_enter Try.func74, Try.ntmps74
     go_wp2_with (first | ((with_reducible refine gate_callee (f := 124) rfl ?_); refine goesL_ (some 8) rfl rfl Try.func124 (by kernel_rfl) rfl #[.slice A0 l0.length c0] rfl Sqz.auM ?_; (with_reducible refine (impl_product.calls k _ _ l0 t129 _ ?side1 ?side2 A3.out).mono ?_); (case side1 => exact Sqz.mvC (HR0.out)); (case side2 => exact HC0.out); rintro e w' ⟨rfl, ⟨nd, rfl⟩⟩; refine ⟨_, rfl, ?_⟩))
     go_ret
     exact ⟨Sqz.auS, by repeat (first | exact Drawn0.refl _ | apply Drawn0.step)⟩

/-! ### impl_represents: function 83 -/
def impl_represents.j0 : Nat → List Int → Int → Int → Bool → Option (Bool)
 | 0, _, _, _, _ => none
 | k + 1, x0, x1, x2, x13 => if x13 = true then (some true) else ((slices_Clone_int_int.f x0).bind fun t137 => (if t137.length < 17592186044416 then ((impl_vanishes.f k (t137 ++ [wrap64 (-x1)]) x2).bind fun t143 => (some t143)) else (none)))
def impl_represents.f (k : Nat) (l0 : List Int) (a1 : Int) (a2 : Int) : Option (Bool) := if (l0.length : Int) = 4 then (impl_represents.j0 k l0 a1 a2 (a2 != 0)) else (impl_represents.j0 k l0 a1 a2 false)
set_option maxHeartbeats 8000000 in
set_option maxRecDepth 100000 in
theorem impl_represents.calls (k : Nat) (A0 : Option Addr) (c0 : Nat) (l0 : List Int) (a1 : Int) (a2 : Int) (r : Bool) (w : World) (hr0 : Kd.C (Kd.int .i64) w A0 l0.length l0) (hc0 : l0.length ≤ c0) (h : impl_represents.f k l0 a1 a2 = some r) :
  Calls Try.prog 83 #[.slice A0 l0.length c0, .int .i64 a1, .int .i64 a2] w fun e w' => e = .returned (.bool r) ∧ Below w.heap.size w w' := by
 have HR0 := Aside0.mk hr0; have HC0 := Aside0.mk hc0; clear hr0 hc0; have HB := Aside0.mk (Below.refl w.heap.size w); have H : (if (l0.length : Int) = 4 then (impl_represents.j0 k l0 a1 a2 (a2 != 0)) else (impl_represents.j0 k l0 a1 a2 false)) = some r := h; clear h; have HC4 := Aside0.mk H; clear H
 go_enter Try.func83, Try.ntmps83
 go_upto_region 1 with (fail)
 go_cut [13] (fun v13 wc => ∃ (kq : Nat) (x13_3 : Bool), v13 = .bool x13_3 ∧ Aside0 (impl_represents.j0 kq l0 a1 a2 x13_3 = some r) ∧ Aside0 (kq ≤ k) ∧ Aside0 (Below w.heap.size w wc))
 case first =>
  have H := HC4.out; clear HC4
  by_cases c5 : (l0.length : Int) = 4
  ·rw [if_pos c5] at H; have c5b0 := beq_iff_eq.mpr c5; have c5b1 := bne_eq_false_iff_eq.mpr c5; clear c5
   (first | rw [c5b0] | (simp only [i64_w, i32_w]; rw [c5b0]) | skip)
   have H' := Aside0.mk H; clear H; go_wp2
   go_meet
   case rel => exact ⟨_, ((a2 != 0)), Sqz.auS, H', ⟨Sqz.auN⟩, ⟨Sqz.auHB⟩⟩
  ·rw [if_neg c5] at H; have c5b0 := beq_eq_false_iff_ne.mpr c5; have c5b1 := bne_iff_ne.mpr c5
   (first | rw [c5b0] | (simp only [i64_w, i32_w]; rw [c5b0]) | skip)
   have H' := Aside0.mk H; clear H; go_wp2
   go_meet
   case rel => exact ⟨_, (false), Sqz.auS, H', ⟨Sqz.auN⟩, ⟨Sqz.auHB⟩⟩
 case rest =>
  clear HC4
  try clear p2
  try clear c5
  try clear c5b0
  try clear c5b1
  obtain ⟨kq, x13_3, rfl, HA, HJ3, HB⟩ := hcut; cases kq with
  | zero => exact absurd HA.out (by simp [impl_represents.j0])
  | succ kj3 =>
   have H := HA.out; clear HA; simp only [impl_represents.j0] at H
   by_cases c6 : x13_3 = true
   ·subst c6; have H1 : (some true) = some r := by rw [if_pos rfl] at H; exact H
    clear H; have H := H1; clear H1; obtain rfl := Option.some.inj H; go_wp2; go_ret
    exact ⟨Sqz.auR, Sqz.auHB⟩
   ·replace c6 := Bool.eq_false_iff.mpr c6; subst c6; have H1 : ((slices_Clone_int_int.f l0).bind fun t137 => (if t137.length < 17592186044416 then ((impl_vanishes.f kj3 (t137 ++ [wrap64 (-a1)]) a2).bind fun t143 => (some t143)) else (none))) = some r := by rw [if_neg (show ¬ (false = true) by decide)] at H; exact H
    clear H; have H := H1; clear H1; obtain ⟨t137, A7, H⟩ := Sqz.be H
    by_cases c8 : t137.length < 17592186044416
    ·rw [if_pos c8] at H; have LMc8 := Aside0.mk c8; clear c8; obtain ⟨y140, hyy⟩ : ∃ y_ : List Int, y_ = (t137 ++ [wrap64 (-a1)]) := ⟨_, rfl⟩
     replace H : ((impl_vanishes.f kj3 y140 a2).bind fun t143 => (some t143)) = some r := Sqz.auY
     have Ny140 := Aside0.mk hyy; clear hyy; obtain ⟨t143, A9, H⟩ := Sqz.be H; obtain rfl := Option.some.inj H
     go_wp2_with (first | ((with_reducible refine gate_callee (f := 81) rfl ?_); refine goesL_ (some 15) rfl rfl Try.func81 (by kernel_rfl) rfl #[.slice A0 l0.length c0] rfl Sqz.auM ?_; (with_reducible refine (slices_Clone_int_int.calls _ _ l0 t137 _ ?side1 ?side2 A7.out).mono ?_); (case side1 => exact Sqz.mvC ((Kd.C_below HR0.out HB.out))); (case side2 => exact HC0.out); rintro e w10 ⟨v138, rfl, ho0, hb⟩; refine ⟨_, rfl, ?_⟩; have HO139 := Aside0.mk (Kd.R_lower ho0 (below_size (Sqz.auHB))); replace HB := Aside0.mk (below_step (Sqz.auHB) hb); (try clear hb); (try clear ho0)) | ((with_reducible refine gate_builtin (b := .append) (xs := #[.tmp 15, .tmp 18]) rfl ?_); at_builtin; refine Kd.R_append (Kd.int .i64) (w0 := w) w.heap.size rfl (.tmp 15) (.tmp 18) 25 3 (.int .i64 0) 8 rfl Try.underlying25 info3 rfl (by decide) (by omega) v138 t137 (wrap64 (-a1)) [.int .i64 (wrap64 (-a1))] (fun _ => True) (fun _ => False) rfl rfl ?aP (fun _ hk => hk.elim) ?aF ?aO ?aB ?aS ?aL ?_; (case aP => exact rfl); (case aB => exact (Sqz.auHB)); (case aF => exact (fun _ _ => trivial)); (case aO => exact ((Sqz.mvR HO139.out))); (case aS => exact (below_size (Sqz.auHB))); (case aL => have := LMc8.out; omega); intro v141 w11 ho hb hg hat; rw [← Ny140.out] at ho; replace HB := Aside0.mk (hb); have HO142 := Aside0.mk (ho); clear HO139; clear ho hb hg hat; obtain ⟨Ao12, co12, eo12⟩ := Kd.R_slice HO142.out; subst eo12) | ((with_reducible refine gate_callee (f := 74) rfl ?_); refine goesL_ (some 21) rfl rfl Try.func74 (by kernel_rfl) rfl #[.slice Ao12 y140.length co12, .int .i64 a2] rfl Sqz.auM ?_; (with_reducible refine (impl_vanishes.calls kj3 _ _ y140 a2 t143 _ ?side1 ?side2 A9.out).mono ?_); (case side1 => exact Sqz.mvC ((Kd.R_reads' HO142.out).2.2)); (case side2 => exact (Kd.R_reads' HO142.out).2.1); rintro e w' ⟨rfl, ⟨nd, rfl⟩⟩; refine ⟨_, rfl, ?_⟩))
     go_ret
     exact ⟨Sqz.auR, Sqz.auHB⟩
    ·rw [if_neg c8] at H; exact absurd H (by simp)

/-! ### impl_primesOf: function 111 -/
def impl_primesOf.l0 : Nat → Int → List Int → Int → Option (List Int)
 | 0, _, _, _ => none
 | k + 1, x0, x3, x4 => if (wrap64 (x4 * x4)) ≤ x0 then (if x4 = 0 then (none) else (if (Int.tmod x0 x4) = 0 then (if x3.length < 17592186044416 then ((impl_split.f k x0 x4).bind fun bt151 => (impl_primesOf.l0 k bt151.2 (x3 ++ [x4]) (wrap64 (x4 + 1)))) else (none)) else (impl_primesOf.l0 k x0 x3 (wrap64 (x4 + 1))))) else (if x0 > 1 then (if x3.length < 17592186044416 then (some (x3 ++ [x0])) else (none)) else (some x3))
def impl_primesOf.f (k : Nat) (a0 : Int) : Option (List Int) := (impl_size.f a0).bind fun t147 => (impl_primesOf.l0 k t147 (([] : List Int)) 2)
set_option maxHeartbeats 8000000 in
set_option maxRecDepth 100000 in
theorem impl_primesOf.calls (k : Nat) (a0 : Int) (r : List Int) (w : World) (h : impl_primesOf.f k a0 = some r) :
  Calls Try.prog 111 #[.int .i64 a0] w fun e w' => ∃ v0_ : Value, e = .returned (v0_) ∧ Kd.R (Kd.int .i64) 3 w' w.heap.size (fun _ => True) v0_ r ∧ Below w.heap.size w w' := by
 have HB := Aside0.mk (Below.refl w.heap.size w); have H : ((impl_size.f a0).bind fun t147 => (impl_primesOf.l0 k t147 (([] : List Int)) 2)) = some r := h; clear h; obtain ⟨y144, hyy⟩ : ∃ y_ : List Int, y_ = (([] : List Int)) := ⟨_, rfl⟩
 replace H : ((impl_size.f a0).bind fun t147 => (impl_primesOf.l0 k t147 y144 2)) = some r := Sqz.auY
 have Ny144 := Aside0.mk hyy; clear hyy; obtain ⟨t147, A2, H⟩ := Sqz.be H; have H' := Aside0.mk H; clear H
 go_enter Try.func111, Try.ntmps111
 go_wp2_with (first | ((with_reducible refine gate_dst (N := 5) rfl ?_); refine Kd.R_lit (Kd.int .i64) _ 3 ?hg (N := 5) ?hd (xs := ([] : List Int)) (inner := []) (ok := fun _ => True) (okp := fun _ => True) ?hr ?hp (fun _ hk => hk) trivial (Below.refl _ _) (Nat.le_refl _) (by simp) ?_; (case hd => rfl); (case hg => rfl); (case hr => first | (go_simp; done) | (go_simp; rfl)); (case hp => exact (Reps.none _ _)); intro v145 w3 ho4 hb hg_ hnew_; clear hg_ hnew_; (first | rw [← Ny144.out] at ho4 | (simp only [Int.reduceToNat] at ho4; rw [← Ny144.out] at ho4)); have HO146 := Aside0.mk (Kd.R_lower ho4 (below_size (Sqz.auHB))); replace HB := Aside0.mk (below_step (Sqz.auHB) hb); clear hb ho4) | ((with_reducible refine gate_callee (f := 72) rfl ?_); refine goesL_ (some 7) rfl rfl Try.func72 (by kernel_rfl) rfl #[.int .i64 a0] rfl Sqz.auM ?_; (with_reducible refine (impl_size.calls a0 t147 _ A2.out).mono ?_); rintro e w5 ⟨rfl, hb⟩; refine ⟨_, rfl, ?_⟩; replace HO146 := Aside0.mk (Kd.R_below ((Sqz.mvR HO146.out)) hb); replace HB := Aside0.mk (below_step (Sqz.auHB) hb); (try clear hb)))
 go_loopg [0, 3, 4] k (fun kq v0 v3 v4 w' => ∃ (x0_1 : Int) (x3_1 : List Int) (x4_1 : Int), v0 = .int .i64 x0_1 ∧ v4 = .int .i64 x4_1 ∧ Aside0 (impl_primesOf.l0 kq x0_1 x3_1 x4_1 = some r) ∧ Aside0 (kq ≤ k) ∧ Aside0 (Kd.R (Kd.int .i64) 3 w' w.heap.size (fun _ => True) v3 x3_1) ∧ Aside0 (Below w.heap.size w w'))
 case atStart => exact ⟨(t147), (y144), (2), Sqz.auS, Sqz.auS, H', ⟨Nat.le_refl _⟩, ⟨(Sqz.mvR HO146.out)⟩, ⟨Sqz.auHB⟩⟩
 case round =>
  clear H'
  try clear c1
  try clear p2
  obtain ⟨x0_1, x3_1, x4_1, rfl, rfl, HA, HK1, HO_3, HB⟩ := hrel; cases gk with
  | zero => exact absurd HA.out (by simp [impl_primesOf.l0])
  | succ k1 =>
   have H := HA.out; clear HA; simp only [impl_primesOf.l0] at H
   by_cases c6 : (wrap64 (x4_1 * x4_1)) ≤ x0_1
   ·rw [if_pos c6] at H; have c6b0 := decide_eq_true c6; clear c6
    by_cases c7 : x4_1 = 0
    ·rw [if_pos c7] at H; exact absurd H (by simp)
    ·rw [if_neg c7] at H; have c7b0 := beq_eq_false_iff_ne.mpr c7; have c7b1 := bne_iff_ne.mpr c7
     by_cases c8 : (Int.tmod x0_1 x4_1) = 0
     ·rw [if_pos c8] at H; have c8b0 := beq_iff_eq.mpr c8; have c8b1 := bne_eq_false_iff_eq.mpr c8; clear c8
      by_cases c9 : x3_1.length < 17592186044416
      ·rw [if_pos c9] at H; have LMc9 := Aside0.mk c9; clear c9; obtain ⟨y148, hyy⟩ : ∃ y_ : List Int, y_ = (x3_1 ++ [x4_1]) := ⟨_, rfl⟩
       replace H : ((impl_split.f k1 x0_1 x4_1).bind fun bt151 => (impl_primesOf.l0 k1 bt151.2 y148 (wrap64 (x4_1 + 1)))) = some r := Sqz.auY
       have Ny148 := Aside0.mk hyy; clear hyy; replace H := Option.bind_eq_some_iff.mp H; obtain ⟨⟨t151, t152⟩, A100, H⟩ := H; replace H : (impl_primesOf.l0 k1 t152 y148 (wrap64 (x4_1 + 1))) = some r := H; have A10 := Aside0.mk A100; clear A100; have H' := Aside0.mk H; clear H
       go_wp2_with (first | ((with_reducible refine gate_builtin (b := .append) (xs := #[.tmp 19, .tmp 21]) rfl ?_); at_builtin; refine Kd.R_append (Kd.int .i64) (w0 := w) w.heap.size rfl (.tmp 19) (.tmp 21) 25 3 (.int .i64 0) 8 rfl Try.underlying25 info3 rfl (by decide) (by omega) u3 x3_1 x4_1 [.int .i64 x4_1] (fun _ => True) (fun _ => False) rfl rfl ?aP (fun _ hk => hk.elim) ?aF ?aO ?aB ?aS ?aL ?_; (case aP => exact rfl); (case aB => exact (Sqz.auHB)); (case aF => exact (fun _ _ => trivial)); (case aO => exact ((Sqz.mvR HO_3.out))); (case aS => exact (below_size (Sqz.auHB))); (case aL => have := LMc9.out; omega); intro v149 w11 ho hb hg hat; rw [← Ny148.out] at ho; replace HB := Aside0.mk (hb); have HO150 := Aside0.mk (ho); clear HO_3; clear ho hb hg hat) | ((with_reducible refine gate_callee (f := 112) rfl ?_); refine goesL_ (some 26) rfl rfl Try.func112 (by kernel_rfl) rfl #[.int .i64 x0_1, .int .i64 x4_1] rfl Sqz.auM ?_; (with_reducible refine (impl_split.calls k1 x0_1 x4_1 t151 t152 _ A10.out).mono ?_); rintro e w' ⟨rfl, ⟨nd, rfl⟩⟩; refine ⟨_, rfl, ?_⟩))
       go_roundg k1
       case measure => have := HK1.out; omega
       case rel => exact ⟨(t152), (y148), (wrap64 (x4_1 + 1)), Sqz.auS, Sqz.auS, H', ⟨by have := HK1.out; omega⟩, ⟨(Sqz.mvR HO150.out)⟩, ⟨Sqz.auHB⟩⟩
      ·rw [if_neg c9] at H; exact absurd H (by simp)
     ·rw [if_neg c8] at H; have c8b0 := beq_eq_false_iff_ne.mpr c8; have c8b1 := bne_iff_ne.mpr c8; have H' := Aside0.mk H; clear H; go_wp2
      go_roundg k1
      case measure => have := HK1.out; omega
      case rel => exact ⟨(x0_1), (x3_1), (wrap64 (x4_1 + 1)), Sqz.auS, Sqz.auS, H', ⟨by have := HK1.out; omega⟩, ⟨(Sqz.mvR HO_3.out)⟩, ⟨Sqz.auHB⟩⟩
   ·rw [if_neg c6] at H; have c6b0 := decide_eq_false c6; clear c6
    by_cases c12 : x0_1 > 1
    ·rw [if_pos c12] at H; have c12b0 : decide (1 < x0_1) = true := decide_eq_true c12; clear c12
     by_cases c13 : x3_1.length < 17592186044416
     ·rw [if_pos c13] at H; have LMc13 := Aside0.mk c13; clear c13; obtain ⟨y153, hyy⟩ : ∃ y_ : List Int, y_ = (x3_1 ++ [x0_1]) := ⟨_, rfl⟩
      replace H : (some y153) = some r := Sqz.auY
      have Ny153 := Aside0.mk hyy; clear hyy; obtain rfl := Option.some.inj H
      go_wp2_with (first | ((with_reducible refine gate_builtin (b := .append) (xs := #[.tmp 31, .tmp 33]) rfl ?_); at_builtin; refine Kd.R_append (Kd.int .i64) (w0 := w) w.heap.size rfl (.tmp 31) (.tmp 33) 25 3 (.int .i64 0) 8 rfl Try.underlying25 info3 rfl (by decide) (by omega) u3 x3_1 x0_1 [.int .i64 x0_1] (fun _ => True) (fun _ => False) rfl rfl ?aP (fun _ hk => hk.elim) ?aF ?aO ?aB ?aS ?aL ?_; (case aP => exact rfl); (case aB => exact (Sqz.auHB)); (case aF => exact (fun _ _ => trivial)); (case aO => exact ((Sqz.mvR HO_3.out))); (case aS => exact (below_size (Sqz.auHB))); (case aL => have := LMc13.out; omega); intro v154 w14 ho hb hg hat; rw [← Ny153.out] at ho; replace HB := Aside0.mk (hb); have HO155 := Aside0.mk (ho); clear HO_3; clear ho hb hg hat))
      go_ret
      exact ⟨_, Sqz.auR, (Sqz.mvR HO155.out), Sqz.auHB⟩
     ·rw [if_neg c13] at H; exact absurd H (by simp)
    ·rw [if_neg c12] at H; have c12b0 : decide (1 < x0_1) = false := decide_eq_false c12; clear c12; obtain rfl := Option.some.inj H; go_wp2; go_ret
     exact ⟨_, Sqz.auR, (Sqz.mvR HO_3.out), Sqz.auHB⟩

end Go.Proofs.Ytihadpckmcebgaa.PFnValueMany
