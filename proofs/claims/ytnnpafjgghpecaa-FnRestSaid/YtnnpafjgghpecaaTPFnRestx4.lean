/- A function's Lean twin and its walk, written by a program of this session. -/
import Derived.Test.YtnnpafjgghpecaaTPFnRestx0
import Derived.Test.YtnnpafjgghpecaaTPFnRestx3
namespace Go.Proofs.Ytnnpafjgghpecaa.PFnRest
open Go.RowKit Go.Proofs.YtnnpafjgghpecaaW.PrintWords Go.Proofs.YtnnpafjgghpecaaW.PrintLast Go.Proofs.YtnnpafjgghpecaaW.PrintMore
attribute [local go_sem] max2_int min2_int max_two min_two max_three min_three max_four min_four   -- for this text's walks alone
set_option linter.unusedVariables false
set_option linter.unusedSimpArgs false

/-! ### impl_residue: function 100 -/
def impl_residue.l0 : Nat → Int → Int → Int → Option (Int)
 | 0, _, _, _ => none
 | k + 1, x1, x5, x6 => if x6 ≤ (wrap64 (Int.tdiv x1 2)) then (if x1 = 0 then (none) else (if (Int.tmod (wrap64 (x6 * x6)) x1) = x5 then (some 1) else (impl_residue.l0 k x1 x5 (wrap64 (x6 + 1))))) else (some (-1))
def impl_residue.f (k : Nat) (a0 : Int) (a1 : Int) : Option (Int) := (impl_rest.f a0 a1).bind fun t206 => (if t206 = 0 then (some 0) else (impl_residue.l0 k a1 t206 1))
set_option maxHeartbeats 8000000 in
set_option maxRecDepth 100000 in
theorem impl_residue.calls (k : Nat) (a0 : Int) (a1 : Int) (r : Int) (w : World) (h : impl_residue.f k a0 a1 = some r) :
  Calls Try.prog 100 #[.int .i64 a0, .int .i64 a1] w fun e w' => e = .returned (.int .i64 r) ∧ Drawn0 w w' := by
 have H : ((impl_rest.f a0 a1).bind fun t206 => (if t206 = 0 then (some 0) else (impl_residue.l0 k a1 t206 1))) = some r := h; clear h; obtain ⟨t206, A3, H⟩ := Sqz.be H
 by_cases c4 : t206 = 0
 ·rw [if_pos c4] at H; have c4b0 := beq_iff_eq.mpr c4; have c4b1 := bne_eq_false_iff_eq.mpr c4; clear c4; obtain rfl := Option.some.inj H
  go_enter Try.func100, Try.ntmps100
  go_wp2_with (first | ((with_reducible refine gate_callee (f := 99) rfl ?_); refine goesL_ (some 9) rfl rfl Try.func99 (by kernel_rfl) rfl #[.int .i64 a0, .int .i64 a1] rfl Sqz.auM ?_; (with_reducible refine (impl_rest.calls a0 a1 t206 _ A3.out).mono ?_); rintro e w' ⟨rfl, ⟨nd, rfl⟩⟩; refine ⟨_, rfl, ?_⟩))
  go_ret
  exact ⟨Sqz.auS, by repeat (first | exact Drawn0.refl _ | apply Drawn0.step)⟩
 ·rw [if_neg c4] at H; have c4b0 := beq_eq_false_iff_ne.mpr c4; have c4b1 := bne_iff_ne.mpr c4; have H' := Aside0.mk H; clear H
  go_enter Try.func100, Try.ntmps100
  go_wp2_with (first | ((with_reducible refine gate_callee (f := 99) rfl ?_); refine goesL_ (some 9) rfl rfl Try.func99 (by kernel_rfl) rfl #[.int .i64 a0, .int .i64 a1] rfl Sqz.auM ?_; (with_reducible refine (impl_rest.calls a0 a1 t206 _ A3.out).mono ?_); rintro e w' ⟨rfl, ⟨nd, rfl⟩⟩; refine ⟨_, rfl, ?_⟩))
  go_loopg [6] k (fun kq v6 w' => ∃ (x6_1 : Int), v6 = .int .i64 x6_1 ∧ Aside0 (impl_residue.l0 kq a1 t206 x6_1 = some r) ∧ Aside0 (kq ≤ k) ∧ Drawn0 w w')
  case atStart => exact ⟨(1), Sqz.auS, H', ⟨Nat.le_refl _⟩, by repeat (first | exact Drawn0.refl _ | apply Drawn0.step)⟩
  case round =>
   clear H'
   try clear c1
   try clear p2
   try clear c4
   try clear c4b0
   try clear c4b1
   obtain ⟨x6_1, rfl, HA, HK1, ⟨m1, rfl⟩⟩ := hrel; cases gk with
   | zero => exact absurd HA.out (by simp [impl_residue.l0])
   | succ k1 =>
    have H := HA.out; clear HA; simp only [impl_residue.l0] at H
    by_cases c5 : x6_1 ≤ (wrap64 (Int.tdiv a1 2))
    ·rw [if_pos c5] at H; have c5b0 := decide_eq_true c5; clear c5
     by_cases c6 : a1 = 0
     ·rw [if_pos c6] at H; exact absurd H (by simp)
     ·rw [if_neg c6] at H; have c6b0 := beq_eq_false_iff_ne.mpr c6; have c6b1 := bne_iff_ne.mpr c6
      by_cases c7 : (Int.tmod (wrap64 (x6_1 * x6_1)) a1) = t206
      ·rw [if_pos c7] at H; have c7b0 := beq_iff_eq.mpr c7; have c7b1 := bne_eq_false_iff_eq.mpr c7; clear c7; obtain rfl := Option.some.inj H; go_wp2; go_ret
       exact ⟨Sqz.auS, by repeat (first | exact Drawn0.refl _ | apply Drawn0.step)⟩
      ·rw [if_neg c7] at H; have c7b0 := beq_eq_false_iff_ne.mpr c7; have c7b1 := bne_iff_ne.mpr c7; have H' := Aside0.mk H; clear H; go_wp2
       go_roundg k1
       case measure => have := HK1.out; omega
       case rel => exact ⟨(wrap64 (x6_1 + 1)), Sqz.auS, H', ⟨by have := HK1.out; omega⟩, by repeat (first | exact Drawn0.refl _ | apply Drawn0.step)⟩
    ·rw [if_neg c5] at H; have c5b0 := decide_eq_false c5; clear c5; obtain rfl := Option.some.inj H; go_wp2; go_ret
     exact ⟨Sqz.auS, by repeat (first | exact Drawn0.refl _ | apply Drawn0.step)⟩

/-! ### impl_localSquare: function 84 -/
def impl_localSquare.f (k : Nat) (a0 : Int) (a1 : Int) : Option (Bool) := if a1 = 0 then (some (decide (a0 > 0))) else ((impl_split.f k a0 a1).bind fun bt207 => (if (Int.tmod bt207.1 2) = 0 then (if a1 = 2 then ((impl_rest.f bt207.2 8).bind fun t209 => (some (t209 == 1))) else ((impl_residue.f k bt207.2 a1).bind fun t210 => (some (t210 == 1)))) else (some false)))
set_option maxHeartbeats 8000000 in
set_option maxRecDepth 100000 in
theorem impl_localSquare.calls (k : Nat) (a0 : Int) (a1 : Int) (r : Bool) (w : World) (h : impl_localSquare.f k a0 a1 = some r) :
  Calls Try.prog 84 #[.int .i64 a0, .int .i64 a1] w fun e w' => e = .returned (.bool r) ∧ Drawn0 w w' := by
 have H : (if a1 = 0 then (some (decide (a0 > 0))) else ((impl_split.f k a0 a1).bind fun bt207 => (if (Int.tmod bt207.1 2) = 0 then (if a1 = 2 then ((impl_rest.f bt207.2 8).bind fun t209 => (some (t209 == 1))) else ((impl_residue.f k bt207.2 a1).bind fun t210 => (some (t210 == 1)))) else (some false)))) = some r := h; clear h
 by_cases c3 : a1 = 0
 ·rw [if_pos c3] at H; have c3b0 := beq_iff_eq.mpr c3; have c3b1 := bne_eq_false_iff_eq.mpr c3; clear c3; obtain rfl := Option.some.inj H
  go_enter Try.func84, Try.ntmps84
  go_wp2; go_ret
  exact ⟨Sqz.auS, by repeat (first | exact Drawn0.refl _ | apply Drawn0.step)⟩
 ·rw [if_neg c3] at H; have c3b0 := beq_eq_false_iff_ne.mpr c3; have c3b1 := bne_iff_ne.mpr c3; replace H := Option.bind_eq_some_iff.mp H; obtain ⟨⟨t207, t208⟩, A40, H⟩ := H; replace H : (if (Int.tmod t207 2) = 0 then (if a1 = 2 then ((impl_rest.f t208 8).bind fun t209 => (some (t209 == 1))) else ((impl_residue.f k t208 a1).bind fun t210 => (some (t210 == 1)))) else (some false)) = some r := H; have A4 := Aside0.mk A40; clear A40
  by_cases c5 : (Int.tmod t207 2) = 0
  ·rw [if_pos c5] at H; have c5b0 := beq_iff_eq.mpr c5; have c5b1 := bne_eq_false_iff_eq.mpr c5; clear c5
   by_cases c6 : a1 = 2
   ·rw [if_pos c6] at H; have c6b0 := beq_iff_eq.mpr c6; have c6b1 := bne_eq_false_iff_eq.mpr c6; clear c6; obtain ⟨t209, A7, H⟩ := Sqz.be H; obtain rfl := Option.some.inj H
    go_enter Try.func84, Try.ntmps84
    go_wp2_with (first | ((with_reducible refine gate_callee (f := 42) rfl ?_); refine goesL_ (some 14) rfl rfl Try.func42 (by kernel_rfl) rfl #[.int .i64 a0, .int .i64 a1] rfl Sqz.auM ?_; (with_reducible refine (impl_split.calls k a0 a1 t207 t208 _ A4.out).mono ?_); rintro e w' ⟨rfl, ⟨nd, rfl⟩⟩; refine ⟨_, rfl, ?_⟩) | ((with_reducible refine gate_callee (f := 99) rfl ?_); refine goesL_ (some 23) rfl rfl Try.func99 (by kernel_rfl) rfl #[.int .i64 t208, .int .i64 8] rfl Sqz.auM ?_; (with_reducible refine (impl_rest.calls t208 8 t209 _ A7.out).mono ?_); rintro e w' ⟨rfl, ⟨nd, rfl⟩⟩; refine ⟨_, rfl, ?_⟩))
    go_ret
    exact ⟨Sqz.auS, by repeat (first | exact Drawn0.refl _ | apply Drawn0.step)⟩
   ·rw [if_neg c6] at H; have c6b0 := beq_eq_false_iff_ne.mpr c6; have c6b1 := bne_iff_ne.mpr c6; obtain ⟨t210, A8, H⟩ := Sqz.be H; obtain rfl := Option.some.inj H
    go_enter Try.func84, Try.ntmps84
    go_wp2_with (first | ((with_reducible refine gate_callee (f := 42) rfl ?_); refine goesL_ (some 14) rfl rfl Try.func42 (by kernel_rfl) rfl #[.int .i64 a0, .int .i64 a1] rfl Sqz.auM ?_; (with_reducible refine (impl_split.calls k a0 a1 t207 t208 _ A4.out).mono ?_); rintro e w' ⟨rfl, ⟨nd, rfl⟩⟩; refine ⟨_, rfl, ?_⟩) | ((with_reducible refine gate_callee (f := 100) rfl ?_); refine goesL_ (some 27) rfl rfl Try.func100 (by kernel_rfl) rfl #[.int .i64 t208, .int .i64 a1] rfl Sqz.auM ?_; (with_reducible refine (impl_residue.calls k t208 a1 t210 _ A8.out).mono ?_); rintro e w' ⟨rfl, ⟨nd, rfl⟩⟩; refine ⟨_, rfl, ?_⟩))
    go_ret
    exact ⟨Sqz.auS, by repeat (first | exact Drawn0.refl _ | apply Drawn0.step)⟩
  ·rw [if_neg c5] at H; have c5b0 := beq_eq_false_iff_ne.mpr c5; have c5b1 := bne_iff_ne.mpr c5; obtain rfl := Option.some.inj H
   go_enter Try.func84, Try.ntmps84
   go_wp2_with (first | ((with_reducible refine gate_callee (f := 42) rfl ?_); refine goesL_ (some 14) rfl rfl Try.func42 (by kernel_rfl) rfl #[.int .i64 a0, .int .i64 a1] rfl Sqz.auM ?_; (with_reducible refine (impl_split.calls k a0 a1 t207 t208 _ A4.out).mono ?_); rintro e w' ⟨rfl, ⟨nd, rfl⟩⟩; refine ⟨_, rfl, ?_⟩))
   go_ret
   exact ⟨Sqz.auS, by repeat (first | exact Drawn0.refl _ | apply Drawn0.step)⟩

/-! ### impl_power: function 104 -/
def impl_power.l0 : Nat → Int → Int → Int → Int → Option (Int)
 | 0, _, _, _, _ => none
 | k + 1, x0, x5, x6, x7 => if x7 < x6 then (impl_power.l0 k x0 (wrap64 (x5 * x0)) x6 (wrap64 (x7 + 1))) else (some x5)
def impl_power.f (k : Nat) (a0 : Int) (a1 : Int) : Option (Int) := impl_power.l0 k a0 1 a1 0
set_option maxHeartbeats 8000000 in
set_option maxRecDepth 100000 in
theorem impl_power.calls (k : Nat) (a0 : Int) (a1 : Int) (r : Int) (w : World) (h : impl_power.f k a0 a1 = some r) :
  Calls Try.prog 104 #[.int .i64 a0, .int .i64 a1] w fun e w' => e = .returned (.int .i64 r) ∧ Drawn0 w w' := by
 have H : (impl_power.l0 k a0 1 a1 0) = some r := h; clear h; have H' := Aside0.mk H; clear H
 go_enter Try.func104, Try.ntmps104
 go_wp2
 go_loopg [5, 7] k (fun kq v5 v7 w' => ∃ (x5_1 : Int) (x7_1 : Int), v5 = .int .i64 x5_1 ∧ v7 = .int .i64 x7_1 ∧ Aside0 (impl_power.l0 kq a0 x5_1 a1 x7_1 = some r) ∧ Aside0 (kq ≤ k) ∧ Drawn0 w w')
 case atStart => exact ⟨(1), (0), Sqz.auS, Sqz.auS, H', ⟨Nat.le_refl _⟩, by repeat (first | exact Drawn0.refl _ | apply Drawn0.step)⟩
 case round =>
  clear H'
  try clear c1
  try clear p2
  obtain ⟨x5_1, x7_1, rfl, rfl, HA, HK1, ⟨m1, rfl⟩⟩ := hrel; cases gk with
  | zero => exact absurd HA.out (by simp [impl_power.l0])
  | succ k1 =>
   have H := HA.out; clear HA; simp only [impl_power.l0] at H
   by_cases c3 : x7_1 < a1
   ·rw [if_pos c3] at H; have c3b0 := decide_eq_true c3; clear c3; have H' := Aside0.mk H; clear H; go_wp2
    go_roundg k1
    case measure => have := HK1.out; omega
    case rel => exact ⟨(wrap64 (x5_1 * a0)), (wrap64 (x7_1 + 1)), Sqz.auS, Sqz.auS, H', ⟨by have := HK1.out; omega⟩, by repeat (first | exact Drawn0.refl _ | apply Drawn0.step)⟩
   ·rw [if_neg c3] at H; have c3b0 := decide_eq_false c3; clear c3; obtain rfl := Option.some.inj H; go_wp2; go_ret
    exact ⟨Sqz.auS, by repeat (first | exact Drawn0.refl _ | apply Drawn0.step)⟩

/-! ### impl_symbol: function 91 -/
def impl_symbol.f (k : Nat) (a0 : Int) (a1 : Int) (a2 : Int) : Option (Int) := if a2 = 0 then (if a0 < 0 then (if a1 < 0 then (some (-1)) else (some 1)) else (some 1)) else ((impl_split.f k a0 a2).bind fun bt211 => ((impl_split.f k a1 a2).bind fun bt213 => (if a2 = 2 then ((impl_rest.f bt211.2 8).bind fun t215 => ((impl_rest.f bt213.2 8).bind fun t216 => ((impl_power.f k (-1) (Int.tmod (wrap64 ((wrap64 ((wrap64 ((wrap64 (Int.tdiv (wrap64 (t215 - 1)) 2)) * (wrap64 (Int.tdiv (wrap64 (t216 - 1)) 2)))) + (wrap64 (Int.tdiv (wrap64 (bt211.1 * (wrap64 ((wrap64 (t216 * t216)) - 1)))) 8)))) + (wrap64 (Int.tdiv (wrap64 (bt213.1 * (wrap64 ((wrap64 (t215 * t215)) - 1)))) 8)))) 2)).bind fun t217 => (some t217)))) else ((impl_power.f k (-1) (Int.tmod (wrap64 (Int.tdiv (wrap64 ((wrap64 (bt211.1 * bt213.1)) * (wrap64 (a2 - 1)))) 2)) 2)).bind fun t218 => ((impl_residue.f k bt211.2 a2).bind fun t219 => ((impl_power.f k t219 (Int.tmod bt213.1 2)).bind fun t220 => ((impl_residue.f k bt213.2 a2).bind fun t221 => ((impl_power.f k t221 (Int.tmod bt211.1 2)).bind fun t222 => (some (wrap64 ((wrap64 (t218 * t220)) * t222)))))))))))
set_option maxHeartbeats 8000000 in
set_option maxRecDepth 100000 in
theorem impl_symbol.calls (k : Nat) (a0 : Int) (a1 : Int) (a2 : Int) (r : Int) (w : World) (h : impl_symbol.f k a0 a1 a2 = some r) :
  Calls Try.prog 91 #[.int .i64 a0, .int .i64 a1, .int .i64 a2] w fun e w' => e = .returned (.int .i64 r) ∧ Drawn0 w w' := by
 have H : (if a2 = 0 then (if a0 < 0 then (if a1 < 0 then (some (-1)) else (some 1)) else (some 1)) else ((impl_split.f k a0 a2).bind fun bt211 => ((impl_split.f k a1 a2).bind fun bt213 => (if a2 = 2 then ((impl_rest.f bt211.2 8).bind fun t215 => ((impl_rest.f bt213.2 8).bind fun t216 => ((impl_power.f k (-1) (Int.tmod (wrap64 ((wrap64 ((wrap64 ((wrap64 (Int.tdiv (wrap64 (t215 - 1)) 2)) * (wrap64 (Int.tdiv (wrap64 (t216 - 1)) 2)))) + (wrap64 (Int.tdiv (wrap64 (bt211.1 * (wrap64 ((wrap64 (t216 * t216)) - 1)))) 8)))) + (wrap64 (Int.tdiv (wrap64 (bt213.1 * (wrap64 ((wrap64 (t215 * t215)) - 1)))) 8)))) 2)).bind fun t217 => (some t217)))) else ((impl_power.f k (-1) (Int.tmod (wrap64 (Int.tdiv (wrap64 ((wrap64 (bt211.1 * bt213.1)) * (wrap64 (a2 - 1)))) 2)) 2)).bind fun t218 => ((impl_residue.f k bt211.2 a2).bind fun t219 => ((impl_power.f k t219 (Int.tmod bt213.1 2)).bind fun t220 => ((impl_residue.f k bt213.2 a2).bind fun t221 => ((impl_power.f k t221 (Int.tmod bt211.1 2)).bind fun t222 => (some (wrap64 ((wrap64 (t218 * t220)) * t222)))))))))))) = some r := h; clear h
 by_cases c4 : a2 = 0
 ·rw [if_pos c4] at H; have c4b0 := beq_iff_eq.mpr c4; have c4b1 := bne_eq_false_iff_eq.mpr c4; clear c4
  by_cases c5 : a0 < 0
  ·rw [if_pos c5] at H; have c5b0 := decide_eq_true c5; clear c5
   by_cases c6 : a1 < 0
   ·rw [if_pos c6] at H; have c6b0 := decide_eq_true c6; clear c6; obtain rfl := Option.some.inj H
    go_enter Try.func91, Try.ntmps91
    go_wp2; go_ret
    exact ⟨Sqz.auS, by repeat (first | exact Drawn0.refl _ | apply Drawn0.step)⟩
   ·rw [if_neg c6] at H; have c6b0 := decide_eq_false c6; clear c6; obtain rfl := Option.some.inj H
    go_enter Try.func91, Try.ntmps91
    go_wp2; go_ret
    exact ⟨Sqz.auS, by repeat (first | exact Drawn0.refl _ | apply Drawn0.step)⟩
  ·rw [if_neg c5] at H; have c5b0 := decide_eq_false c5; clear c5; obtain rfl := Option.some.inj H
   go_enter Try.func91, Try.ntmps91
   go_wp2; go_ret
   exact ⟨Sqz.auS, by repeat (first | exact Drawn0.refl _ | apply Drawn0.step)⟩
 ·rw [if_neg c4] at H; have c4b0 := beq_eq_false_iff_ne.mpr c4; have c4b1 := bne_iff_ne.mpr c4; replace H := Option.bind_eq_some_iff.mp H; obtain ⟨⟨t211, t212⟩, A70, H⟩ := H; replace H : ((impl_split.f k a1 a2).bind fun bt213 => (if a2 = 2 then ((impl_rest.f t212 8).bind fun t215 => ((impl_rest.f bt213.2 8).bind fun t216 => ((impl_power.f k (-1) (Int.tmod (wrap64 ((wrap64 ((wrap64 ((wrap64 (Int.tdiv (wrap64 (t215 - 1)) 2)) * (wrap64 (Int.tdiv (wrap64 (t216 - 1)) 2)))) + (wrap64 (Int.tdiv (wrap64 (t211 * (wrap64 ((wrap64 (t216 * t216)) - 1)))) 8)))) + (wrap64 (Int.tdiv (wrap64 (bt213.1 * (wrap64 ((wrap64 (t215 * t215)) - 1)))) 8)))) 2)).bind fun t217 => (some t217)))) else ((impl_power.f k (-1) (Int.tmod (wrap64 (Int.tdiv (wrap64 ((wrap64 (t211 * bt213.1)) * (wrap64 (a2 - 1)))) 2)) 2)).bind fun t218 => ((impl_residue.f k t212 a2).bind fun t219 => ((impl_power.f k t219 (Int.tmod bt213.1 2)).bind fun t220 => ((impl_residue.f k bt213.2 a2).bind fun t221 => ((impl_power.f k t221 (Int.tmod t211 2)).bind fun t222 => (some (wrap64 ((wrap64 (t218 * t220)) * t222)))))))))) = some r := H; have A7 := Aside0.mk A70; clear A70; replace H := Option.bind_eq_some_iff.mp H; obtain ⟨⟨t213, t214⟩, A80, H⟩ := H; replace H : (if a2 = 2 then ((impl_rest.f t212 8).bind fun t215 => ((impl_rest.f t214 8).bind fun t216 => ((impl_power.f k (-1) (Int.tmod (wrap64 ((wrap64 ((wrap64 ((wrap64 (Int.tdiv (wrap64 (t215 - 1)) 2)) * (wrap64 (Int.tdiv (wrap64 (t216 - 1)) 2)))) + (wrap64 (Int.tdiv (wrap64 (t211 * (wrap64 ((wrap64 (t216 * t216)) - 1)))) 8)))) + (wrap64 (Int.tdiv (wrap64 (t213 * (wrap64 ((wrap64 (t215 * t215)) - 1)))) 8)))) 2)).bind fun t217 => (some t217)))) else ((impl_power.f k (-1) (Int.tmod (wrap64 (Int.tdiv (wrap64 ((wrap64 (t211 * t213)) * (wrap64 (a2 - 1)))) 2)) 2)).bind fun t218 => ((impl_residue.f k t212 a2).bind fun t219 => ((impl_power.f k t219 (Int.tmod t213 2)).bind fun t220 => ((impl_residue.f k t214 a2).bind fun t221 => ((impl_power.f k t221 (Int.tmod t211 2)).bind fun t222 => (some (wrap64 ((wrap64 (t218 * t220)) * t222))))))))) = some r := H; have A8 := Aside0.mk A80; clear A80
  by_cases c9 : a2 = 2
  ·rw [if_pos c9] at H; have c9b0 := beq_iff_eq.mpr c9; have c9b1 := bne_eq_false_iff_eq.mpr c9; clear c9; obtain ⟨t215, A10, H⟩ := Sqz.be H; obtain ⟨t216, A11, H⟩ := Sqz.be H; obtain ⟨t217, A12, H⟩ := Sqz.be H; obtain rfl := Option.some.inj H
   go_enter Try.func91, Try.ntmps91
   go_wp2_with (first | ((with_reducible refine gate_callee (f := 42) rfl ?_); refine goesL_ (some 24) rfl rfl Try.func42 (by kernel_rfl) rfl #[.int .i64 a0, .int .i64 a2] rfl Sqz.auM ?_; (with_reducible refine (impl_split.calls k a0 a2 t211 t212 _ A7.out).mono ?_); rintro e w' ⟨rfl, ⟨nd, rfl⟩⟩; refine ⟨_, rfl, ?_⟩) | ((with_reducible refine gate_callee (f := 42) rfl ?_); refine goesL_ (some 30) rfl rfl Try.func42 (by kernel_rfl) rfl #[.int .i64 a1, .int .i64 a2] rfl Sqz.auM ?_; (with_reducible refine (impl_split.calls k a1 a2 t213 t214 _ A8.out).mono ?_); rintro e w' ⟨rfl, ⟨nd, rfl⟩⟩; refine ⟨_, rfl, ?_⟩) | ((with_reducible refine gate_callee (f := 99) rfl ?_); refine goesL_ (some 59) rfl rfl Try.func99 (by kernel_rfl) rfl #[.int .i64 t212, .int .i64 8] rfl Sqz.auM ?_; (with_reducible refine (impl_rest.calls t212 8 t215 _ A10.out).mono ?_); rintro e w' ⟨rfl, ⟨nd, rfl⟩⟩; refine ⟨_, rfl, ?_⟩) | ((with_reducible refine gate_callee (f := 99) rfl ?_); refine goesL_ (some 61) rfl rfl Try.func99 (by kernel_rfl) rfl #[.int .i64 t214, .int .i64 8] rfl Sqz.auM ?_; (with_reducible refine (impl_rest.calls t214 8 t216 _ A11.out).mono ?_); rintro e w' ⟨rfl, ⟨nd, rfl⟩⟩; refine ⟨_, rfl, ?_⟩) | ((with_reducible refine gate_callee (f := 104) rfl ?_); refine goesL_ (some 86) rfl rfl Try.func104 (by kernel_rfl) rfl #[.int .i64 (-1), .int .i64 (Int.tmod (wrap64 ((wrap64 ((wrap64 ((wrap64 (Int.tdiv (wrap64 (t215 - 1)) 2)) * (wrap64 (Int.tdiv (wrap64 (t216 - 1)) 2)))) + (wrap64 (Int.tdiv (wrap64 (t211 * (wrap64 ((wrap64 (t216 * t216)) - 1)))) 8)))) + (wrap64 (Int.tdiv (wrap64 (t213 * (wrap64 ((wrap64 (t215 * t215)) - 1)))) 8)))) 2)] rfl Sqz.auM ?_; (with_reducible refine (impl_power.calls k (-1) (Int.tmod (wrap64 ((wrap64 ((wrap64 ((wrap64 (Int.tdiv (wrap64 (t215 - 1)) 2)) * (wrap64 (Int.tdiv (wrap64 (t216 - 1)) 2)))) + (wrap64 (Int.tdiv (wrap64 (t211 * (wrap64 ((wrap64 (t216 * t216)) - 1)))) 8)))) + (wrap64 (Int.tdiv (wrap64 (t213 * (wrap64 ((wrap64 (t215 * t215)) - 1)))) 8)))) 2) t217 _ A12.out).mono ?_); rintro e w' ⟨rfl, ⟨nd, rfl⟩⟩; refine ⟨_, rfl, ?_⟩))
   go_ret
   exact ⟨Sqz.auS, by repeat (first | exact Drawn0.refl _ | apply Drawn0.step)⟩
  ·rw [if_neg c9] at H; have c9b0 := beq_eq_false_iff_ne.mpr c9; have c9b1 := bne_iff_ne.mpr c9; obtain ⟨t218, A13, H⟩ := Sqz.be H; obtain ⟨t219, A14, H⟩ := Sqz.be H; obtain ⟨t220, A15, H⟩ := Sqz.be H; obtain ⟨t221, A16, H⟩ := Sqz.be H; obtain ⟨t222, A17, H⟩ := Sqz.be H; obtain rfl := Option.some.inj H
   go_enter Try.func91, Try.ntmps91
   go_wp2_with (first | ((with_reducible refine gate_callee (f := 42) rfl ?_); refine goesL_ (some 24) rfl rfl Try.func42 (by kernel_rfl) rfl #[.int .i64 a0, .int .i64 a2] rfl Sqz.auM ?_; (with_reducible refine (impl_split.calls k a0 a2 t211 t212 _ A7.out).mono ?_); rintro e w' ⟨rfl, ⟨nd, rfl⟩⟩; refine ⟨_, rfl, ?_⟩) | ((with_reducible refine gate_callee (f := 42) rfl ?_); refine goesL_ (some 30) rfl rfl Try.func42 (by kernel_rfl) rfl #[.int .i64 a1, .int .i64 a2] rfl Sqz.auM ?_; (with_reducible refine (impl_split.calls k a1 a2 t213 t214 _ A8.out).mono ?_); rintro e w' ⟨rfl, ⟨nd, rfl⟩⟩; refine ⟨_, rfl, ?_⟩) | ((with_reducible refine gate_callee (f := 104) rfl ?_); refine goesL_ (some 43) rfl rfl Try.func104 (by kernel_rfl) rfl #[.int .i64 (-1), .int .i64 (Int.tmod (wrap64 (Int.tdiv (wrap64 ((wrap64 (t211 * t213)) * (wrap64 (a2 - 1)))) 2)) 2)] rfl Sqz.auM ?_; (with_reducible refine (impl_power.calls k (-1) (Int.tmod (wrap64 (Int.tdiv (wrap64 ((wrap64 (t211 * t213)) * (wrap64 (a2 - 1)))) 2)) 2) t218 _ A13.out).mono ?_); rintro e w' ⟨rfl, ⟨nd, rfl⟩⟩; refine ⟨_, rfl, ?_⟩) | ((with_reducible refine gate_callee (f := 100) rfl ?_); refine goesL_ (some 46) rfl rfl Try.func100 (by kernel_rfl) rfl #[.int .i64 t212, .int .i64 a2] rfl Sqz.auM ?_; (with_reducible refine (impl_residue.calls k t212 a2 t219 _ A14.out).mono ?_); rintro e w' ⟨rfl, ⟨nd, rfl⟩⟩; refine ⟨_, rfl, ?_⟩) | ((with_reducible refine gate_callee (f := 104) rfl ?_); refine goesL_ (some 49) rfl rfl Try.func104 (by kernel_rfl) rfl #[.int .i64 t219, .int .i64 (Int.tmod t213 2)] rfl Sqz.auM ?_; (with_reducible refine (impl_power.calls k t219 (Int.tmod t213 2) t220 _ A15.out).mono ?_); rintro e w' ⟨rfl, ⟨nd, rfl⟩⟩; refine ⟨_, rfl, ?_⟩) | ((with_reducible refine gate_callee (f := 100) rfl ?_); refine goesL_ (some 53) rfl rfl Try.func100 (by kernel_rfl) rfl #[.int .i64 t214, .int .i64 a2] rfl Sqz.auM ?_; (with_reducible refine (impl_residue.calls k t214 a2 t221 _ A16.out).mono ?_); rintro e w' ⟨rfl, ⟨nd, rfl⟩⟩; refine ⟨_, rfl, ?_⟩) | ((with_reducible refine gate_callee (f := 104) rfl ?_); refine goesL_ (some 56) rfl rfl Try.func104 (by kernel_rfl) rfl #[.int .i64 t221, .int .i64 (Int.tmod t211 2)] rfl Sqz.auM ?_; (with_reducible refine (impl_power.calls k t221 (Int.tmod t211 2) t222 _ A17.out).mono ?_); rintro e w' ⟨rfl, ⟨nd, rfl⟩⟩; refine ⟨_, rfl, ?_⟩))
   go_ret
   exact ⟨Sqz.auS, by repeat (first | exact Drawn0.refl _ | apply Drawn0.step)⟩

/-! ### impl_invariant: function 85 -/
mutual
def impl_invariant.l0 : Nat → List Int → Int → Int → List Int → Int → Int → Option (Int)
 | 0, _, _, _, _, _, _ => none
 | k + 1, x0, x1, x5, x10, x11, x12 => if x12 < x11 then (if 0 ≤ x12 then (if x12 < (x10.length : Int) then (if x12 ≤ (x0.length : Int) then (impl_invariant.l1 k x0 x1 x5 (rd x10 x12) x10 x11 x12 (x0.take (x12 : Int).toNat) ((x0.take (x12 : Int).toNat).length : Int) 0) else (none)) else (none)) else (none)) else (some x5)
def impl_invariant.l1 : Nat → List Int → Int → Int → Int → List Int → Int → Int → List Int → Int → Int → Option (Int)
 | 0, _, _, _, _, _, _, _, _, _, _ => none
 | k + 1, x0, x1, x5, x7, x10, x11, x12, x19, x20, x21 => if x21 < x20 then (if 0 ≤ x21 then (if x21 < (x19.length : Int) then ((impl_symbol.f k x7 (rd x19 x21) x1).bind fun t226 => (impl_invariant.l1 k x0 x1 (wrap64 (x5 * t226)) x7 x10 x11 x12 x19 x20 (wrap64 (x21 + 1)))) else (none)) else (none)) else (impl_invariant.l0 k x0 x1 x5 x10 x11 (wrap64 (x12 + 1)))
end
def impl_invariant.f (k : Nat) (l0 : List Int) (a1 : Int) : Option (Int) := impl_invariant.l0 k l0 a1 1 l0 (l0.length : Int) 0
set_option maxHeartbeats 8000000 in
set_option maxRecDepth 100000 in
theorem impl_invariant.calls (k : Nat) (A0 : Option Addr) (c0 : Nat) (l0 : List Int) (a1 : Int) (r : Int) (w : World) (hr0 : Kd.C (Kd.int .i64) w A0 l0.length l0) (hc0 : l0.length ≤ c0) (h : impl_invariant.f k l0 a1 = some r) :
  Calls Try.prog 85 #[.slice A0 l0.length c0, .int .i64 a1] w fun e w' => e = .returned (.int .i64 r) ∧ Drawn0 w w' := by
 have HR0 := Aside0.mk hr0; have HC0 := Aside0.mk hc0; clear hr0 hc0; have H : (impl_invariant.l0 k l0 a1 1 l0 (l0.length : Int) 0) = some r := h; clear h; have H' := Aside0.mk H; clear H
 go_enter Try.func85, Try.ntmps85
 go_wp2
 go_loopg [5, 12] k (fun kq v5 v12 w' => ∃ (x5_1 : Int) (x12_1 : Int), v5 = .int .i64 x5_1 ∧ v12 = .int .i64 x12_1 ∧ Aside0 (impl_invariant.l0 kq l0 a1 x5_1 l0 (l0.length : Int) x12_1 = some r) ∧ Aside0 (kq ≤ k) ∧ Drawn0 w w')
 case atStart => exact ⟨(1), (0), Sqz.auS, Sqz.auS, H', ⟨Nat.le_refl _⟩, by repeat (first | exact Drawn0.refl _ | apply Drawn0.step)⟩
 case round =>
  clear H'
  try clear p2
  obtain ⟨x5_1, x12_1, rfl, rfl, HA, HK1, ⟨m1, rfl⟩⟩ := hrel; cases gk with
  | zero => exact absurd HA.out (by simp [impl_invariant.l0])
  | succ k1 =>
   have H := HA.out; clear HA; simp only [impl_invariant.l0] at H
   by_cases c3 : x12_1 < (l0.length : Int)
   ·rw [if_pos c3] at H; have c3b0 := decide_eq_true c3; clear c3
    by_cases c4 : 0 ≤ x12_1
    ·rw [if_pos c4] at H; have c4b0 := decide_eq_true c4; clear c4
     by_cases c5 : x12_1 < (l0.length : Int)
     ·rw [if_pos c5] at H; have c5b0 := decide_eq_true c5; clear c5; have c6b0 := eq_true (Sqz.od : 0 ≤ x12_1)
      by_cases c7 : x12_1 ≤ (l0.length : Int)
      ·rw [if_pos c7] at H; have c7b0 := eq_true c7; have c7b1 := decide_eq_true c7; clear c7; have H' := Aside0.mk H; clear H; have p223 : 0 ≤ (x12_1 : Int) := Sqz.od; have q223 : x12_1 < (l0.length : Int) := Sqz.od; obtain ⟨ad223, e223, hx223_0⟩ := Kd.at_int HR0.out x12_1 p223 q223; cases e223; replace p223 := eq_true p223; replace q223 := eq_true q223; obtain ⟨i08, hi08, _, hsz8, _⟩ := info_parts info3; obtain ⟨hcut8, hA8, hC8⟩ := print_take_of (P := Try.prog) (Value.int .i64) 0 22 3 .i64 Try.underlying22 hi08 hsz8 (some ad223) c0 l0 x12_1 (Sqz.od) (Sqz.od) HC0.out; have HR224 := Aside0.mk (Kd.C_of_reads (h1 := fun _ => rfl) (hA8 _ (Kd.reads_of_C HR0.out))); have HZ_ : Aside0 (x12_1 < (l0.length : Int)) := ⟨by first | exact of_decide_eq_true (by assumption) | exact of_eq_true (by assumption)⟩; have HC224 := Aside0.mk hC8; clear hA8 hC8 hi08 hsz8; go_wp2
       go_loopg [5, 21] k1 (fun kq v5 v21 w' => ∃ (x5_2 : Int) (x21_2 : Int), v5 = .int .i64 x5_2 ∧ v21 = .int .i64 x21_2 ∧ Aside0 (impl_invariant.l1 kq l0 a1 x5_2 (rd l0 x12_1) l0 (l0.length : Int) x12_1 (l0.take (x12_1 : Int).toNat) ((l0.take (x12_1 : Int).toNat).length : Int) x21_2 = some r) ∧ Aside0 (kq ≤ k1) ∧ Drawn0 w w')
       case atStart => exact ⟨(x5_1), (0), Sqz.auS, Sqz.auS, H', ⟨Nat.le_refl _⟩, by repeat (first | exact Drawn0.refl _ | apply Drawn0.step)⟩
       case round =>
        clear H'
        try clear p2
        try clear q2
        try clear hx2
        try clear c3
        try clear c3b0
        try clear c4
        try clear c4b0
        try clear c5
        try clear c5b0
        try clear c6
        try clear c6b0
        try clear c7
        try clear c7b0
        try clear c7b1
        try clear c8
        try clear hx223_0
        try clear p2
        try clear p223
        try clear q223
        obtain ⟨x5_2, x21_2, rfl, rfl, HA, HK2, ⟨m2, rfl⟩⟩ := hrel; cases gk with
        | zero => exact absurd HA.out (by simp [impl_invariant.l1])
        | succ k2 =>
         have H := HA.out; clear HA; simp only [impl_invariant.l1] at H
         by_cases c9 : x21_2 < ((l0.take (x12_1 : Int).toNat).length : Int)
         ·rw [if_pos c9] at H; have c9b0 := decide_eq_true c9; clear c9
          by_cases c10 : 0 ≤ x21_2
          ·rw [if_pos c10] at H; have c10b0 := decide_eq_true c10; clear c10
           by_cases c11 : x21_2 < ((l0.take (x12_1 : Int).toNat).length : Int)
           ·rw [if_pos c11] at H; have c11b0 := decide_eq_true c11; clear c11; obtain ⟨t226, A12, H⟩ := Sqz.be H; have H' := Aside0.mk H; clear H; have p225 : 0 ≤ (x21_2 : Int) := Sqz.od; have q225 : x21_2 < ((l0.take (x12_1 : Int).toNat).length : Int) := Sqz.od; obtain ⟨ad225, e225, hx225_0⟩ := Kd.at_int HR224.out x21_2 p225 q225; obtain rfl : ad223 = ad225 := (by injection e225); replace p225 := eq_true p225; replace q225 := eq_true q225; have q225m : (x21_2 < max x12_1 0) = True := eq_true (by have h_ := of_eq_true q225; simp only [List.length_take] at h_; omega)
            go_wp2_with (first | ((with_reducible refine gate_callee (f := 91) rfl ?_); refine goesL_ (some 29) rfl rfl Try.func91 (by kernel_rfl) rfl #[.int .i64 (rd l0 x12_1), .int .i64 (rd (l0.take (x12_1 : Int).toNat) x21_2), .int .i64 a1] rfl Sqz.auM ?_; (with_reducible refine (impl_symbol.calls k2 (rd l0 x12_1) (rd (l0.take (x12_1 : Int).toNat) x21_2) a1 t226 _ A12.out).mono ?_); rintro e w' ⟨rfl, ⟨nd, rfl⟩⟩; refine ⟨_, rfl, ?_⟩))
            go_roundg k2
            case measure => have := HK1.out; have := HK2.out; omega
            case rel => exact ⟨(wrap64 (x5_2 * t226)), (wrap64 (x21_2 + 1)), Sqz.auS, Sqz.auS, H', ⟨by have := HK1.out; have := HK2.out; omega⟩, by repeat (first | exact Drawn0.refl _ | apply Drawn0.step)⟩
           ·rw [if_neg c11] at H; exact absurd H (by simp)
          ·rw [if_neg c10] at H; exact absurd H (by simp)
         ·rw [if_neg c9] at H; have c9b0 := decide_eq_false c9; have c9bm : decide (x21_2 < max x12_1 0) = false := decide_eq_false (by have h_ := HZ_.out; simp only [List.length_take] at c9; omega); clear c9; have H' := Aside0.mk H; clear H; go_wp2
          go_roundg k2
          case measure => have := HK1.out; have := HK2.out; omega
          case rel => exact ⟨(x5_2), (wrap64 (x12_1 + 1)), Sqz.auS, Sqz.auS, H', ⟨by have := HK1.out; have := HK2.out; omega⟩, by repeat (first | exact Drawn0.refl _ | apply Drawn0.step)⟩
      ·rw [if_neg c7] at H; exact absurd H (by simp)
     ·rw [if_neg c5] at H; exact absurd H (by simp)
    ·rw [if_neg c4] at H; exact absurd H (by simp)
   ·rw [if_neg c3] at H; have c3b0 := decide_eq_false c3; clear c3; obtain rfl := Option.some.inj H; go_wp2; go_ret
    exact ⟨Sqz.auS, by repeat (first | exact Drawn0.refl _ | apply Drawn0.step)⟩

/-! ### impl_vanishes: function 74 -/
def impl_vanishes.f (k : Nat) (l0 : List Int) (a1 : Int) : Option (Bool) := (impl_product.f k l0).bind fun t227 => (if a1 = 0 then ((impl_lessTerms.f k l0).bind fun t228 => (if t228 > 0 then (some (decide (t228 < (l0.length : Int)))) else (some false))) else (if (l0.length : Int) = 2 then ((impl_localSquare.f k (wrap64 (-t227)) a1).bind fun t229 => (some t229)) else (if (l0.length : Int) = 3 then ((impl_invariant.f k l0 a1).bind fun t230 => ((impl_symbol.f k (-1) (wrap64 (-t227)) a1).bind fun t231 => (some (t230 == t231)))) else (if (l0.length : Int) = 4 then ((impl_localSquare.f k t227 a1).bind fun t232 => (if t232 = true then ((impl_invariant.f k l0 a1).bind fun t233 => ((impl_symbol.f k (-1) (-1) a1).bind fun t234 => (some (t233 == t234)))) else (some true))) else (some false)))))
set_option maxHeartbeats 8000000 in
set_option maxRecDepth 100000 in
theorem impl_vanishes.calls (k : Nat) (A0 : Option Addr) (c0 : Nat) (l0 : List Int) (a1 : Int) (r : Bool) (w : World) (hr0 : Kd.C (Kd.int .i64) w A0 l0.length l0) (hc0 : l0.length ≤ c0) (h : impl_vanishes.f k l0 a1 = some r) :
  Calls Try.prog 74 #[.slice A0 l0.length c0, .int .i64 a1] w fun e w' => e = .returned (.bool r) ∧ Drawn0 w w' := by
 have HR0 := Aside0.mk hr0; have HC0 := Aside0.mk hc0; clear hr0 hc0; have H : ((impl_product.f k l0).bind fun t227 => (if a1 = 0 then ((impl_lessTerms.f k l0).bind fun t228 => (if t228 > 0 then (some (decide (t228 < (l0.length : Int)))) else (some false))) else (if (l0.length : Int) = 2 then ((impl_localSquare.f k (wrap64 (-t227)) a1).bind fun t229 => (some t229)) else (if (l0.length : Int) = 3 then ((impl_invariant.f k l0 a1).bind fun t230 => ((impl_symbol.f k (-1) (wrap64 (-t227)) a1).bind fun t231 => (some (t230 == t231)))) else (if (l0.length : Int) = 4 then ((impl_localSquare.f k t227 a1).bind fun t232 => (if t232 = true then ((impl_invariant.f k l0 a1).bind fun t233 => ((impl_symbol.f k (-1) (-1) a1).bind fun t234 => (some (t233 == t234)))) else (some true))) else (some false)))))) = some r := h; clear h; obtain ⟨t227, A3, H⟩ := Sqz.be H
 by_cases c4 : a1 = 0
 ·rw [if_pos c4] at H; have c4b0 := beq_iff_eq.mpr c4; have c4b1 := bne_eq_false_iff_eq.mpr c4; clear c4; obtain ⟨t228, A5, H⟩ := Sqz.be H
  by_cases c6 : t228 > 0
  ·rw [if_pos c6] at H; have c6b0 : decide (0 < t228) = true := decide_eq_true c6; clear c6; obtain rfl := Option.some.inj H
   go_enter Try.func74, Try.ntmps74
   go_wp2_with (first | ((with_reducible refine gate_callee (f := 75) rfl ?_); refine goesL_ (some 8) rfl rfl Try.func75 (by kernel_rfl) rfl #[.slice A0 l0.length c0] rfl Sqz.auM ?_; (with_reducible refine (impl_product.calls k _ _ l0 t227 _ ?side1 ?side2 A3.out).mono ?_); (case side1 => exact Sqz.mvC (HR0.out)); (case side2 => exact HC0.out); rintro e w' ⟨rfl, ⟨nd, rfl⟩⟩; refine ⟨_, rfl, ?_⟩) | ((with_reducible refine gate_callee (f := 83) rfl ?_); refine goesL_ (some 12) rfl rfl Try.func83 (by kernel_rfl) rfl #[.slice A0 l0.length c0] rfl Sqz.auM ?_; (with_reducible refine (impl_lessTerms.calls k _ _ l0 t228 _ ?side1 ?side2 A5.out).mono ?_); (case side1 => exact Sqz.mvC (HR0.out)); (case side2 => exact HC0.out); rintro e w' ⟨rfl, ⟨nd, rfl⟩⟩; refine ⟨_, rfl, ?_⟩))
   go_ret
   exact ⟨Sqz.auS, by repeat (first | exact Drawn0.refl _ | apply Drawn0.step)⟩
  ·rw [if_neg c6] at H; have c6b0 : decide (0 < t228) = false := decide_eq_false c6; clear c6; obtain rfl := Option.some.inj H
   go_enter Try.func74, Try.ntmps74
   go_wp2_with (first | ((with_reducible refine gate_callee (f := 75) rfl ?_); refine goesL_ (some 8) rfl rfl Try.func75 (by kernel_rfl) rfl #[.slice A0 l0.length c0] rfl Sqz.auM ?_; (with_reducible refine (impl_product.calls k _ _ l0 t227 _ ?side1 ?side2 A3.out).mono ?_); (case side1 => exact Sqz.mvC (HR0.out)); (case side2 => exact HC0.out); rintro e w' ⟨rfl, ⟨nd, rfl⟩⟩; refine ⟨_, rfl, ?_⟩) | ((with_reducible refine gate_callee (f := 83) rfl ?_); refine goesL_ (some 12) rfl rfl Try.func83 (by kernel_rfl) rfl #[.slice A0 l0.length c0] rfl Sqz.auM ?_; (with_reducible refine (impl_lessTerms.calls k _ _ l0 t228 _ ?side1 ?side2 A5.out).mono ?_); (case side1 => exact Sqz.mvC (HR0.out)); (case side2 => exact HC0.out); rintro e w' ⟨rfl, ⟨nd, rfl⟩⟩; refine ⟨_, rfl, ?_⟩))
   go_ret
   exact ⟨Sqz.auS, by repeat (first | exact Drawn0.refl _ | apply Drawn0.step)⟩
 ·rw [if_neg c4] at H; have c4b0 := beq_eq_false_iff_ne.mpr c4; have c4b1 := bne_iff_ne.mpr c4
  by_cases c7 : (l0.length : Int) = 2
  ·rw [if_pos c7] at H; have c7b0 := beq_iff_eq.mpr c7; have c7b1 := bne_eq_false_iff_eq.mpr c7; clear c7; obtain ⟨t229, A8, H⟩ := Sqz.be H; obtain rfl := Option.some.inj H
   go_enter Try.func74, Try.ntmps74
   go_wp2_with (first | ((with_reducible refine gate_callee (f := 75) rfl ?_); refine goesL_ (some 8) rfl rfl Try.func75 (by kernel_rfl) rfl #[.slice A0 l0.length c0] rfl Sqz.auM ?_; (with_reducible refine (impl_product.calls k _ _ l0 t227 _ ?side1 ?side2 A3.out).mono ?_); (case side1 => exact Sqz.mvC (HR0.out)); (case side2 => exact HC0.out); rintro e w' ⟨rfl, ⟨nd, rfl⟩⟩; refine ⟨_, rfl, ?_⟩) | ((with_reducible refine gate_callee (f := 84) rfl ?_); refine goesL_ (some 28) rfl rfl Try.func84 (by kernel_rfl) rfl #[.int .i64 (wrap64 (-t227)), .int .i64 a1] rfl Sqz.auM ?_; (with_reducible refine (impl_localSquare.calls k (wrap64 (-t227)) a1 t229 _ A8.out).mono ?_); rintro e w' ⟨rfl, ⟨nd, rfl⟩⟩; refine ⟨_, rfl, ?_⟩))
   go_ret
   exact ⟨Sqz.auS, by repeat (first | exact Drawn0.refl _ | apply Drawn0.step)⟩
  ·rw [if_neg c7] at H; have c7b0 := beq_eq_false_iff_ne.mpr c7; have c7b1 := bne_iff_ne.mpr c7
   by_cases c9 : (l0.length : Int) = 3
   ·rw [if_pos c9] at H; have c9b0 := beq_iff_eq.mpr c9; have c9b1 := bne_eq_false_iff_eq.mpr c9; clear c9; obtain ⟨t230, A10, H⟩ := Sqz.be H; obtain ⟨t231, A11, H⟩ := Sqz.be H; obtain rfl := Option.some.inj H
    go_enter Try.func74, Try.ntmps74
    go_wp2_with (first | ((with_reducible refine gate_callee (f := 75) rfl ?_); refine goesL_ (some 8) rfl rfl Try.func75 (by kernel_rfl) rfl #[.slice A0 l0.length c0] rfl Sqz.auM ?_; (with_reducible refine (impl_product.calls k _ _ l0 t227 _ ?side1 ?side2 A3.out).mono ?_); (case side1 => exact Sqz.mvC (HR0.out)); (case side2 => exact HC0.out); rintro e w' ⟨rfl, ⟨nd, rfl⟩⟩; refine ⟨_, rfl, ?_⟩) | ((with_reducible refine gate_callee (f := 85) rfl ?_); refine goesL_ (some 33) rfl rfl Try.func85 (by kernel_rfl) rfl #[.slice A0 l0.length c0, .int .i64 a1] rfl Sqz.auM ?_; (with_reducible refine (impl_invariant.calls k _ _ l0 a1 t230 _ ?side1 ?side2 A10.out).mono ?_); (case side1 => exact Sqz.mvC (HR0.out)); (case side2 => exact HC0.out); rintro e w' ⟨rfl, ⟨nd, rfl⟩⟩; refine ⟨_, rfl, ?_⟩) | ((with_reducible refine gate_callee (f := 91) rfl ?_); refine goesL_ (some 37) rfl rfl Try.func91 (by kernel_rfl) rfl #[.int .i64 (-1), .int .i64 (wrap64 (-t227)), .int .i64 a1] rfl Sqz.auM ?_; (with_reducible refine (impl_symbol.calls k (-1) (wrap64 (-t227)) a1 t231 _ A11.out).mono ?_); rintro e w' ⟨rfl, ⟨nd, rfl⟩⟩; refine ⟨_, rfl, ?_⟩))
    go_ret
    exact ⟨Sqz.auS, by repeat (first | exact Drawn0.refl _ | apply Drawn0.step)⟩
   ·rw [if_neg c9] at H; have c9b0 := beq_eq_false_iff_ne.mpr c9; have c9b1 := bne_iff_ne.mpr c9
    by_cases c12 : (l0.length : Int) = 4
    ·rw [if_pos c12] at H; have c12b0 := beq_iff_eq.mpr c12; have c12b1 := bne_eq_false_iff_eq.mpr c12; clear c12; obtain ⟨t232, A13, H⟩ := Sqz.be H
     by_cases c14 : t232 = true
     ·subst c14; have H1 : ((impl_invariant.f k l0 a1).bind fun t233 => ((impl_symbol.f k (-1) (-1) a1).bind fun t234 => (some (t233 == t234)))) = some r := by rw [if_pos rfl] at H; exact H
      clear H; have H := H1; clear H1; obtain ⟨t233, A15, H⟩ := Sqz.be H; obtain ⟨t234, A16, H⟩ := Sqz.be H; obtain rfl := Option.some.inj H
      go_enter Try.func74, Try.ntmps74
      go_wp2_with (first | ((with_reducible refine gate_callee (f := 75) rfl ?_); refine goesL_ (some 8) rfl rfl Try.func75 (by kernel_rfl) rfl #[.slice A0 l0.length c0] rfl Sqz.auM ?_; (with_reducible refine (impl_product.calls k _ _ l0 t227 _ ?side1 ?side2 A3.out).mono ?_); (case side1 => exact Sqz.mvC (HR0.out)); (case side2 => exact HC0.out); rintro e w' ⟨rfl, ⟨nd, rfl⟩⟩; refine ⟨_, rfl, ?_⟩) | ((with_reducible refine gate_callee (f := 84) rfl ?_); refine goesL_ (some 43) rfl rfl Try.func84 (by kernel_rfl) rfl #[.int .i64 t227, .int .i64 a1] rfl Sqz.auM ?_; (with_reducible refine (impl_localSquare.calls k t227 a1 true _ A13.out).mono ?_); rintro e w' ⟨rfl, ⟨nd, rfl⟩⟩; refine ⟨_, rfl, ?_⟩) | (go_at_call 85; (with_reducible refine (impl_invariant.calls k _ _ l0 a1 t233 _ ?side1 ?side2 A15.out).mono ?_); (case side1 => exact Sqz.mvC (HR0.out)); (case side2 => exact HC0.out); rintro e w' ⟨rfl, ⟨nd, rfl⟩⟩) | (go_at_call 91; (with_reducible refine (impl_symbol.calls k (-1) (-1) a1 t234 _ A16.out).mono ?_); rintro e w' ⟨rfl, ⟨nd, rfl⟩⟩))
      go_ret
      exact ⟨Sqz.auS, by repeat (first | exact Drawn0.refl _ | apply Drawn0.step)⟩
     ·replace c14 := Bool.eq_false_iff.mpr c14; subst c14; have H1 : (some true) = some r := by rw [if_neg (show ¬ (false = true) by decide)] at H; exact H
      clear H; have H := H1; clear H1; obtain rfl := Option.some.inj H
      go_enter Try.func74, Try.ntmps74
      go_wp2_with (first | ((with_reducible refine gate_callee (f := 75) rfl ?_); refine goesL_ (some 8) rfl rfl Try.func75 (by kernel_rfl) rfl #[.slice A0 l0.length c0] rfl Sqz.auM ?_; (with_reducible refine (impl_product.calls k _ _ l0 t227 _ ?side1 ?side2 A3.out).mono ?_); (case side1 => exact Sqz.mvC (HR0.out)); (case side2 => exact HC0.out); rintro e w' ⟨rfl, ⟨nd, rfl⟩⟩; refine ⟨_, rfl, ?_⟩) | ((with_reducible refine gate_callee (f := 84) rfl ?_); refine goesL_ (some 43) rfl rfl Try.func84 (by kernel_rfl) rfl #[.int .i64 t227, .int .i64 a1] rfl Sqz.auM ?_; (with_reducible refine (impl_localSquare.calls k t227 a1 false _ A13.out).mono ?_); rintro e w' ⟨rfl, ⟨nd, rfl⟩⟩; refine ⟨_, rfl, ?_⟩))
      go_ret
      exact ⟨Sqz.auS, by repeat (first | exact Drawn0.refl _ | apply Drawn0.step)⟩
    ·rw [if_neg c12] at H; have c12b0 := beq_eq_false_iff_ne.mpr c12; have c12b1 := bne_iff_ne.mpr c12; obtain rfl := Option.some.inj H
     go_enter Try.func74, Try.ntmps74
     go_wp2_with (first | ((with_reducible refine gate_callee (f := 75) rfl ?_); refine goesL_ (some 8) rfl rfl Try.func75 (by kernel_rfl) rfl #[.slice A0 l0.length c0] rfl Sqz.auM ?_; (with_reducible refine (impl_product.calls k _ _ l0 t227 _ ?side1 ?side2 A3.out).mono ?_); (case side1 => exact Sqz.mvC (HR0.out)); (case side2 => exact HC0.out); rintro e w' ⟨rfl, ⟨nd, rfl⟩⟩; refine ⟨_, rfl, ?_⟩))
     go_ret
     exact ⟨Sqz.auS, by repeat (first | exact Drawn0.refl _ | apply Drawn0.step)⟩

/-! ### impl_FormBad: function 45 -/
def impl_FormBad.l0 : Nat → List Int → List Int → List Int → Int → Int → Option (List Int)
 | 0, _, _, _, _, _ => none
 | k + 1, x0, x3, x8, x9, x10 => if x10 < x9 then (if 0 ≤ x10 then (if x10 < (x8.length : Int) then ((impl_vanishes.f k x0 (rd x8 x10)).bind fun t242 => (if t242 = true then (impl_FormBad.l0 k x0 x3 x8 x9 (wrap64 (x10 + 1))) else (if x3.length < 17592186044416 then (impl_FormBad.l0 k x0 (x3 ++ [rd x8 x10]) x8 x9 (wrap64 (x10 + 1))) else (none)))) else (none)) else (none)) else (some x3)
def impl_FormBad.f (k : Nat) (l0 : List Int) : Option (List Int) := (impl_FormPlaces.f k l0).bind fun t238 => (impl_FormBad.l0 k l0 (([] : List Int)) t238 (t238.length : Int) 0)
set_option maxHeartbeats 8000000 in
set_option maxRecDepth 100000 in
theorem impl_FormBad.calls (k : Nat) (A0 : Option Addr) (c0 : Nat) (l0 : List Int) (r : List Int) (w : World) (hr0 : Kd.C (Kd.int .i64) w A0 l0.length l0) (hc0 : l0.length ≤ c0) (h : impl_FormBad.f k l0 = some r) :
  Calls Try.prog 45 #[.slice A0 l0.length c0] w fun e w' => ∃ v0_ : Value, e = .returned (v0_) ∧ Kd.R (Kd.int .i64) 3 w' w.heap.size (fun _ => True) v0_ r ∧ Below w.heap.size w w' := by
 have HR0 := Aside0.mk hr0; have HC0 := Aside0.mk hc0; clear hr0 hc0; have HB := Aside0.mk (Below.refl w.heap.size w); have H : ((impl_FormPlaces.f k l0).bind fun t238 => (impl_FormBad.l0 k l0 (([] : List Int)) t238 (t238.length : Int) 0)) = some r := h; clear h; obtain ⟨y235, hyy⟩ : ∃ y_ : List Int, y_ = (([] : List Int)) := ⟨_, rfl⟩
 replace H : ((impl_FormPlaces.f k l0).bind fun t238 => (impl_FormBad.l0 k l0 y235 t238 (t238.length : Int) 0)) = some r := Sqz.auY
 have Ny235 := Aside0.mk hyy; clear hyy; obtain ⟨t238, A2, H⟩ := Sqz.be H; have H' := Aside0.mk H; clear H
 go_enter Try.func45, Try.ntmps45
 go_wp2_with (first | ((with_reducible refine gate_dst (N := 6) rfl ?_); refine Kd.R_lit (Kd.int .i64) _ 3 ?hg (N := 6) ?hd (xs := ([] : List Int)) (inner := []) (ok := fun _ => True) (okp := fun _ => True) ?hr ?hp (fun _ hk => hk) trivial (Below.refl _ _) (Nat.le_refl _) (by simp) ?_; (case hd => rfl); (case hg => rfl); (case hr => first | (go_simp; done) | (go_simp; rfl)); (case hp => exact (Reps.none _ _)); intro v236 w3 ho4 hb hg_ hnew_; clear hg_ hnew_; (first | rw [← Ny235.out] at ho4 | (simp only [Int.reduceToNat] at ho4; rw [← Ny235.out] at ho4)); have HO237 := Aside0.mk (Kd.R_lower ho4 (below_size (Sqz.auHB))); replace HB := Aside0.mk (below_step (Sqz.auHB) hb); clear hb ho4) | ((with_reducible refine gate_callee (f := 73) rfl ?_); refine goesL_ (some 8) rfl rfl Try.func73 (by kernel_rfl) rfl #[.slice A0 l0.length c0] rfl Sqz.auM ?_; (with_reducible refine (impl_FormPlaces.calls k _ _ l0 t238 _ ?side1 ?side2 A2.out).mono ?_); (case side1 => exact Sqz.mvC ((Kd.C_below HR0.out HB.out))); (case side2 => exact HC0.out); rintro e w5 ⟨v239, rfl, ho0, hb⟩; refine ⟨_, rfl, ?_⟩; have HO240 := Aside0.mk (Kd.R_lower (Kd.R_new' ho0 (Kd.R_lt ((Sqz.mvR HO237.out)))) (below_size (Sqz.auHB))); replace HO237 := Aside0.mk (Kd.R_elder' ((Sqz.mvR HO237.out)) (Kd.R_base ho0) hb); replace HB := Aside0.mk (below_step (Sqz.auHB) hb); (try clear hb); (try clear ho0); obtain ⟨Ao6, co6, eo6⟩ := Kd.R_slice HO240.out; subst eo6))
 go_loopg [3, 10] k (fun kq v3 v10 w' => ∃ (x3_1 : List Int) (x10_1 : Int), v10 = .int .i64 x10_1 ∧ Aside0 (impl_FormBad.l0 kq l0 x3_1 t238 (t238.length : Int) x10_1 = some r) ∧ Aside0 (kq ≤ k) ∧ Aside0 (Kd.R (Kd.int .i64) 3 w' w.heap.size (fun k_ => some k_ ≠ ((.slice Ao6 t238.length co6) : Value).ownBlock) v3 x3_1) ∧ Aside0 (Kd.R (Kd.int .i64) 3 w' w.heap.size (fun k_ => some k_ ≠ (v3 : Value).ownBlock) (.slice Ao6 t238.length co6) t238) ∧ Aside0 (Below w.heap.size w w'))
 case atStart => exact ⟨(y235), (0), Sqz.auS, H', ⟨Nat.le_refl _⟩, ⟨(Sqz.mvR (Kd.R_mono HO237.out (fun _ hk => hk.2)))⟩, ⟨(Sqz.mvR (Kd.R_mono HO240.out (fun _ hk => hk.2)))⟩, ⟨Sqz.auHB⟩⟩
 case round =>
  clear H'
  try clear p2
  try clear c4
  obtain ⟨x3_1, x10_1, rfl, HA, HK1, HO_3, HO_8, HB⟩ := hrel; cases gk with
  | zero => exact absurd HA.out (by simp [impl_FormBad.l0])
  | succ k1 =>
   have H := HA.out; clear HA; simp only [impl_FormBad.l0] at H
   by_cases c7 : x10_1 < (t238.length : Int)
   ·rw [if_pos c7] at H; have c7b0 := decide_eq_true c7; clear c7
    by_cases c8 : 0 ≤ x10_1
    ·rw [if_pos c8] at H; have c8b0 := decide_eq_true c8; clear c8
     by_cases c9 : x10_1 < (t238.length : Int)
     ·rw [if_pos c9] at H; have c9b0 := decide_eq_true c9; clear c9; obtain ⟨t242, A10, H⟩ := Sqz.be H
      by_cases c11 : t242 = true
      ·subst c11; have H1 : (impl_FormBad.l0 k1 l0 x3_1 t238 (t238.length : Int) (wrap64 (x10_1 + 1))) = some r := by rw [if_pos rfl] at H; exact H
       clear H; have H := H1; clear H1; have H' := Aside0.mk H; clear H; have p241 : 0 ≤ (x10_1 : Int) := Sqz.od; have q241 : x10_1 < (t238.length : Int) := Sqz.od; obtain ⟨ad241, e241, hx241_0⟩ := Kd.at_int (Kd.R_reads' HO_8.out).2.2 x10_1 p241 q241; cases e241; replace p241 := eq_true p241; replace q241 := eq_true q241
       go_wp2_with (first | ((with_reducible refine gate_callee (f := 74) rfl ?_); refine goesL_ (some 16) rfl rfl Try.func74 (by kernel_rfl) rfl #[.slice A0 l0.length c0, .int .i64 (rd t238 x10_1)] rfl Sqz.auM ?_; (with_reducible refine (impl_vanishes.calls k1 _ _ l0 (rd t238 x10_1) true _ ?side1 ?side2 A10.out).mono ?_); (case side1 => exact Sqz.mvC ((Kd.C_below HR0.out HB.out))); (case side2 => exact HC0.out); rintro e w' ⟨rfl, ⟨nd, rfl⟩⟩; refine ⟨_, rfl, ?_⟩))
       go_roundg k1
       case measure => have := HK1.out; omega
       case rel => exact ⟨(x3_1), (wrap64 (x10_1 + 1)), Sqz.auS, H', ⟨by have := HK1.out; omega⟩, ⟨(Sqz.mvR HO_3.out)⟩, ⟨(Sqz.mvR HO_8.out)⟩, ⟨Sqz.auHB⟩⟩
      ·replace c11 := Bool.eq_false_iff.mpr c11; subst c11; have H1 : (if x3_1.length < 17592186044416 then (impl_FormBad.l0 k1 l0 (x3_1 ++ [rd t238 x10_1]) t238 (t238.length : Int) (wrap64 (x10_1 + 1))) else (none)) = some r := by rw [if_neg (show ¬ (false = true) by decide)] at H; exact H
       clear H; have H := H1; clear H1
       by_cases c12 : x3_1.length < 17592186044416
       ·rw [if_pos c12] at H; have LMc12 := Aside0.mk c12; clear c12; obtain ⟨y243, hyy⟩ : ∃ y_ : List Int, y_ = (x3_1 ++ [rd t238 x10_1]) := ⟨_, rfl⟩
        replace H : (impl_FormBad.l0 k1 l0 y243 t238 (t238.length : Int) (wrap64 (x10_1 + 1))) = some r := Sqz.auY
        have Ny243 := Aside0.mk hyy; clear hyy; have H' := Aside0.mk H; clear H; have p241 : 0 ≤ (x10_1 : Int) := Sqz.od; have q241 : x10_1 < (t238.length : Int) := Sqz.od; obtain ⟨ad241, e241, hx241_0⟩ := Kd.at_int (Kd.R_reads' HO_8.out).2.2 x10_1 p241 q241; cases e241; replace p241 := eq_true p241; replace q241 := eq_true q241
        go_wp2_with (first | ((with_reducible refine gate_callee (f := 74) rfl ?_); refine goesL_ (some 16) rfl rfl Try.func74 (by kernel_rfl) rfl #[.slice A0 l0.length c0, .int .i64 (rd t238 x10_1)] rfl Sqz.auM ?_; (with_reducible refine (impl_vanishes.calls k1 _ _ l0 (rd t238 x10_1) false _ ?side1 ?side2 A10.out).mono ?_); (case side1 => exact Sqz.mvC ((Kd.C_below HR0.out HB.out))); (case side2 => exact HC0.out); rintro e w' ⟨rfl, ⟨nd, rfl⟩⟩; refine ⟨_, rfl, ?_⟩) | ((with_reducible refine gate_builtin (b := .append) (xs := #[.tmp 18, .tmp 20]) rfl ?_); at_builtin; refine Kd.R_append (Kd.int .i64) (w0 := w) w.heap.size rfl (.tmp 18) (.tmp 20) 22 3 (.int .i64 0) 8 rfl Try.underlying22 info3 rfl (by decide) (by omega) u3 x3_1 (rd t238 x10_1) [.int .i64 (rd t238 x10_1)] (fun k_ => some k_ ≠ (.slice (some ad241) t238.length co6 : Value).ownBlock) (fun _ => False) rfl rfl ?aP (fun _ hk => hk.elim) ?aF ?aO ?aB ?aS ?aL ?_; (case aP => exact rfl); (case aB => exact (Sqz.auHB)); (case aF => exact (fun k_ hk => Kd.fresh' (Kd.R_lt ((Sqz.mvR HO_8.out))) k_ hk)); (case aO => exact ((Sqz.mvR HO_3.out))); (case aS => exact (below_size (Sqz.auHB))); (case aL => have := LMc12.out; omega); intro v244 w13 ho hb hg hat; rw [← Ny243.out] at ho; replace HO_8 := Aside0.mk (Kd.R_after (ok := (fun _ => True)) ((Sqz.mvR (Kd.R_mono HO_8.out (fun _ hk => ⟨trivial, hk⟩)))) hg hat); replace HB := Aside0.mk (hb); have HO245 := Aside0.mk (ho); clear HO_3; clear ho hb hg hat))
        go_roundg k1
        case measure => have := HK1.out; omega
        case rel => exact ⟨(y243), (wrap64 (x10_1 + 1)), Sqz.auS, H', ⟨by have := HK1.out; omega⟩, ⟨(Sqz.mvR HO245.out)⟩, ⟨(Sqz.mvR (Kd.R_mono HO_8.out (fun _ hk => hk.2)))⟩, ⟨Sqz.auHB⟩⟩
       ·rw [if_neg c12] at H; exact absurd H (by simp)
     ·rw [if_neg c9] at H; exact absurd H (by simp)
    ·rw [if_neg c8] at H; exact absurd H (by simp)
   ·rw [if_neg c7] at H; have c7b0 := decide_eq_false c7; clear c7; obtain rfl := Option.some.inj H; go_wp2; go_ret
    exact ⟨_, Sqz.auR, (Sqz.mvR (Kd.R_mono HO_3.out (fun _ hk => trivial))), Sqz.auHB⟩

/-! ### impl_coreOf: function 51 -/
mutual
def impl_coreOf.l0 : Nat → Int → Int → List Int → Int → Int → Option (Int × Int)
 | 0, _, _, _, _, _ => none
 | k + 1, x0, x4, x8, x9, x10 => if x10 < x9 then (if 0 ≤ x10 then (if x10 < (x8.length : Int) then (impl_coreOf.l1 k x0 x4 (rd x8 x10) x8 x9 x10) else (none)) else (none)) else (some (x0, x4))
def impl_coreOf.l1 : Nat → Int → Int → Int → List Int → Int → Int → Option (Int × Int)
 | 0, _, _, _, _, _, _ => none
 | k + 1, x0, x4, x6, x8, x9, x10 => if (wrap64 (x6 * x6)) = 0 then (none) else (if (Int.tmod x0 (wrap64 (x6 * x6))) = 0 then (impl_coreOf.l1 k (wrap64 (Int.tdiv x0 (wrap64 (x6 * x6)))) (wrap64 (x4 * x6)) x6 x8 x9 x10) else (impl_coreOf.l0 k x0 x4 x8 x9 (wrap64 (x10 + 1))))
end
def impl_coreOf.f (k : Nat) (a0 : Int) : Option (Int × Int) := (impl_primesOf.f k a0).bind fun t246 => (impl_coreOf.l0 k a0 1 t246 (t246.length : Int) 0)
set_option maxHeartbeats 8000000 in
set_option maxRecDepth 100000 in
theorem impl_coreOf.calls (k : Nat) (a0 : Int) (r1 : Int) (r2 : Int) (w : World) (h : impl_coreOf.f k a0 = some (r1, r2)) :
  Calls Try.prog 51 #[.int .i64 a0] w fun e w' => e = .returned (.tuple #[.int .i64 r1, .int .i64 r2]) ∧ Below w.heap.size w w' := by
 have HB := Aside0.mk (Below.refl w.heap.size w); have H : ((impl_primesOf.f k a0).bind fun t246 => (impl_coreOf.l0 k a0 1 t246 (t246.length : Int) 0)) = some (r1, r2) := h; clear h; obtain ⟨t246, A2, H⟩ := Sqz.be H; have H' := Aside0.mk H; clear H
 go_enter Try.func51, Try.ntmps51
 go_wp2_with (first | ((with_reducible refine gate_callee (f := 41) rfl ?_); refine goesL_ (some 8) rfl rfl Try.func41 (by kernel_rfl) rfl #[.int .i64 a0] rfl Sqz.auM ?_; (with_reducible refine (impl_primesOf.calls k a0 t246 _ A2.out).mono ?_); rintro e w3 ⟨v247, rfl, ho0, hb⟩; refine ⟨_, rfl, ?_⟩; have HO248 := Aside0.mk (Kd.R_lower ho0 (below_size (Sqz.auHB))); replace HB := Aside0.mk (below_step (Sqz.auHB) hb); (try clear hb); (try clear ho0); obtain ⟨Ao4, co4, eo4⟩ := Kd.R_slice HO248.out; subst eo4))
 go_loopg [0, 4, 10] k (fun kq v0 v4 v10 w' => ∃ (x0_1 : Int) (x4_1 : Int) (x10_1 : Int), v0 = .int .i64 x0_1 ∧ v4 = .int .i64 x4_1 ∧ v10 = .int .i64 x10_1 ∧ Aside0 (impl_coreOf.l0 kq x0_1 x4_1 t246 (t246.length : Int) x10_1 = some (r1, r2)) ∧ Aside0 (kq ≤ k) ∧ Aside0 (Kd.R (Kd.int .i64) 3 w' w.heap.size (fun _ => True) (.slice Ao4 t246.length co4) t246) ∧ Aside0 (Below w.heap.size w w'))
 case atStart => exact ⟨(a0), (1), (0), Sqz.auS, Sqz.auS, Sqz.auS, H', ⟨Nat.le_refl _⟩, ⟨(Sqz.mvR HO248.out)⟩, ⟨Sqz.auHB⟩⟩
 case round =>
  clear H'
  try clear p2
  try clear c4
  obtain ⟨x0_1, x4_1, x10_1, rfl, rfl, rfl, HA, HK1, HO_8, HB⟩ := hrel; cases gk with
  | zero => exact absurd HA.out (by simp [impl_coreOf.l0])
  | succ k1 =>
   have H := HA.out; clear HA; simp only [impl_coreOf.l0] at H
   by_cases c5 : x10_1 < (t246.length : Int)
   ·rw [if_pos c5] at H; have c5b0 := decide_eq_true c5; clear c5
    by_cases c6 : 0 ≤ x10_1
    ·rw [if_pos c6] at H; have c6b0 := decide_eq_true c6; clear c6
     by_cases c7 : x10_1 < (t246.length : Int)
     ·rw [if_pos c7] at H; have c7b0 := decide_eq_true c7; clear c7; have H' := Aside0.mk H; clear H; have p249 : 0 ≤ (x10_1 : Int) := Sqz.od; have q249 : x10_1 < (t246.length : Int) := Sqz.od; obtain ⟨ad249, e249, hx249_0⟩ := Kd.at_int (Kd.R_reads' HO_8.out).2.2 x10_1 p249 q249; cases e249; replace p249 := eq_true p249; replace q249 := eq_true q249; go_wp2
      go_loopg [0, 4] k1 (fun kq v0 v4 w' => ∃ (x0_2 : Int) (x4_2 : Int), v0 = .int .i64 x0_2 ∧ v4 = .int .i64 x4_2 ∧ Aside0 (impl_coreOf.l1 kq x0_2 x4_2 (rd t246 x10_1) t246 (t246.length : Int) x10_1 = some (r1, r2)) ∧ Aside0 (kq ≤ k1) ∧ Aside0 (Kd.R (Kd.int .i64) 3 w' w.heap.size (fun _ => True) (.slice (some ad249) t246.length co4) t246) ∧ Aside0 (Below w.heap.size w w'))
      case atStart => exact ⟨(x0_1), (x4_1), Sqz.auS, Sqz.auS, H', ⟨Nat.le_refl _⟩, ⟨(Sqz.mvR HO_8.out)⟩, ⟨Sqz.auHB⟩⟩
      case round =>
       clear H'
       try clear p2
       try clear q2
       try clear hx2
       try clear c4
       try clear c5
       try clear c5b0
       try clear c6
       try clear c6b0
       try clear c7
       try clear c7b0
       try clear hx249_0
       try clear p2
       try clear p249
       try clear q249
       obtain ⟨x0_2, x4_2, rfl, rfl, HA, HK2, HO_8, HB⟩ := hrel; cases gk with
       | zero => exact absurd HA.out (by simp [impl_coreOf.l1])
       | succ k2 =>
        have H := HA.out; clear HA; simp only [impl_coreOf.l1] at H
        by_cases c8 : (wrap64 ((rd t246 x10_1) * (rd t246 x10_1))) = 0
        ·rw [if_pos c8] at H; exact absurd H (by simp)
        ·rw [if_neg c8] at H; have c8b0 := beq_eq_false_iff_ne.mpr c8; have c8b1 := bne_iff_ne.mpr c8
         by_cases c9 : (Int.tmod x0_2 (wrap64 ((rd t246 x10_1) * (rd t246 x10_1)))) = 0
         ·rw [if_pos c9] at H; have c9b0 := beq_iff_eq.mpr c9; have c9b1 := bne_eq_false_iff_eq.mpr c9; clear c9; have H' := Aside0.mk H; clear H; go_wp2
          go_roundg k2
          case measure => have := HK1.out; have := HK2.out; omega
          case rel => exact ⟨(wrap64 (Int.tdiv x0_2 (wrap64 ((rd t246 x10_1) * (rd t246 x10_1))))), (wrap64 (x4_2 * (rd t246 x10_1))), Sqz.auS, Sqz.auS, H', ⟨by have := HK1.out; have := HK2.out; omega⟩, ⟨(Sqz.mvR HO_8.out)⟩, ⟨Sqz.auHB⟩⟩
         ·rw [if_neg c9] at H; have c9b0 := beq_eq_false_iff_ne.mpr c9; have c9b1 := bne_iff_ne.mpr c9; have H' := Aside0.mk H; clear H; go_wp2
          go_roundg k2
          case measure => have := HK1.out; have := HK2.out; omega
          case rel => exact ⟨(x0_2), (x4_2), (wrap64 (x10_1 + 1)), Sqz.auS, Sqz.auS, Sqz.auS, H', ⟨by have := HK1.out; have := HK2.out; omega⟩, ⟨(Sqz.mvR HO_8.out)⟩, ⟨Sqz.auHB⟩⟩
     ·rw [if_neg c7] at H; exact absurd H (by simp)
    ·rw [if_neg c6] at H; exact absurd H (by simp)
   ·rw [if_neg c5] at H; have c5b0 := decide_eq_false c5; clear c5; simp only [Option.some.injEq, Prod.mk.injEq] at H; obtain ⟨rfl, rfl⟩ := H; go_wp2; go_ret2
    exact ⟨Sqz.auR, Sqz.auHB⟩

/-! ### impl_FormDisc: function 47 -/
def impl_FormDisc.f (k : Nat) (l0 : List Int) : Option (Int) := (impl_FormValid.f k l0).bind fun t250 => (if t250 = true then ((impl_product.f k l0).bind fun t251 => ((impl_coreOf.f k t251).bind fun bt252 => (some bt252.1))) else (some 0))
set_option maxHeartbeats 8000000 in
set_option maxRecDepth 100000 in
theorem impl_FormDisc.calls (k : Nat) (A0 : Option Addr) (c0 : Nat) (l0 : List Int) (r : Int) (w : World) (hr0 : Kd.C (Kd.int .i64) w A0 l0.length l0) (hc0 : l0.length ≤ c0) (h : impl_FormDisc.f k l0 = some r) :
  Calls Try.prog 47 #[.slice A0 l0.length c0] w fun e w' => e = .returned (.int .i64 r) ∧ Below w.heap.size w w' := by
 have HR0 := Aside0.mk hr0; have HC0 := Aside0.mk hc0; clear hr0 hc0; have HB := Aside0.mk (Below.refl w.heap.size w); have H : ((impl_FormValid.f k l0).bind fun t250 => (if t250 = true then ((impl_product.f k l0).bind fun t251 => ((impl_coreOf.f k t251).bind fun bt252 => (some bt252.1))) else (some 0))) = some r := h; clear h; obtain ⟨t250, A2, H⟩ := Sqz.be H
 by_cases c3 : t250 = true
 ·subst c3; have H1 : ((impl_product.f k l0).bind fun t251 => ((impl_coreOf.f k t251).bind fun bt252 => (some bt252.1))) = some r := by rw [if_pos rfl] at H; exact H
  clear H; have H := H1; clear H1; obtain ⟨t251, A4, H⟩ := Sqz.be H; replace H := Option.bind_eq_some_iff.mp H; obtain ⟨⟨t252, t253⟩, A50, H⟩ := H; replace H : (some t252) = some r := H; have A5 := Aside0.mk A50; clear A50; obtain rfl := Option.some.inj H
  go_enter Try.func47, Try.ntmps47
  go_wp2_with (first | ((with_reducible refine gate_callee (f := 44) rfl ?_); refine goesL_ (some 6) rfl rfl Try.func44 (by kernel_rfl) rfl #[.slice A0 l0.length c0] rfl Sqz.auM ?_; (with_reducible refine (impl_FormValid.calls k _ _ l0 true _ ?side1 ?side2 A2.out).mono ?_); (case side1 => exact Sqz.mvC (HR0.out)); (case side2 => exact HC0.out); rintro e w6 ⟨rfl, hb⟩; refine ⟨_, rfl, ?_⟩; replace HB := Aside0.mk (below_step (Sqz.auHB) hb); (try clear hb)) | ((with_reducible refine gate_callee (f := 75) rfl ?_); refine goesL_ (some 10) rfl rfl Try.func75 (by kernel_rfl) rfl #[.slice A0 l0.length c0] rfl Sqz.auM ?_; (with_reducible refine (impl_product.calls k _ _ l0 t251 _ ?side1 ?side2 A4.out).mono ?_); (case side1 => exact Sqz.mvC ((Kd.C_below HR0.out HB.out))); (case side2 => exact HC0.out); rintro e w' ⟨rfl, ⟨nd, rfl⟩⟩; refine ⟨_, rfl, ?_⟩) | ((with_reducible refine gate_callee (f := 51) rfl ?_); refine goesL_ (some 11) rfl rfl Try.func51 (by kernel_rfl) rfl #[.int .i64 t251] rfl Sqz.auM ?_; (with_reducible refine (impl_coreOf.calls k t251 t252 t253 _ A5.out).mono ?_); rintro e w7 ⟨rfl, hb⟩; refine ⟨_, rfl, ?_⟩; replace HB := Aside0.mk (below_step (Sqz.auHB) hb); (try clear hb)))
  go_ret
  exact ⟨Sqz.auR, Sqz.auHB⟩
 ·replace c3 := Bool.eq_false_iff.mpr c3; subst c3; have H1 : (some 0) = some r := by rw [if_neg (show ¬ (false = true) by decide)] at H; exact H
  clear H; have H := H1; clear H1; obtain rfl := Option.some.inj H
  go_enter Try.func47, Try.ntmps47
  go_wp2_with (first | ((with_reducible refine gate_callee (f := 44) rfl ?_); refine goesL_ (some 6) rfl rfl Try.func44 (by kernel_rfl) rfl #[.slice A0 l0.length c0] rfl Sqz.auM ?_; (with_reducible refine (impl_FormValid.calls k _ _ l0 false _ ?side1 ?side2 A2.out).mono ?_); (case side1 => exact Sqz.mvC (HR0.out)); (case side2 => exact HC0.out); rintro e w8 ⟨rfl, hb⟩; refine ⟨_, rfl, ?_⟩; replace HB := Aside0.mk (below_step (Sqz.auHB) hb); (try clear hb)))
  go_ret
  exact ⟨Sqz.auR, Sqz.auHB⟩

end Go.Proofs.Ytnnpafjgghpecaa.PFnRest
