/- A function's Lean twin and its walk, written by a program of this session. -/
import Derived.Test.YtnnpafjgghpecaaTPFnRestx0
import Derived.Test.YtnnpafjgghpecaaTPFnRestx1
import Derived.Test.YtnnpafjgghpecaaTPFnRestx5
namespace Go.Proofs.Ytnnpafjgghpecaa.PFnRest
open Go.RowKit Go.Proofs.YtnnpafjgghpecaaW.PrintWords Go.Proofs.YtnnpafjgghpecaaW.PrintLast Go.Proofs.YtnnpafjgghpecaaW.PrintMore
attribute [local go_sem] max2_int min2_int max_two min_two max_three min_three max_four min_four   -- for this text's walks alone
set_option linter.unusedVariables false
set_option linter.unusedSimpArgs false

/-! ### spec_l3Symbol: function 107 -/
def spec_l3Symbol.f (k : Nat) (a0 : Int) (a1 : Int) (a2 : Int) : Option (Int) := if a2 = 0 then (if a0 < 0 then (if a1 < 0 then (some (-1)) else (some 1)) else (some 1)) else ((spec_l1Valuation.f k a0 a2).bind fun bt298 => ((spec_l1Valuation.f k a1 a2).bind fun bt300 => (if a2 = 2 then ((spec_l1Mod.f bt298.2 16).bind fun t302 => ((spec_l1Mod.f bt300.2 16).bind fun t303 => ((spec_l3Half.f (wrap64 ((wrap64 ((wrap64 ((wrap64 (Int.tdiv (wrap64 (t302 - 1)) 2)) * (wrap64 (Int.tdiv (wrap64 (t303 - 1)) 2)))) + (wrap64 (bt298.1 * (wrap64 (Int.tdiv (wrap64 ((wrap64 (t303 * t303)) - 1)) 8)))))) + (wrap64 (bt300.1 * (wrap64 (Int.tdiv (wrap64 ((wrap64 (t302 * t302)) - 1)) 8))))))).bind fun t304 => (some t304)))) else ((spec_l3Half.f (wrap64 ((wrap64 (bt298.1 * bt300.1)) * (wrap64 (Int.tdiv (wrap64 (a2 - 1)) 2))))).bind fun t305 => (if (Int.tmod bt300.1 2) = 1 then ((spec_l1Residue.f k bt298.2 a2).bind fun t306 => (if (Int.tmod bt298.1 2) = 1 then ((spec_l1Residue.f k bt300.2 a2).bind fun t307 => (some (wrap64 ((wrap64 (t305 * t306)) * t307)))) else (some (wrap64 (t305 * t306))))) else (if (Int.tmod bt298.1 2) = 1 then ((spec_l1Residue.f k bt300.2 a2).bind fun t308 => (some (wrap64 (t305 * t308)))) else (some t305)))))))
set_option maxHeartbeats 8000000 in
set_option maxRecDepth 100000 in
theorem spec_l3Symbol.calls (k : Nat) (a0 : Int) (a1 : Int) (a2 : Int) (r : Int) (w : World) (h : spec_l3Symbol.f k a0 a1 a2 = some r) :
  Calls Try.prog 107 #[.int .i64 a0, .int .i64 a1, .int .i64 a2] w fun e w' => e = .returned (.int .i64 r) ∧ Drawn0 w w' := by
 have H : (if a2 = 0 then (if a0 < 0 then (if a1 < 0 then (some (-1)) else (some 1)) else (some 1)) else ((spec_l1Valuation.f k a0 a2).bind fun bt298 => ((spec_l1Valuation.f k a1 a2).bind fun bt300 => (if a2 = 2 then ((spec_l1Mod.f bt298.2 16).bind fun t302 => ((spec_l1Mod.f bt300.2 16).bind fun t303 => ((spec_l3Half.f (wrap64 ((wrap64 ((wrap64 ((wrap64 (Int.tdiv (wrap64 (t302 - 1)) 2)) * (wrap64 (Int.tdiv (wrap64 (t303 - 1)) 2)))) + (wrap64 (bt298.1 * (wrap64 (Int.tdiv (wrap64 ((wrap64 (t303 * t303)) - 1)) 8)))))) + (wrap64 (bt300.1 * (wrap64 (Int.tdiv (wrap64 ((wrap64 (t302 * t302)) - 1)) 8))))))).bind fun t304 => (some t304)))) else ((spec_l3Half.f (wrap64 ((wrap64 (bt298.1 * bt300.1)) * (wrap64 (Int.tdiv (wrap64 (a2 - 1)) 2))))).bind fun t305 => (if (Int.tmod bt300.1 2) = 1 then ((spec_l1Residue.f k bt298.2 a2).bind fun t306 => (if (Int.tmod bt298.1 2) = 1 then ((spec_l1Residue.f k bt300.2 a2).bind fun t307 => (some (wrap64 ((wrap64 (t305 * t306)) * t307)))) else (some (wrap64 (t305 * t306))))) else (if (Int.tmod bt298.1 2) = 1 then ((spec_l1Residue.f k bt300.2 a2).bind fun t308 => (some (wrap64 (t305 * t308)))) else (some t305)))))))) = some r := h; clear h
 by_cases c4 : a2 = 0
 ·rw [if_pos c4] at H; have c4b0 := beq_iff_eq.mpr c4; have c4b1 := bne_eq_false_iff_eq.mpr c4; clear c4
  by_cases c5 : a0 < 0
  ·rw [if_pos c5] at H; have c5b0 := decide_eq_true c5; clear c5
   by_cases c6 : a1 < 0
   ·rw [if_pos c6] at H; have c6b0 := decide_eq_true c6; clear c6; obtain rfl := Option.some.inj H
    go_enter Try.func107, Try.ntmps107
    go_wp2; go_ret
    exact ⟨Sqz.auS, by repeat (first | exact Drawn0.refl _ | apply Drawn0.step)⟩
   ·rw [if_neg c6] at H; have c6b0 := decide_eq_false c6; clear c6; obtain rfl := Option.some.inj H
    go_enter Try.func107, Try.ntmps107
    go_wp2; go_ret
    exact ⟨Sqz.auS, by repeat (first | exact Drawn0.refl _ | apply Drawn0.step)⟩
  ·rw [if_neg c5] at H; have c5b0 := decide_eq_false c5; clear c5; obtain rfl := Option.some.inj H
   go_enter Try.func107, Try.ntmps107
   go_wp2; go_ret
   exact ⟨Sqz.auS, by repeat (first | exact Drawn0.refl _ | apply Drawn0.step)⟩
 ·rw [if_neg c4] at H; have c4b0 := beq_eq_false_iff_ne.mpr c4; have c4b1 := bne_iff_ne.mpr c4; replace H := Option.bind_eq_some_iff.mp H; obtain ⟨⟨t298, t299⟩, A70, H⟩ := H; replace H : ((spec_l1Valuation.f k a1 a2).bind fun bt300 => (if a2 = 2 then ((spec_l1Mod.f t299 16).bind fun t302 => ((spec_l1Mod.f bt300.2 16).bind fun t303 => ((spec_l3Half.f (wrap64 ((wrap64 ((wrap64 ((wrap64 (Int.tdiv (wrap64 (t302 - 1)) 2)) * (wrap64 (Int.tdiv (wrap64 (t303 - 1)) 2)))) + (wrap64 (t298 * (wrap64 (Int.tdiv (wrap64 ((wrap64 (t303 * t303)) - 1)) 8)))))) + (wrap64 (bt300.1 * (wrap64 (Int.tdiv (wrap64 ((wrap64 (t302 * t302)) - 1)) 8))))))).bind fun t304 => (some t304)))) else ((spec_l3Half.f (wrap64 ((wrap64 (t298 * bt300.1)) * (wrap64 (Int.tdiv (wrap64 (a2 - 1)) 2))))).bind fun t305 => (if (Int.tmod bt300.1 2) = 1 then ((spec_l1Residue.f k t299 a2).bind fun t306 => (if (Int.tmod t298 2) = 1 then ((spec_l1Residue.f k bt300.2 a2).bind fun t307 => (some (wrap64 ((wrap64 (t305 * t306)) * t307)))) else (some (wrap64 (t305 * t306))))) else (if (Int.tmod t298 2) = 1 then ((spec_l1Residue.f k bt300.2 a2).bind fun t308 => (some (wrap64 (t305 * t308)))) else (some t305)))))) = some r := H; have A7 := Aside0.mk A70; clear A70; replace H := Option.bind_eq_some_iff.mp H; obtain ⟨⟨t300, t301⟩, A80, H⟩ := H; replace H : (if a2 = 2 then ((spec_l1Mod.f t299 16).bind fun t302 => ((spec_l1Mod.f t301 16).bind fun t303 => ((spec_l3Half.f (wrap64 ((wrap64 ((wrap64 ((wrap64 (Int.tdiv (wrap64 (t302 - 1)) 2)) * (wrap64 (Int.tdiv (wrap64 (t303 - 1)) 2)))) + (wrap64 (t298 * (wrap64 (Int.tdiv (wrap64 ((wrap64 (t303 * t303)) - 1)) 8)))))) + (wrap64 (t300 * (wrap64 (Int.tdiv (wrap64 ((wrap64 (t302 * t302)) - 1)) 8))))))).bind fun t304 => (some t304)))) else ((spec_l3Half.f (wrap64 ((wrap64 (t298 * t300)) * (wrap64 (Int.tdiv (wrap64 (a2 - 1)) 2))))).bind fun t305 => (if (Int.tmod t300 2) = 1 then ((spec_l1Residue.f k t299 a2).bind fun t306 => (if (Int.tmod t298 2) = 1 then ((spec_l1Residue.f k t301 a2).bind fun t307 => (some (wrap64 ((wrap64 (t305 * t306)) * t307)))) else (some (wrap64 (t305 * t306))))) else (if (Int.tmod t298 2) = 1 then ((spec_l1Residue.f k t301 a2).bind fun t308 => (some (wrap64 (t305 * t308)))) else (some t305))))) = some r := H; have A8 := Aside0.mk A80; clear A80
  by_cases c9 : a2 = 2
  ·rw [if_pos c9] at H; have c9b0 := beq_iff_eq.mpr c9; have c9b1 := bne_eq_false_iff_eq.mpr c9; clear c9; obtain ⟨t302, A10, H⟩ := Sqz.be H; obtain ⟨t303, A11, H⟩ := Sqz.be H; obtain ⟨t304, A12, H⟩ := Sqz.be H; obtain rfl := Option.some.inj H
   go_enter Try.func107, Try.ntmps107
   go_wp2_with (first | ((with_reducible refine gate_callee (f := 108) rfl ?_); refine goesL_ (some 23) rfl rfl Try.func108 (by kernel_rfl) rfl #[.int .i64 a0, .int .i64 a2] rfl Sqz.auM ?_; (with_reducible refine (spec_l1Valuation.calls k a0 a2 t298 t299 _ A7.out).mono ?_); rintro e w' ⟨rfl, ⟨nd, rfl⟩⟩; refine ⟨_, rfl, ?_⟩) | ((with_reducible refine gate_callee (f := 108) rfl ?_); refine goesL_ (some 29) rfl rfl Try.func108 (by kernel_rfl) rfl #[.int .i64 a1, .int .i64 a2] rfl Sqz.auM ?_; (with_reducible refine (spec_l1Valuation.calls k a1 a2 t300 t301 _ A8.out).mono ?_); rintro e w' ⟨rfl, ⟨nd, rfl⟩⟩; refine ⟨_, rfl, ?_⟩) | ((with_reducible refine gate_callee (f := 109) rfl ?_); refine goesL_ (some 35) rfl rfl Try.func109 (by kernel_rfl) rfl #[.int .i64 t299, .int .i64 16] rfl Sqz.auM ?_; (with_reducible refine (spec_l1Mod.calls t299 16 t302 _ A10.out).mono ?_); rintro e w' ⟨rfl, ⟨nd, rfl⟩⟩; refine ⟨_, rfl, ?_⟩) | ((with_reducible refine gate_callee (f := 109) rfl ?_); refine goesL_ (some 37) rfl rfl Try.func109 (by kernel_rfl) rfl #[.int .i64 t301, .int .i64 16] rfl Sqz.auM ?_; (with_reducible refine (spec_l1Mod.calls t301 16 t303 _ A11.out).mono ?_); rintro e w' ⟨rfl, ⟨nd, rfl⟩⟩; refine ⟨_, rfl, ?_⟩) | ((with_reducible refine gate_callee (f := 123) rfl ?_); refine goesL_ (some 61) rfl rfl Try.func123 (by kernel_rfl) rfl #[.int .i64 (wrap64 ((wrap64 ((wrap64 ((wrap64 (Int.tdiv (wrap64 (t302 - 1)) 2)) * (wrap64 (Int.tdiv (wrap64 (t303 - 1)) 2)))) + (wrap64 (t298 * (wrap64 (Int.tdiv (wrap64 ((wrap64 (t303 * t303)) - 1)) 8)))))) + (wrap64 (t300 * (wrap64 (Int.tdiv (wrap64 ((wrap64 (t302 * t302)) - 1)) 8))))))] rfl Sqz.auM ?_; (with_reducible refine (spec_l3Half.calls (wrap64 ((wrap64 ((wrap64 ((wrap64 (Int.tdiv (wrap64 (t302 - 1)) 2)) * (wrap64 (Int.tdiv (wrap64 (t303 - 1)) 2)))) + (wrap64 (t298 * (wrap64 (Int.tdiv (wrap64 ((wrap64 (t303 * t303)) - 1)) 8)))))) + (wrap64 (t300 * (wrap64 (Int.tdiv (wrap64 ((wrap64 (t302 * t302)) - 1)) 8)))))) t304 _ A12.out).mono ?_); rintro e w' ⟨rfl, ⟨nd, rfl⟩⟩; refine ⟨_, rfl, ?_⟩))
   go_ret
   exact ⟨Sqz.auS, by repeat (first | exact Drawn0.refl _ | apply Drawn0.step)⟩
  ·rw [if_neg c9] at H; have c9b0 := beq_eq_false_iff_ne.mpr c9; have c9b1 := bne_iff_ne.mpr c9; obtain ⟨t305, A13, H⟩ := Sqz.be H
   by_cases c14 : (Int.tmod t300 2) = 1
   ·rw [if_pos c14] at H; have c14b0 := beq_iff_eq.mpr c14; have c14b1 := bne_eq_false_iff_eq.mpr c14; clear c14; obtain ⟨t306, A15, H⟩ := Sqz.be H
    by_cases c16 : (Int.tmod t298 2) = 1
    ·rw [if_pos c16] at H; have c16b0 := beq_iff_eq.mpr c16; have c16b1 := bne_eq_false_iff_eq.mpr c16; clear c16; obtain ⟨t307, A17, H⟩ := Sqz.be H; obtain rfl := Option.some.inj H
     go_enter Try.func107, Try.ntmps107
     go_wp2_with (first | ((with_reducible refine gate_callee (f := 108) rfl ?_); refine goesL_ (some 23) rfl rfl Try.func108 (by kernel_rfl) rfl #[.int .i64 a0, .int .i64 a2] rfl Sqz.auM ?_; (with_reducible refine (spec_l1Valuation.calls k a0 a2 t298 t299 _ A7.out).mono ?_); rintro e w' ⟨rfl, ⟨nd, rfl⟩⟩; refine ⟨_, rfl, ?_⟩) | ((with_reducible refine gate_callee (f := 108) rfl ?_); refine goesL_ (some 29) rfl rfl Try.func108 (by kernel_rfl) rfl #[.int .i64 a1, .int .i64 a2] rfl Sqz.auM ?_; (with_reducible refine (spec_l1Valuation.calls k a1 a2 t300 t301 _ A8.out).mono ?_); rintro e w' ⟨rfl, ⟨nd, rfl⟩⟩; refine ⟨_, rfl, ?_⟩) | ((with_reducible refine gate_callee (f := 123) rfl ?_); refine goesL_ (some 69) rfl rfl Try.func123 (by kernel_rfl) rfl #[.int .i64 (wrap64 ((wrap64 (t298 * t300)) * (wrap64 (Int.tdiv (wrap64 (a2 - 1)) 2))))] rfl Sqz.auM ?_; (with_reducible refine (spec_l3Half.calls (wrap64 ((wrap64 (t298 * t300)) * (wrap64 (Int.tdiv (wrap64 (a2 - 1)) 2)))) t305 _ A13.out).mono ?_); rintro e w' ⟨rfl, ⟨nd, rfl⟩⟩; refine ⟨_, rfl, ?_⟩) | ((with_reducible refine gate_callee (f := 110) rfl ?_); refine goesL_ (some 76) rfl rfl Try.func110 (by kernel_rfl) rfl #[.int .i64 t299, .int .i64 a2] rfl Sqz.auM ?_; (with_reducible refine (spec_l1Residue.calls k t299 a2 t306 _ A15.out).mono ?_); rintro e w' ⟨rfl, ⟨nd, rfl⟩⟩; refine ⟨_, rfl, ?_⟩) | ((with_reducible refine gate_callee (f := 110) rfl ?_); refine goesL_ (some 84) rfl rfl Try.func110 (by kernel_rfl) rfl #[.int .i64 t301, .int .i64 a2] rfl Sqz.auM ?_; (with_reducible refine (spec_l1Residue.calls k t301 a2 t307 _ A17.out).mono ?_); rintro e w' ⟨rfl, ⟨nd, rfl⟩⟩; refine ⟨_, rfl, ?_⟩))
     go_ret
     exact ⟨Sqz.auS, by repeat (first | exact Drawn0.refl _ | apply Drawn0.step)⟩
    ·rw [if_neg c16] at H; have c16b0 := beq_eq_false_iff_ne.mpr c16; have c16b1 := bne_iff_ne.mpr c16; obtain rfl := Option.some.inj H
     go_enter Try.func107, Try.ntmps107
     go_wp2_with (first | ((with_reducible refine gate_callee (f := 108) rfl ?_); refine goesL_ (some 23) rfl rfl Try.func108 (by kernel_rfl) rfl #[.int .i64 a0, .int .i64 a2] rfl Sqz.auM ?_; (with_reducible refine (spec_l1Valuation.calls k a0 a2 t298 t299 _ A7.out).mono ?_); rintro e w' ⟨rfl, ⟨nd, rfl⟩⟩; refine ⟨_, rfl, ?_⟩) | ((with_reducible refine gate_callee (f := 108) rfl ?_); refine goesL_ (some 29) rfl rfl Try.func108 (by kernel_rfl) rfl #[.int .i64 a1, .int .i64 a2] rfl Sqz.auM ?_; (with_reducible refine (spec_l1Valuation.calls k a1 a2 t300 t301 _ A8.out).mono ?_); rintro e w' ⟨rfl, ⟨nd, rfl⟩⟩; refine ⟨_, rfl, ?_⟩) | ((with_reducible refine gate_callee (f := 123) rfl ?_); refine goesL_ (some 69) rfl rfl Try.func123 (by kernel_rfl) rfl #[.int .i64 (wrap64 ((wrap64 (t298 * t300)) * (wrap64 (Int.tdiv (wrap64 (a2 - 1)) 2))))] rfl Sqz.auM ?_; (with_reducible refine (spec_l3Half.calls (wrap64 ((wrap64 (t298 * t300)) * (wrap64 (Int.tdiv (wrap64 (a2 - 1)) 2)))) t305 _ A13.out).mono ?_); rintro e w' ⟨rfl, ⟨nd, rfl⟩⟩; refine ⟨_, rfl, ?_⟩) | ((with_reducible refine gate_callee (f := 110) rfl ?_); refine goesL_ (some 76) rfl rfl Try.func110 (by kernel_rfl) rfl #[.int .i64 t299, .int .i64 a2] rfl Sqz.auM ?_; (with_reducible refine (spec_l1Residue.calls k t299 a2 t306 _ A15.out).mono ?_); rintro e w' ⟨rfl, ⟨nd, rfl⟩⟩; refine ⟨_, rfl, ?_⟩))
     go_ret
     exact ⟨Sqz.auS, by repeat (first | exact Drawn0.refl _ | apply Drawn0.step)⟩
   ·rw [if_neg c14] at H; have c14b0 := beq_eq_false_iff_ne.mpr c14; have c14b1 := bne_iff_ne.mpr c14
    by_cases c18 : (Int.tmod t298 2) = 1
    ·rw [if_pos c18] at H; have c18b0 := beq_iff_eq.mpr c18; have c18b1 := bne_eq_false_iff_eq.mpr c18; clear c18; obtain ⟨t308, A19, H⟩ := Sqz.be H; obtain rfl := Option.some.inj H
     go_enter Try.func107, Try.ntmps107
     go_wp2_with (first | ((with_reducible refine gate_callee (f := 108) rfl ?_); refine goesL_ (some 23) rfl rfl Try.func108 (by kernel_rfl) rfl #[.int .i64 a0, .int .i64 a2] rfl Sqz.auM ?_; (with_reducible refine (spec_l1Valuation.calls k a0 a2 t298 t299 _ A7.out).mono ?_); rintro e w' ⟨rfl, ⟨nd, rfl⟩⟩; refine ⟨_, rfl, ?_⟩) | ((with_reducible refine gate_callee (f := 108) rfl ?_); refine goesL_ (some 29) rfl rfl Try.func108 (by kernel_rfl) rfl #[.int .i64 a1, .int .i64 a2] rfl Sqz.auM ?_; (with_reducible refine (spec_l1Valuation.calls k a1 a2 t300 t301 _ A8.out).mono ?_); rintro e w' ⟨rfl, ⟨nd, rfl⟩⟩; refine ⟨_, rfl, ?_⟩) | ((with_reducible refine gate_callee (f := 123) rfl ?_); refine goesL_ (some 69) rfl rfl Try.func123 (by kernel_rfl) rfl #[.int .i64 (wrap64 ((wrap64 (t298 * t300)) * (wrap64 (Int.tdiv (wrap64 (a2 - 1)) 2))))] rfl Sqz.auM ?_; (with_reducible refine (spec_l3Half.calls (wrap64 ((wrap64 (t298 * t300)) * (wrap64 (Int.tdiv (wrap64 (a2 - 1)) 2)))) t305 _ A13.out).mono ?_); rintro e w' ⟨rfl, ⟨nd, rfl⟩⟩; refine ⟨_, rfl, ?_⟩) | ((with_reducible refine gate_callee (f := 110) rfl ?_); refine goesL_ (some 84) rfl rfl Try.func110 (by kernel_rfl) rfl #[.int .i64 t301, .int .i64 a2] rfl Sqz.auM ?_; (with_reducible refine (spec_l1Residue.calls k t301 a2 t308 _ A19.out).mono ?_); rintro e w' ⟨rfl, ⟨nd, rfl⟩⟩; refine ⟨_, rfl, ?_⟩))
     go_ret
     exact ⟨Sqz.auS, by repeat (first | exact Drawn0.refl _ | apply Drawn0.step)⟩
    ·rw [if_neg c18] at H; have c18b0 := beq_eq_false_iff_ne.mpr c18; have c18b1 := bne_iff_ne.mpr c18; obtain rfl := Option.some.inj H
     go_enter Try.func107, Try.ntmps107
     go_wp2_with (first | ((with_reducible refine gate_callee (f := 108) rfl ?_); refine goesL_ (some 23) rfl rfl Try.func108 (by kernel_rfl) rfl #[.int .i64 a0, .int .i64 a2] rfl Sqz.auM ?_; (with_reducible refine (spec_l1Valuation.calls k a0 a2 t298 t299 _ A7.out).mono ?_); rintro e w' ⟨rfl, ⟨nd, rfl⟩⟩; refine ⟨_, rfl, ?_⟩) | ((with_reducible refine gate_callee (f := 108) rfl ?_); refine goesL_ (some 29) rfl rfl Try.func108 (by kernel_rfl) rfl #[.int .i64 a1, .int .i64 a2] rfl Sqz.auM ?_; (with_reducible refine (spec_l1Valuation.calls k a1 a2 t300 t301 _ A8.out).mono ?_); rintro e w' ⟨rfl, ⟨nd, rfl⟩⟩; refine ⟨_, rfl, ?_⟩) | ((with_reducible refine gate_callee (f := 123) rfl ?_); refine goesL_ (some 69) rfl rfl Try.func123 (by kernel_rfl) rfl #[.int .i64 (wrap64 ((wrap64 (t298 * t300)) * (wrap64 (Int.tdiv (wrap64 (a2 - 1)) 2))))] rfl Sqz.auM ?_; (with_reducible refine (spec_l3Half.calls (wrap64 ((wrap64 (t298 * t300)) * (wrap64 (Int.tdiv (wrap64 (a2 - 1)) 2)))) t305 _ A13.out).mono ?_); rintro e w' ⟨rfl, ⟨nd, rfl⟩⟩; refine ⟨_, rfl, ?_⟩))
     go_ret
     exact ⟨Sqz.auS, by repeat (first | exact Drawn0.refl _ | apply Drawn0.step)⟩

/-! ### spec_l4Invariant: function 106 -/
mutual
def spec_l4Invariant.l0 : Nat → List Int → Int → Int → Int → Option (Int)
 | 0, _, _, _, _ => none
 | k + 1, x0, x1, x5, x6 => if x6 < (x0.length : Int) then (spec_l4Invariant.l1 k x0 x1 x5 x6 0) else (some x5)
def spec_l4Invariant.l1 : Nat → List Int → Int → Int → Int → Int → Option (Int)
 | 0, _, _, _, _, _ => none
 | k + 1, x0, x1, x5, x6, x7 => if x7 < x6 then (if 0 ≤ x7 then (if x7 < (x0.length : Int) then (if 0 ≤ x6 then (if x6 < (x0.length : Int) then ((spec_l3Symbol.f k (rd x0 x7) (rd x0 x6) x1).bind fun t311 => (spec_l4Invariant.l1 k x0 x1 (wrap64 (x5 * t311)) x6 (wrap64 (x7 + 1)))) else (none)) else (none)) else (none)) else (none)) else (spec_l4Invariant.l0 k x0 x1 x5 (wrap64 (x6 + 1)))
end
def spec_l4Invariant.f (k : Nat) (l0 : List Int) (a1 : Int) : Option (Int) := spec_l4Invariant.l0 k l0 a1 1 0
set_option maxHeartbeats 8000000 in
set_option maxRecDepth 100000 in
theorem spec_l4Invariant.calls (k : Nat) (A0 : Option Addr) (c0 : Nat) (l0 : List Int) (a1 : Int) (r : Int) (w : World) (hr0 : Kd.C (Kd.int .i64) w A0 l0.length l0) (hc0 : l0.length ≤ c0) (h : spec_l4Invariant.f k l0 a1 = some r) :
  Calls Try.prog 106 #[.slice A0 l0.length c0, .int .i64 a1] w fun e w' => e = .returned (.int .i64 r) ∧ Drawn0 w w' := by
 have HR0 := Aside0.mk hr0; have HC0 := Aside0.mk hc0; clear hr0 hc0; have H : (spec_l4Invariant.l0 k l0 a1 1 0) = some r := h; clear h; have H' := Aside0.mk H; clear H
 go_enter Try.func106, Try.ntmps106
 go_wp2
 repeat (go_quiet (fail); try go_wp2)
 go_loopg [5, 6] k (fun kq v5 v6 w' => ∃ (x5_1 : Int) (x6_1 : Int), v5 = .int .i64 x5_1 ∧ v6 = .int .i64 x6_1 ∧ Aside0 (spec_l4Invariant.l0 kq l0 a1 x5_1 x6_1 = some r) ∧ Aside0 (kq ≤ k) ∧ Drawn0 w w')
 case atStart => exact ⟨(1), (0), Sqz.auS, Sqz.auS, H', ⟨Nat.le_refl _⟩, by repeat (first | exact Drawn0.refl _ | apply Drawn0.step)⟩
 case round =>
  clear H'
  try clear c1
  try clear p2
  obtain ⟨x5_1, x6_1, rfl, rfl, HA, HK1, ⟨m1, rfl⟩⟩ := hrel; cases gk with
  | zero => exact absurd HA.out (by simp [spec_l4Invariant.l0])
  | succ k1 =>
   have H := HA.out; clear HA; simp only [spec_l4Invariant.l0] at H
   by_cases c3 : x6_1 < (l0.length : Int)
   ·rw [if_pos c3] at H; have c3b0 := decide_eq_true c3; clear c3; have H' := Aside0.mk H; clear H; go_wp2
    repeat (go_quiet (fail); try go_wp2)
    go_loopg [5, 7] k1 (fun kq v5 v7 w' => ∃ (x5_2 : Int) (x7_2 : Int), v5 = .int .i64 x5_2 ∧ v7 = .int .i64 x7_2 ∧ Aside0 (spec_l4Invariant.l1 kq l0 a1 x5_2 x6_1 x7_2 = some r) ∧ Aside0 (kq ≤ k1) ∧ Drawn0 w w')
    case atStart => exact ⟨(x5_1), (0), Sqz.auS, Sqz.auS, H', ⟨Nat.le_refl _⟩, by repeat (first | exact Drawn0.refl _ | apply Drawn0.step)⟩
    case round =>
     clear H'
     try clear c1
     try clear p2
     try clear c3
     try clear c3b0
     try clear p2
     obtain ⟨x5_2, x7_2, rfl, rfl, HA, HK2, ⟨m2, rfl⟩⟩ := hrel; cases gk with
     | zero => exact absurd HA.out (by simp [spec_l4Invariant.l1])
     | succ k2 =>
      have H := HA.out; clear HA; simp only [spec_l4Invariant.l1] at H
      by_cases c4 : x7_2 < x6_1
      ·rw [if_pos c4] at H; have c4b0 := decide_eq_true c4; clear c4
       by_cases c5 : 0 ≤ x7_2
       ·rw [if_pos c5] at H; have c5b0 := decide_eq_true c5; clear c5
        by_cases c6 : x7_2 < (l0.length : Int)
        ·rw [if_pos c6] at H; have c6b0 := decide_eq_true c6; clear c6
         by_cases c7 : 0 ≤ x6_1
         ·rw [if_pos c7] at H; have c7b0 := decide_eq_true c7; clear c7
          by_cases c8 : x6_1 < (l0.length : Int)
          ·rw [if_pos c8] at H; have c8b0 := decide_eq_true c8; clear c8; obtain ⟨t311, A9, H⟩ := Sqz.be H; have H' := Aside0.mk H; clear H; have p309 : 0 ≤ (x7_2 : Int) := Sqz.od; have q309 : x7_2 < (l0.length : Int) := Sqz.od; obtain ⟨ad309, e309, hx309_0⟩ := Kd.at_int HR0.out x7_2 p309 q309; cases e309; replace p309 := eq_true p309; replace q309 := eq_true q309; have p310 : 0 ≤ (x6_1 : Int) := Sqz.od; have q310 : x6_1 < (l0.length : Int) := Sqz.od; obtain ⟨ad310, e310, hx310_0⟩ := Kd.at_int HR0.out x6_1 p310 q310; obtain rfl : ad309 = ad310 := (by injection e310); replace p310 := eq_true p310; replace q310 := eq_true q310
           go_wp2_with (first | (go_at_call 107; (with_reducible refine (spec_l3Symbol.calls k2 (rd l0 x7_2) (rd l0 x6_1) a1 t311 _ A9.out).mono ?_); rintro e w' ⟨rfl, ⟨nd, rfl⟩⟩; (try first | exact ⟨rfl, _, World.drewN_drewN _ _ _⟩ | exact ⟨rfl, _, Eq.trans (World.drewN_drewN _ _ _) (congrArg (World.drewN _) (Nat.add_assoc _ _ _))⟩)))
           repeat (go_quiet (first | (go_at_call 107; (with_reducible refine (spec_l3Symbol.calls k2 (rd l0 x7_2) (rd l0 x6_1) a1 t311 _ A9.out).mono ?_); rintro e w' ⟨rfl, ⟨nd, rfl⟩⟩; (try first | exact ⟨rfl, _, World.drewN_drewN _ _ _⟩ | exact ⟨rfl, _, Eq.trans (World.drewN_drewN _ _ _) (congrArg (World.drewN _) (Nat.add_assoc _ _ _))⟩))); try go_wp2_with (first | (go_at_call 107; (with_reducible refine (spec_l3Symbol.calls k2 (rd l0 x7_2) (rd l0 x6_1) a1 t311 _ A9.out).mono ?_); rintro e w' ⟨rfl, ⟨nd, rfl⟩⟩; (try first | exact ⟨rfl, _, World.drewN_drewN _ _ _⟩ | exact ⟨rfl, _, Eq.trans (World.drewN_drewN _ _ _) (congrArg (World.drewN _) (Nat.add_assoc _ _ _))⟩))))
           go_roundg k2
           case measure => have := HK1.out; have := HK2.out; omega
           case rel => exact ⟨(wrap64 (x5_2 * t311)), (wrap64 (x7_2 + 1)), Sqz.auS, Sqz.auS, H', ⟨by have := HK1.out; have := HK2.out; omega⟩, by repeat (first | exact Drawn0.refl _ | apply Drawn0.step)⟩
          ·rw [if_neg c8] at H; exact absurd H (by simp)
         ·rw [if_neg c7] at H; exact absurd H (by simp)
        ·rw [if_neg c6] at H; exact absurd H (by simp)
       ·rw [if_neg c5] at H; exact absurd H (by simp)
      ·rw [if_neg c4] at H; have c4b0 := decide_eq_false c4; clear c4; have H' := Aside0.mk H; clear H; go_wp2
       repeat (go_quiet (fail); try go_wp2)
       go_roundg k2
       case measure => have := HK1.out; have := HK2.out; omega
       case rel => exact ⟨(x5_2), (wrap64 (x6_1 + 1)), Sqz.auS, Sqz.auS, H', ⟨by have := HK1.out; have := HK2.out; omega⟩, by repeat (first | exact Drawn0.refl _ | apply Drawn0.step)⟩
   ·rw [if_neg c3] at H; have c3b0 := decide_eq_false c3; clear c3; obtain rfl := Option.some.inj H; go_wp2
    repeat (go_quiet (fail); try go_wp2)
    go_ret
    exact ⟨Sqz.auS, by repeat (first | exact Drawn0.refl _ | apply Drawn0.step)⟩

/-! ### spec_l4Vanishes: function 94 -/
def spec_l4Vanishes.f (k : Nat) (l0 : List Int) (a1 : Int) : Option (Bool) := if a1 = 0 then ((spec_l4Less.f k l0).bind fun t312 => (if t312 > 0 then ((spec_l4Less.f k l0).bind fun t313 => (some (decide (t313 < (l0.length : Int))))) else (some false))) else ((spec_l4Product.f k l0).bind fun t314 => (if (l0.length : Int) = 1 then (some false) else (if (l0.length : Int) = 2 then ((spec_l2Square.f k (wrap64 (-t314)) a1).bind fun t315 => (some t315)) else (if (l0.length : Int) = 3 then ((spec_l4Invariant.f k l0 a1).bind fun t316 => ((spec_l3Symbol.f k (-1) (wrap64 (-t314)) a1).bind fun t317 => (some (t316 == t317)))) else ((spec_l2Square.f k t314 a1).bind fun t318 => (if t318 = true then ((spec_l4Invariant.f k l0 a1).bind fun t319 => ((spec_l3Symbol.f k (-1) (-1) a1).bind fun t320 => (some (t319 == t320)))) else (some true)))))))
set_option maxHeartbeats 8000000 in
set_option maxRecDepth 100000 in
theorem spec_l4Vanishes.calls (k : Nat) (A0 : Option Addr) (c0 : Nat) (l0 : List Int) (a1 : Int) (r : Bool) (w : World) (hr0 : Kd.C (Kd.int .i64) w A0 l0.length l0) (hc0 : l0.length ≤ c0) (h : spec_l4Vanishes.f k l0 a1 = some r) :
  Calls Try.prog 94 #[.slice A0 l0.length c0, .int .i64 a1] w fun e w' => e = .returned (.bool r) ∧ Drawn0 w w' := by
 have HR0 := Aside0.mk hr0; have HC0 := Aside0.mk hc0; clear hr0 hc0; have H : (if a1 = 0 then ((spec_l4Less.f k l0).bind fun t312 => (if t312 > 0 then ((spec_l4Less.f k l0).bind fun t313 => (some (decide (t313 < (l0.length : Int))))) else (some false))) else ((spec_l4Product.f k l0).bind fun t314 => (if (l0.length : Int) = 1 then (some false) else (if (l0.length : Int) = 2 then ((spec_l2Square.f k (wrap64 (-t314)) a1).bind fun t315 => (some t315)) else (if (l0.length : Int) = 3 then ((spec_l4Invariant.f k l0 a1).bind fun t316 => ((spec_l3Symbol.f k (-1) (wrap64 (-t314)) a1).bind fun t317 => (some (t316 == t317)))) else ((spec_l2Square.f k t314 a1).bind fun t318 => (if t318 = true then ((spec_l4Invariant.f k l0 a1).bind fun t319 => ((spec_l3Symbol.f k (-1) (-1) a1).bind fun t320 => (some (t319 == t320)))) else (some true)))))))) = some r := h; clear h
 by_cases c3 : a1 = 0
 ·rw [if_pos c3] at H; have c3b0 := beq_iff_eq.mpr c3; have c3b1 := bne_eq_false_iff_eq.mpr c3; clear c3; obtain ⟨t312, A4, H⟩ := Sqz.be H
  by_cases c5 : t312 > 0
  ·rw [if_pos c5] at H; have c5b0 : decide (0 < t312) = true := decide_eq_true c5; clear c5; obtain ⟨t313, A6, H⟩ := Sqz.be H; obtain rfl := Option.some.inj H
   go_enter Try.func94, Try.ntmps94
   go_wp2_with (first | ((with_reducible refine gate_callee (f := 93) rfl ?_); refine goesL_ (some 9) rfl rfl Try.func93 (by kernel_rfl) rfl #[.slice A0 l0.length c0] rfl Sqz.auM ?_; (with_reducible refine (spec_l4Less.calls k _ _ l0 t312 _ ?side1 ?side2 A4.out).mono ?_); (case side1 => exact Sqz.mvC (HR0.out)); (case side2 => exact HC0.out); rintro e w' ⟨rfl, ⟨nd, rfl⟩⟩; refine ⟨_, rfl, ?_⟩) | (go_at_call 93; (with_reducible refine (spec_l4Less.calls k _ _ l0 t313 _ ?side1 ?side2 A6.out).mono ?_); (case side1 => exact Sqz.mvC (HR0.out)); (case side2 => exact HC0.out); rintro e w' ⟨rfl, ⟨nd, rfl⟩⟩))
   go_ret
   exact ⟨Sqz.auS, by repeat (first | exact Drawn0.refl _ | apply Drawn0.step)⟩
  ·rw [if_neg c5] at H; have c5b0 : decide (0 < t312) = false := decide_eq_false c5; clear c5; obtain rfl := Option.some.inj H
   go_enter Try.func94, Try.ntmps94
   go_wp2_with (first | ((with_reducible refine gate_callee (f := 93) rfl ?_); refine goesL_ (some 9) rfl rfl Try.func93 (by kernel_rfl) rfl #[.slice A0 l0.length c0] rfl Sqz.auM ?_; (with_reducible refine (spec_l4Less.calls k _ _ l0 t312 _ ?side1 ?side2 A4.out).mono ?_); (case side1 => exact Sqz.mvC (HR0.out)); (case side2 => exact HC0.out); rintro e w' ⟨rfl, ⟨nd, rfl⟩⟩; refine ⟨_, rfl, ?_⟩))
   go_ret
   exact ⟨Sqz.auS, by repeat (first | exact Drawn0.refl _ | apply Drawn0.step)⟩
 ·rw [if_neg c3] at H; have c3b0 := beq_eq_false_iff_ne.mpr c3; have c3b1 := bne_iff_ne.mpr c3; obtain ⟨t314, A7, H⟩ := Sqz.be H
  by_cases c8 : (l0.length : Int) = 1
  ·rw [if_pos c8] at H; have c8b0 := beq_iff_eq.mpr c8; have c8b1 := bne_eq_false_iff_eq.mpr c8; clear c8; obtain rfl := Option.some.inj H
   go_enter Try.func94, Try.ntmps94
   go_wp2_with (first | ((with_reducible refine gate_callee (f := 79) rfl ?_); refine goesL_ (some 19) rfl rfl Try.func79 (by kernel_rfl) rfl #[.slice A0 l0.length c0] rfl Sqz.auM ?_; (with_reducible refine (spec_l4Product.calls k _ _ l0 t314 _ ?side1 ?side2 A7.out).mono ?_); (case side1 => exact Sqz.mvC (HR0.out)); (case side2 => exact HC0.out); rintro e w' ⟨rfl, ⟨nd, rfl⟩⟩; refine ⟨_, rfl, ?_⟩))
   go_ret
   exact ⟨Sqz.auS, by repeat (first | exact Drawn0.refl _ | apply Drawn0.step)⟩
  ·rw [if_neg c8] at H; have c8b0 := beq_eq_false_iff_ne.mpr c8; have c8b1 := bne_iff_ne.mpr c8
   by_cases c9 : (l0.length : Int) = 2
   ·rw [if_pos c9] at H; have c9b0 := beq_iff_eq.mpr c9; have c9b1 := bne_eq_false_iff_eq.mpr c9; clear c9; obtain ⟨t315, A10, H⟩ := Sqz.be H; obtain rfl := Option.some.inj H
    go_enter Try.func94, Try.ntmps94
    go_wp2_with (first | ((with_reducible refine gate_callee (f := 79) rfl ?_); refine goesL_ (some 19) rfl rfl Try.func79 (by kernel_rfl) rfl #[.slice A0 l0.length c0] rfl Sqz.auM ?_; (with_reducible refine (spec_l4Product.calls k _ _ l0 t314 _ ?side1 ?side2 A7.out).mono ?_); (case side1 => exact Sqz.mvC (HR0.out)); (case side2 => exact HC0.out); rintro e w' ⟨rfl, ⟨nd, rfl⟩⟩; refine ⟨_, rfl, ?_⟩) | ((with_reducible refine gate_callee (f := 95) rfl ?_); refine goesL_ (some 29) rfl rfl Try.func95 (by kernel_rfl) rfl #[.int .i64 (wrap64 (-t314)), .int .i64 a1] rfl Sqz.auM ?_; (with_reducible refine (spec_l2Square.calls k (wrap64 (-t314)) a1 t315 _ A10.out).mono ?_); rintro e w' ⟨rfl, ⟨nd, rfl⟩⟩; refine ⟨_, rfl, ?_⟩))
    go_ret
    exact ⟨Sqz.auS, by repeat (first | exact Drawn0.refl _ | apply Drawn0.step)⟩
   ·rw [if_neg c9] at H; have c9b0 := beq_eq_false_iff_ne.mpr c9; have c9b1 := bne_iff_ne.mpr c9
    by_cases c11 : (l0.length : Int) = 3
    ·rw [if_pos c11] at H; have c11b0 := beq_iff_eq.mpr c11; have c11b1 := bne_eq_false_iff_eq.mpr c11; clear c11; obtain ⟨t316, A12, H⟩ := Sqz.be H; obtain ⟨t317, A13, H⟩ := Sqz.be H; obtain rfl := Option.some.inj H
     go_enter Try.func94, Try.ntmps94
     go_wp2_with (first | ((with_reducible refine gate_callee (f := 79) rfl ?_); refine goesL_ (some 19) rfl rfl Try.func79 (by kernel_rfl) rfl #[.slice A0 l0.length c0] rfl Sqz.auM ?_; (with_reducible refine (spec_l4Product.calls k _ _ l0 t314 _ ?side1 ?side2 A7.out).mono ?_); (case side1 => exact Sqz.mvC (HR0.out)); (case side2 => exact HC0.out); rintro e w' ⟨rfl, ⟨nd, rfl⟩⟩; refine ⟨_, rfl, ?_⟩) | ((with_reducible refine gate_callee (f := 106) rfl ?_); refine goesL_ (some 34) rfl rfl Try.func106 (by kernel_rfl) rfl #[.slice A0 l0.length c0, .int .i64 a1] rfl Sqz.auM ?_; (with_reducible refine (spec_l4Invariant.calls k _ _ l0 a1 t316 _ ?side1 ?side2 A12.out).mono ?_); (case side1 => exact Sqz.mvC (HR0.out)); (case side2 => exact HC0.out); rintro e w' ⟨rfl, ⟨nd, rfl⟩⟩; refine ⟨_, rfl, ?_⟩) | ((with_reducible refine gate_callee (f := 107) rfl ?_); refine goesL_ (some 38) rfl rfl Try.func107 (by kernel_rfl) rfl #[.int .i64 (-1), .int .i64 (wrap64 (-t314)), .int .i64 a1] rfl Sqz.auM ?_; (with_reducible refine (spec_l3Symbol.calls k (-1) (wrap64 (-t314)) a1 t317 _ A13.out).mono ?_); rintro e w' ⟨rfl, ⟨nd, rfl⟩⟩; refine ⟨_, rfl, ?_⟩))
     go_ret
     exact ⟨Sqz.auS, by repeat (first | exact Drawn0.refl _ | apply Drawn0.step)⟩
    ·rw [if_neg c11] at H; have c11b0 := beq_eq_false_iff_ne.mpr c11; have c11b1 := bne_iff_ne.mpr c11; obtain ⟨t318, A14, H⟩ := Sqz.be H
     by_cases c15 : t318 = true
     ·subst c15; have H1 : ((spec_l4Invariant.f k l0 a1).bind fun t319 => ((spec_l3Symbol.f k (-1) (-1) a1).bind fun t320 => (some (t319 == t320)))) = some r := by rw [if_pos rfl] at H; exact H
      clear H; have H := H1; clear H1; obtain ⟨t319, A16, H⟩ := Sqz.be H; obtain ⟨t320, A17, H⟩ := Sqz.be H; obtain rfl := Option.some.inj H
      go_enter Try.func94, Try.ntmps94
      go_wp2_with (first | ((with_reducible refine gate_callee (f := 79) rfl ?_); refine goesL_ (some 19) rfl rfl Try.func79 (by kernel_rfl) rfl #[.slice A0 l0.length c0] rfl Sqz.auM ?_; (with_reducible refine (spec_l4Product.calls k _ _ l0 t314 _ ?side1 ?side2 A7.out).mono ?_); (case side1 => exact Sqz.mvC (HR0.out)); (case side2 => exact HC0.out); rintro e w' ⟨rfl, ⟨nd, rfl⟩⟩; refine ⟨_, rfl, ?_⟩) | ((with_reducible refine gate_callee (f := 95) rfl ?_); refine goesL_ (some 42) rfl rfl Try.func95 (by kernel_rfl) rfl #[.int .i64 t314, .int .i64 a1] rfl Sqz.auM ?_; (with_reducible refine (spec_l2Square.calls k t314 a1 true _ A14.out).mono ?_); rintro e w' ⟨rfl, ⟨nd, rfl⟩⟩; refine ⟨_, rfl, ?_⟩) | (go_at_call 106; (with_reducible refine (spec_l4Invariant.calls k _ _ l0 a1 t319 _ ?side1 ?side2 A16.out).mono ?_); (case side1 => exact Sqz.mvC (HR0.out)); (case side2 => exact HC0.out); rintro e w' ⟨rfl, ⟨nd, rfl⟩⟩) | (go_at_call 107; (with_reducible refine (spec_l3Symbol.calls k (-1) (-1) a1 t320 _ A17.out).mono ?_); rintro e w' ⟨rfl, ⟨nd, rfl⟩⟩))
      go_ret
      exact ⟨Sqz.auS, by repeat (first | exact Drawn0.refl _ | apply Drawn0.step)⟩
     ·replace c15 := Bool.eq_false_iff.mpr c15; subst c15; have H1 : (some true) = some r := by rw [if_neg (show ¬ (false = true) by decide)] at H; exact H
      clear H; have H := H1; clear H1; obtain rfl := Option.some.inj H
      go_enter Try.func94, Try.ntmps94
      go_wp2_with (first | ((with_reducible refine gate_callee (f := 79) rfl ?_); refine goesL_ (some 19) rfl rfl Try.func79 (by kernel_rfl) rfl #[.slice A0 l0.length c0] rfl Sqz.auM ?_; (with_reducible refine (spec_l4Product.calls k _ _ l0 t314 _ ?side1 ?side2 A7.out).mono ?_); (case side1 => exact Sqz.mvC (HR0.out)); (case side2 => exact HC0.out); rintro e w' ⟨rfl, ⟨nd, rfl⟩⟩; refine ⟨_, rfl, ?_⟩) | ((with_reducible refine gate_callee (f := 95) rfl ?_); refine goesL_ (some 42) rfl rfl Try.func95 (by kernel_rfl) rfl #[.int .i64 t314, .int .i64 a1] rfl Sqz.auM ?_; (with_reducible refine (spec_l2Square.calls k t314 a1 false _ A14.out).mono ?_); rintro e w' ⟨rfl, ⟨nd, rfl⟩⟩; refine ⟨_, rfl, ?_⟩))
      go_ret
      exact ⟨Sqz.auS, by repeat (first | exact Drawn0.refl _ | apply Drawn0.step)⟩

/-! ### spec_l9Planes: function 77 -/
def spec_l9Planes.f (k : Nat) (l0 : List Int) (a1 : Int) : Option (Int) := if a1 = 0 then ((spec_l4Less.f k l0).bind fun t321 => ((spec_l4Less.f k l0).bind fun t322 => (some (mn t321 (wrap64 ((l0.length : Int) - t322)))))) else ((spec_l4Vanishes.f k l0 a1).bind fun t323 => (if t323 = true then (if (l0.length : Int) = 4 then ((spec_l4Product.f k l0).bind fun t324 => ((spec_l2Square.f k t324 a1).bind fun t325 => (if t325 = true then (some 2) else (some 1)))) else (some 1)) else (some 0)))
set_option maxHeartbeats 8000000 in
set_option maxRecDepth 100000 in
theorem spec_l9Planes.calls (k : Nat) (A0 : Option Addr) (c0 : Nat) (l0 : List Int) (a1 : Int) (r : Int) (w : World) (hr0 : Kd.C (Kd.int .i64) w A0 l0.length l0) (hc0 : l0.length ≤ c0) (h : spec_l9Planes.f k l0 a1 = some r) :
  Calls Try.prog 77 #[.slice A0 l0.length c0, .int .i64 a1] w fun e w' => e = .returned (.int .i64 r) ∧ Below w.heap.size w w' := by
 have HR0 := Aside0.mk hr0; have HC0 := Aside0.mk hc0; clear hr0 hc0; have HB := Aside0.mk (Below.refl w.heap.size w); have H : (if a1 = 0 then ((spec_l4Less.f k l0).bind fun t321 => ((spec_l4Less.f k l0).bind fun t322 => (some (mn t321 (wrap64 ((l0.length : Int) - t322)))))) else ((spec_l4Vanishes.f k l0 a1).bind fun t323 => (if t323 = true then (if (l0.length : Int) = 4 then ((spec_l4Product.f k l0).bind fun t324 => ((spec_l2Square.f k t324 a1).bind fun t325 => (if t325 = true then (some 2) else (some 1)))) else (some 1)) else (some 0)))) = some r := h; clear h
 by_cases c3 : a1 = 0
 ·rw [if_pos c3] at H; have c3b0 := beq_iff_eq.mpr c3; have c3b1 := bne_eq_false_iff_eq.mpr c3; clear c3; obtain ⟨t321, A4, H⟩ := Sqz.be H; obtain ⟨t322, A5, H⟩ := Sqz.be H; obtain ⟨ji6, hji6⟩ : ∃ j_ : Int, (mn t321 (wrap64 ((l0.length : Int) - t322))) = j_ := ⟨_, rfl⟩
  replace H : (some ji6) = some r := by first | (rw [hji6] at H; exact H) | (simp only [hji6] at H ⊢; exact H)
  (try rw [hji6] at A4); (try rw [hji6] at A5); have hji6_ : (if (wrap64 ((l0.length : Int) - t322)) < t321 then (wrap64 ((l0.length : Int) - t322)) else t321) = ji6 := hji6; obtain rfl := Option.some.inj H
  go_enter Try.func77, Try.ntmps77
  go_wp2_with (first | ((with_reducible refine gate_callee (f := 93) rfl ?_); refine goesL_ (some 8) rfl rfl Try.func93 (by kernel_rfl) rfl #[.slice A0 l0.length c0] rfl Sqz.auM ?_; (with_reducible refine (spec_l4Less.calls k _ _ l0 t321 _ ?side1 ?side2 A4.out).mono ?_); (case side1 => exact Sqz.mvC (HR0.out)); (case side2 => exact HC0.out); rintro e w' ⟨rfl, ⟨nd, rfl⟩⟩; refine ⟨_, rfl, ?_⟩) | ((with_reducible refine gate_callee (f := 93) rfl ?_); refine goesL_ (some 12) rfl rfl Try.func93 (by kernel_rfl) rfl #[.slice A0 l0.length c0] rfl Sqz.auM ?_; (with_reducible refine (spec_l4Less.calls k _ _ l0 t322 _ ?side1 ?side2 A5.out).mono ?_); (case side1 => exact Sqz.mvC (HR0.out)); (case side2 => exact HC0.out); rintro e w' ⟨rfl, ⟨nd, rfl⟩⟩; refine ⟨_, rfl, ?_⟩))
  go_ret
  exact ⟨by first | rfl | (simp [errW_none, errW_some] <;> rfl) | (simp only [← hji6]; first | rfl | (simp [errW_none, errW_some] <;> rfl)) | (simp [*, errW_none, errW_some] <;> rfl), Sqz.auHB⟩
 ·rw [if_neg c3] at H; have c3b0 := beq_eq_false_iff_ne.mpr c3; have c3b1 := bne_iff_ne.mpr c3; obtain ⟨t323, A7, H⟩ := Sqz.be H
  by_cases c8 : t323 = true
  ·subst c8; have H1 : (if (l0.length : Int) = 4 then ((spec_l4Product.f k l0).bind fun t324 => ((spec_l2Square.f k t324 a1).bind fun t325 => (if t325 = true then (some 2) else (some 1)))) else (some 1)) = some r := by rw [if_pos rfl] at H; exact H
   clear H; have H := H1; clear H1
   by_cases c9 : (l0.length : Int) = 4
   ·rw [if_pos c9] at H; have c9b0 := beq_iff_eq.mpr c9; have c9b1 := bne_eq_false_iff_eq.mpr c9; clear c9; obtain ⟨t324, A10, H⟩ := Sqz.be H; obtain ⟨t325, A11, H⟩ := Sqz.be H
    by_cases c12 : t325 = true
    ·subst c12; have H1 : (some 2) = some r := by rw [if_pos rfl] at H; exact H
     clear H; have H := H1; clear H1; obtain rfl := Option.some.inj H
     go_enter Try.func77, Try.ntmps77
     go_wp2_with (first | ((with_reducible refine gate_callee (f := 94) rfl ?_); refine goesL_ (some 17) rfl rfl Try.func94 (by kernel_rfl) rfl #[.slice A0 l0.length c0, .int .i64 a1] rfl Sqz.auM ?_; (with_reducible refine (spec_l4Vanishes.calls k _ _ l0 a1 true _ ?side1 ?side2 A7.out).mono ?_); (case side1 => exact Sqz.mvC (HR0.out)); (case side2 => exact HC0.out); rintro e w' ⟨rfl, ⟨nd, rfl⟩⟩; refine ⟨_, rfl, ?_⟩) | (go_at_call 79; (with_reducible refine (spec_l4Product.calls k _ _ l0 t324 _ ?side1 ?side2 A10.out).mono ?_); (case side1 => exact Sqz.mvC (HR0.out)); (case side2 => exact HC0.out); rintro e w' ⟨rfl, ⟨nd, rfl⟩⟩) | (go_at_call 95; (with_reducible refine (spec_l2Square.calls k t324 a1 true _ A11.out).mono ?_); rintro e w' ⟨rfl, ⟨nd, rfl⟩⟩))
     go_ret
     exact ⟨Sqz.auR, Sqz.auHB⟩
    ·replace c12 := Bool.eq_false_iff.mpr c12; subst c12; have H1 : (some 1) = some r := by rw [if_neg (show ¬ (false = true) by decide)] at H; exact H
     clear H; have H := H1; clear H1; obtain rfl := Option.some.inj H
     go_enter Try.func77, Try.ntmps77
     go_wp2_with (first | ((with_reducible refine gate_callee (f := 94) rfl ?_); refine goesL_ (some 17) rfl rfl Try.func94 (by kernel_rfl) rfl #[.slice A0 l0.length c0, .int .i64 a1] rfl Sqz.auM ?_; (with_reducible refine (spec_l4Vanishes.calls k _ _ l0 a1 true _ ?side1 ?side2 A7.out).mono ?_); (case side1 => exact Sqz.mvC (HR0.out)); (case side2 => exact HC0.out); rintro e w' ⟨rfl, ⟨nd, rfl⟩⟩; refine ⟨_, rfl, ?_⟩) | (go_at_call 79; (with_reducible refine (spec_l4Product.calls k _ _ l0 t324 _ ?side1 ?side2 A10.out).mono ?_); (case side1 => exact Sqz.mvC (HR0.out)); (case side2 => exact HC0.out); rintro e w' ⟨rfl, ⟨nd, rfl⟩⟩) | (go_at_call 95; (with_reducible refine (spec_l2Square.calls k t324 a1 false _ A11.out).mono ?_); rintro e w' ⟨rfl, ⟨nd, rfl⟩⟩))
     go_ret
     exact ⟨Sqz.auR, Sqz.auHB⟩
   ·rw [if_neg c9] at H; have c9b0 := beq_eq_false_iff_ne.mpr c9; have c9b1 := bne_iff_ne.mpr c9; obtain rfl := Option.some.inj H
    go_enter Try.func77, Try.ntmps77
    go_wp2_with (first | ((with_reducible refine gate_callee (f := 94) rfl ?_); refine goesL_ (some 17) rfl rfl Try.func94 (by kernel_rfl) rfl #[.slice A0 l0.length c0, .int .i64 a1] rfl Sqz.auM ?_; (with_reducible refine (spec_l4Vanishes.calls k _ _ l0 a1 true _ ?side1 ?side2 A7.out).mono ?_); (case side1 => exact Sqz.mvC (HR0.out)); (case side2 => exact HC0.out); rintro e w' ⟨rfl, ⟨nd, rfl⟩⟩; refine ⟨_, rfl, ?_⟩))
    go_ret
    exact ⟨Sqz.auR, Sqz.auHB⟩
  ·replace c8 := Bool.eq_false_iff.mpr c8; subst c8; have H1 : (some 0) = some r := by rw [if_neg (show ¬ (false = true) by decide)] at H; exact H
   clear H; have H := H1; clear H1; obtain rfl := Option.some.inj H
   go_enter Try.func77, Try.ntmps77
   go_wp2_with (first | ((with_reducible refine gate_callee (f := 94) rfl ?_); refine goesL_ (some 17) rfl rfl Try.func94 (by kernel_rfl) rfl #[.slice A0 l0.length c0, .int .i64 a1] rfl Sqz.auM ?_; (with_reducible refine (spec_l4Vanishes.calls k _ _ l0 a1 false _ ?side1 ?side2 A7.out).mono ?_); (case side1 => exact Sqz.mvC (HR0.out)); (case side2 => exact HC0.out); rintro e w' ⟨rfl, ⟨nd, rfl⟩⟩; refine ⟨_, rfl, ?_⟩))
   go_ret
   exact ⟨Sqz.auR, Sqz.auHB⟩

/-! ### spec_PlanesAll: function 48 -/
def spec_PlanesAll.l0 : Nat → List Int → List Int → Int → Int → Option (Int)
 | 0, _, _, _, _ => none
 | k + 1, x0, x3, x4, x5 => if x5 < (x3.length : Int) then (if 0 ≤ x5 then ((spec_l9Planes.f k x0 (rd x3 x5)).bind fun t331 => (spec_PlanesAll.l0 k x0 x3 (mn x4 t331) (wrap64 (x5 + 1)))) else (none)) else (some x4)
def spec_PlanesAll.f (k : Nat) (l0 : List Int) : Option (Int) := (spec_FormPlaces.f k l0).bind fun t326 => (if (t326.length : Int) = 0 then (some (-1)) else ((spec_l9Planes.f k l0 0).bind fun t329 => (spec_PlanesAll.l0 k l0 t326 t329 0)))
set_option maxHeartbeats 8000000 in
set_option maxRecDepth 100000 in
theorem spec_PlanesAll.calls (k : Nat) (A0 : Option Addr) (c0 : Nat) (l0 : List Int) (r : Int) (w : World) (hr0 : Kd.C (Kd.int .i64) w A0 l0.length l0) (hc0 : l0.length ≤ c0) (h : spec_PlanesAll.f k l0 = some r) :
  Calls Try.prog 48 #[.slice A0 l0.length c0] w fun e w' => e = .returned (.int .i64 r) ∧ Below w.heap.size w w' := by
 have HR0 := Aside0.mk hr0; have HC0 := Aside0.mk hc0; clear hr0 hc0; have HB := Aside0.mk (Below.refl w.heap.size w); have H : ((spec_FormPlaces.f k l0).bind fun t326 => (if (t326.length : Int) = 0 then (some (-1)) else ((spec_l9Planes.f k l0 0).bind fun t329 => (spec_PlanesAll.l0 k l0 t326 t329 0)))) = some r := h; clear h; obtain ⟨t326, A2, H⟩ := Sqz.be H
 by_cases c3 : (t326.length : Int) = 0
 ·rw [if_pos c3] at H; have c3b0 := beq_iff_eq.mpr c3; have c3b1 := bne_eq_false_iff_eq.mpr c3; clear c3; obtain rfl := Option.some.inj H
  go_enter Try.func48, Try.ntmps48
  go_wp2_with (first | ((with_reducible refine gate_callee (f := 76) rfl ?_); refine goesL_ (some 7) rfl rfl Try.func76 (by kernel_rfl) rfl #[.slice A0 l0.length c0] rfl Sqz.auM ?_; (with_reducible refine (spec_FormPlaces.calls k _ _ l0 t326 _ ?side1 ?side2 A2.out).mono ?_); (case side1 => exact Sqz.mvC (HR0.out)); (case side2 => exact HC0.out); rintro e w4 ⟨v327, rfl, ho0, hb⟩; refine ⟨_, rfl, ?_⟩; have HO328 := Aside0.mk (Kd.R_lower ho0 (below_size (Sqz.auHB))); replace HB := Aside0.mk (below_step (Sqz.auHB) hb); (try clear hb); (try clear ho0); obtain ⟨Ao5, co5, eo5⟩ := Kd.R_slice HO328.out; subst eo5))
  go_ret
  exact ⟨Sqz.auR, Sqz.auHB⟩
 ·rw [if_neg c3] at H; have c3b0 := beq_eq_false_iff_ne.mpr c3; have c3b1 := bne_iff_ne.mpr c3; have c3b2 : ¬ (t326 = []) := fun h_ => c3 (by rw [h_]; rfl)
  obtain ⟨t329, A6, H⟩ := Sqz.be H; have H' := Aside0.mk H; clear H
  go_enter Try.func48, Try.ntmps48
  go_wp2_with (first | ((with_reducible refine gate_callee (f := 76) rfl ?_); refine goesL_ (some 7) rfl rfl Try.func76 (by kernel_rfl) rfl #[.slice A0 l0.length c0] rfl Sqz.auM ?_; (with_reducible refine (spec_FormPlaces.calls k _ _ l0 t326 _ ?side1 ?side2 A2.out).mono ?_); (case side1 => exact Sqz.mvC (HR0.out)); (case side2 => exact HC0.out); rintro e w7 ⟨v327, rfl, ho0, hb⟩; refine ⟨_, rfl, ?_⟩; have HO328 := Aside0.mk (Kd.R_lower ho0 (below_size (Sqz.auHB))); replace HB := Aside0.mk (below_step (Sqz.auHB) hb); (try clear hb); (try clear ho0); obtain ⟨Ao8, co8, eo8⟩ := Kd.R_slice HO328.out; subst eo8) | ((with_reducible refine gate_callee (f := 77) rfl ?_); refine goesL_ (some 12) rfl rfl Try.func77 (by kernel_rfl) rfl #[.slice A0 l0.length c0, .int .i64 0] rfl Sqz.auM ?_; (with_reducible refine (spec_l9Planes.calls k _ _ l0 0 t329 _ ?side1 ?side2 A6.out).mono ?_); (case side1 => exact Sqz.mvC ((Kd.C_below HR0.out HB.out))); (case side2 => exact HC0.out); rintro e w9 ⟨rfl, hb⟩; refine ⟨_, rfl, ?_⟩; replace HO328 := Aside0.mk (Kd.R_below ((Sqz.mvR HO328.out)) hb); replace HB := Aside0.mk (below_step (Sqz.auHB) hb); (try clear hb)))
  go_loopg [4, 5] k (fun kq v4 v5 w' => ∃ (x4_1 : Int) (x5_1 : Int), v4 = .int .i64 x4_1 ∧ v5 = .int .i64 x5_1 ∧ Aside0 (spec_PlanesAll.l0 kq l0 t326 x4_1 x5_1 = some r) ∧ Aside0 (kq ≤ k) ∧ Aside0 (Kd.R (Kd.int .i64) 3 w' w.heap.size (fun _ => True) (.slice Ao8 t326.length co8) t326) ∧ Aside0 (Below w.heap.size w w'))
  case atStart => exact ⟨(t329), (0), Sqz.auS, Sqz.auS, H', ⟨Nat.le_refl _⟩, ⟨(Sqz.mvR HO328.out)⟩, ⟨Sqz.auHB⟩⟩
  case round =>
   clear H'
   try clear p2
   try clear c3
   try clear c3b0
   try clear c3b1
   try clear c3b2
   try clear c4
   try clear c7
   obtain ⟨x4_1, x5_1, rfl, rfl, HA, HK1, HO_3, HB⟩ := hrel; cases gk with
   | zero => exact absurd HA.out (by simp [spec_PlanesAll.l0])
   | succ k1 =>
    have H := HA.out; clear HA; simp only [spec_PlanesAll.l0] at H
    by_cases c10 : x5_1 < (t326.length : Int)
    ·rw [if_pos c10] at H; have c10b0 := decide_eq_true c10; clear c10
     by_cases c11 : 0 ≤ x5_1
     ·rw [if_pos c11] at H; have c11b0 := decide_eq_true c11; clear c11; obtain ⟨t331, A12, H⟩ := Sqz.be H; obtain ⟨ji13, hji13⟩ : ∃ j_ : Int, (mn x4_1 t331) = j_ := ⟨_, rfl⟩
      replace H : (spec_PlanesAll.l0 k1 l0 t326 ji13 (wrap64 (x5_1 + 1))) = some r := by first | (rw [hji13] at H; exact H) | (simp only [hji13] at H ⊢; exact H)
      (try rw [hji13] at A12); have hji13_ : (if t331 < x4_1 then t331 else x4_1) = ji13 := hji13; have H' := Aside0.mk H; clear H; have p330 : 0 ≤ (x5_1 : Int) := Sqz.od; have q330 : x5_1 < (t326.length : Int) := Sqz.od; obtain ⟨ad330, e330, hx330_0⟩ := Kd.at_int (Kd.R_reads' HO_3.out).2.2 x5_1 p330 q330; cases e330; replace p330 := eq_true p330; replace q330 := eq_true q330
      go_wp2_with (first | ((with_reducible refine gate_callee (f := 77) rfl ?_); refine goesL_ (some 25) rfl rfl Try.func77 (by kernel_rfl) rfl #[.slice A0 l0.length c0, .int .i64 (rd t326 x5_1)] rfl Sqz.auM ?_; (with_reducible refine (spec_l9Planes.calls k1 _ _ l0 (rd t326 x5_1) t331 _ ?side1 ?side2 A12.out).mono ?_); (case side1 => exact Sqz.mvC ((Kd.C_below HR0.out HB.out))); (case side2 => exact HC0.out); rintro e w14 ⟨rfl, hb⟩; refine ⟨_, rfl, ?_⟩; replace HO_3 := Aside0.mk (Kd.R_below ((Sqz.mvR HO_3.out)) hb); replace HB := Aside0.mk (below_step (Sqz.auHB) hb); (try clear hb)))
      go_roundg k1
      case measure => have := HK1.out; omega
      case rel => exact ⟨(ji13), (wrap64 (x5_1 + 1)), (by first | rfl | (simp; done) | (simp only [← hji13] <;> (first | rfl | simp)) | (simp [*]; done)), Sqz.auS, H', ⟨by have := HK1.out; omega⟩, ⟨(Sqz.mvR HO_3.out)⟩, ⟨Sqz.auHB⟩⟩
     ·rw [if_neg c11] at H; exact absurd H (by simp)
    ·rw [if_neg c10] at H; have c10b0 := decide_eq_false c10; clear c10; obtain rfl := Option.some.inj H; go_wp2; go_ret
     exact ⟨Sqz.auR, Sqz.auHB⟩

/-! ### spec_l1Core: function 78 -/
mutual
def spec_l1Core.l0 : Nat → Int → Int → Int → Option (Int × Int)
 | 0, _, _, _ => none
 | k + 1, x0, x4, x5 => (spec_l1Size.f x0).bind fun t332 => (if (wrap64 (x5 * x5)) ≤ t332 then (spec_l1Core.l1 k x0 x4 x5) else (some (x0, x4)))
def spec_l1Core.l1 : Nat → Int → Int → Int → Option (Int × Int)
 | 0, _, _, _ => none
 | k + 1, x0, x4, x5 => if (wrap64 (x5 * x5)) = 0 then (none) else (if (Int.tmod x0 (wrap64 (x5 * x5))) = 0 then (spec_l1Core.l1 k (wrap64 (Int.tdiv x0 (wrap64 (x5 * x5)))) (wrap64 (x4 * x5)) x5) else (spec_l1Core.l0 k x0 x4 (wrap64 (x5 + 1))))
end
def spec_l1Core.f (k : Nat) (a0 : Int) : Option (Int × Int) := spec_l1Core.l0 k a0 1 2
set_option maxHeartbeats 8000000 in
set_option maxRecDepth 100000 in
theorem spec_l1Core.calls (k : Nat) (a0 : Int) (r1 : Int) (r2 : Int) (w : World) (h : spec_l1Core.f k a0 = some (r1, r2)) :
  Calls Try.prog 78 #[.int .i64 a0] w fun e w' => e = .returned (.tuple #[.int .i64 r1, .int .i64 r2]) ∧ Below w.heap.size w w' := by
 have HB := Aside0.mk (Below.refl w.heap.size w); have H : (spec_l1Core.l0 k a0 1 2) = some (r1, r2) := h; clear h; have H' := Aside0.mk H; clear H
 go_enter Try.func78, Try.ntmps78
 go_wp2
 go_loopg [0, 4, 5] k (fun kq v0 v4 v5 w' => ∃ (x0_1 : Int) (x4_1 : Int) (x5_1 : Int), v0 = .int .i64 x0_1 ∧ v4 = .int .i64 x4_1 ∧ v5 = .int .i64 x5_1 ∧ Aside0 (spec_l1Core.l0 kq x0_1 x4_1 x5_1 = some (r1, r2)) ∧ Aside0 (kq ≤ k) ∧ Aside0 (Below w.heap.size w w'))
 case atStart => exact ⟨(a0), (1), (2), Sqz.auS, Sqz.auS, Sqz.auS, H', ⟨Nat.le_refl _⟩, ⟨Sqz.auHB⟩⟩
 case round =>
  clear H'; obtain ⟨x0_1, x4_1, x5_1, rfl, rfl, rfl, HA, HK1, HB⟩ := hrel; cases gk with
  | zero => exact absurd HA.out (by simp [spec_l1Core.l0])
  | succ k1 =>
   have H := HA.out; clear HA; simp only [spec_l1Core.l0] at H; obtain ⟨t332, A2, H⟩ := Sqz.be H
   by_cases c3 : (wrap64 (x5_1 * x5_1)) ≤ t332
   ·rw [if_pos c3] at H; have c3b0 := decide_eq_true c3; clear c3; have H' := Aside0.mk H; clear H
    go_wp2_with (first | ((with_reducible refine gate_callee (f := 49) rfl ?_); refine goesL_ (some 10) rfl rfl Try.func49 (by kernel_rfl) rfl #[.int .i64 x0_1] rfl Sqz.auM ?_; (with_reducible refine (spec_l1Size.calls x0_1 t332 _ A2.out).mono ?_); rintro e w4 ⟨rfl, hb⟩; refine ⟨_, rfl, ?_⟩; replace HB := Aside0.mk (below_step (Sqz.auHB) hb); (try clear hb)))
    go_loopg [0, 4] k1 (fun kq v0 v4 w' => ∃ (x0_2 : Int) (x4_2 : Int), v0 = .int .i64 x0_2 ∧ v4 = .int .i64 x4_2 ∧ Aside0 (spec_l1Core.l1 kq x0_2 x4_2 x5_1 = some (r1, r2)) ∧ Aside0 (kq ≤ k1) ∧ Aside0 (Below w.heap.size w w'))
    case atStart => exact ⟨(x0_1), (x4_1), Sqz.auS, Sqz.auS, H', ⟨Nat.le_refl _⟩, ⟨Sqz.auHB⟩⟩
    case round =>
     clear H'
     try clear p2
     try clear c3
     try clear c3b0
     try clear c4
     obtain ⟨x0_2, x4_2, rfl, rfl, HA, HK2, HB⟩ := hrel; cases gk with
     | zero => exact absurd HA.out (by simp [spec_l1Core.l1])
     | succ k2 =>
      have H := HA.out; clear HA; simp only [spec_l1Core.l1] at H
      by_cases c5 : (wrap64 (x5_1 * x5_1)) = 0
      ·rw [if_pos c5] at H; exact absurd H (by simp)
      ·rw [if_neg c5] at H; have c5b0 := beq_eq_false_iff_ne.mpr c5; have c5b1 := bne_iff_ne.mpr c5
       by_cases c6 : (Int.tmod x0_2 (wrap64 (x5_1 * x5_1))) = 0
       ·rw [if_pos c6] at H; have c6b0 := beq_iff_eq.mpr c6; have c6b1 := bne_eq_false_iff_eq.mpr c6; clear c6; have H' := Aside0.mk H; clear H; go_wp2
        go_roundg k2
        case measure => have := HK1.out; have := HK2.out; omega
        case rel => exact ⟨(wrap64 (Int.tdiv x0_2 (wrap64 (x5_1 * x5_1)))), (wrap64 (x4_2 * x5_1)), Sqz.auS, Sqz.auS, H', ⟨by have := HK1.out; have := HK2.out; omega⟩, ⟨Sqz.auHB⟩⟩
       ·rw [if_neg c6] at H; have c6b0 := beq_eq_false_iff_ne.mpr c6; have c6b1 := bne_iff_ne.mpr c6; have H' := Aside0.mk H; clear H; go_wp2
        go_roundg k2
        case measure => have := HK1.out; have := HK2.out; omega
        case rel => exact ⟨(x0_2), (x4_2), (wrap64 (x5_1 + 1)), Sqz.auS, Sqz.auS, Sqz.auS, H', ⟨by have := HK1.out; have := HK2.out; omega⟩, ⟨Sqz.auHB⟩⟩
   ·rw [if_neg c3] at H; have c3b0 := decide_eq_false c3; clear c3; simp only [Option.some.injEq, Prod.mk.injEq] at H; obtain ⟨rfl, rfl⟩ := H
    go_wp2_with (first | ((with_reducible refine gate_callee (f := 49) rfl ?_); refine goesL_ (some 10) rfl rfl Try.func49 (by kernel_rfl) rfl #[.int .i64 x0_1] rfl Sqz.auM ?_; (with_reducible refine (spec_l1Size.calls x0_1 t332 _ A2.out).mono ?_); rintro e w7 ⟨rfl, hb⟩; refine ⟨_, rfl, ?_⟩; replace HB := Aside0.mk (below_step (Sqz.auHB) hb); (try clear hb)))
    go_ret2
    exact ⟨Sqz.auR, Sqz.auHB⟩

/-! ### spec_FormDisc: function 50 -/
def spec_FormDisc.f (k : Nat) (l0 : List Int) : Option (Int) := (spec_FormValid.f k l0).bind fun t333 => (if t333 = true then ((spec_l4Product.f k l0).bind fun t334 => ((spec_l1Core.f k t334).bind fun bt335 => (some bt335.1))) else (some 0))
set_option maxHeartbeats 8000000 in
set_option maxRecDepth 100000 in
theorem spec_FormDisc.calls (k : Nat) (A0 : Option Addr) (c0 : Nat) (l0 : List Int) (r : Int) (w : World) (hr0 : Kd.C (Kd.int .i64) w A0 l0.length l0) (hc0 : l0.length ≤ c0) (h : spec_FormDisc.f k l0 = some r) :
  Calls Try.prog 50 #[.slice A0 l0.length c0] w fun e w' => e = .returned (.int .i64 r) ∧ Below w.heap.size w w' := by
 have HR0 := Aside0.mk hr0; have HC0 := Aside0.mk hc0; clear hr0 hc0; have HB := Aside0.mk (Below.refl w.heap.size w); have H : ((spec_FormValid.f k l0).bind fun t333 => (if t333 = true then ((spec_l4Product.f k l0).bind fun t334 => ((spec_l1Core.f k t334).bind fun bt335 => (some bt335.1))) else (some 0))) = some r := h; clear h; obtain ⟨t333, A2, H⟩ := Sqz.be H
 by_cases c3 : t333 = true
 ·subst c3; have H1 : ((spec_l4Product.f k l0).bind fun t334 => ((spec_l1Core.f k t334).bind fun bt335 => (some bt335.1))) = some r := by rw [if_pos rfl] at H; exact H
  clear H; have H := H1; clear H1; obtain ⟨t334, A4, H⟩ := Sqz.be H; replace H := Option.bind_eq_some_iff.mp H; obtain ⟨⟨t335, t336⟩, A50, H⟩ := H; replace H : (some t335) = some r := H; have A5 := Aside0.mk A50; clear A50; obtain rfl := Option.some.inj H
  go_enter Try.func50, Try.ntmps50
  go_wp2_with (first | ((with_reducible refine gate_callee (f := 72) rfl ?_); refine goesL_ (some 6) rfl rfl Try.func72 (by kernel_rfl) rfl #[.slice A0 l0.length c0] rfl Sqz.auM ?_; (with_reducible refine (spec_FormValid.calls k _ _ l0 true _ ?side1 ?side2 A2.out).mono ?_); (case side1 => exact Sqz.mvC (HR0.out)); (case side2 => exact HC0.out); rintro e w' ⟨rfl, ⟨nd, rfl⟩⟩; refine ⟨_, rfl, ?_⟩) | ((with_reducible refine gate_callee (f := 79) rfl ?_); refine goesL_ (some 10) rfl rfl Try.func79 (by kernel_rfl) rfl #[.slice A0 l0.length c0] rfl Sqz.auM ?_; (with_reducible refine (spec_l4Product.calls k _ _ l0 t334 _ ?side1 ?side2 A4.out).mono ?_); (case side1 => exact Sqz.mvC (HR0.out)); (case side2 => exact HC0.out); rintro e w' ⟨rfl, ⟨nd, rfl⟩⟩; refine ⟨_, rfl, ?_⟩) | ((with_reducible refine gate_callee (f := 78) rfl ?_); refine goesL_ (some 11) rfl rfl Try.func78 (by kernel_rfl) rfl #[.int .i64 t334] rfl Sqz.auM ?_; (with_reducible refine (spec_l1Core.calls k t334 t335 t336 _ A5.out).mono ?_); rintro e w6 ⟨rfl, hb⟩; refine ⟨_, rfl, ?_⟩; replace HB := Aside0.mk (below_step (Sqz.auHB) hb); (try clear hb)))
  go_ret
  exact ⟨Sqz.auR, Sqz.auHB⟩
 ·replace c3 := Bool.eq_false_iff.mpr c3; subst c3; have H1 : (some 0) = some r := by rw [if_neg (show ¬ (false = true) by decide)] at H; exact H
  clear H; have H := H1; clear H1; obtain rfl := Option.some.inj H
  go_enter Try.func50, Try.ntmps50
  go_wp2_with (first | ((with_reducible refine gate_callee (f := 72) rfl ?_); refine goesL_ (some 6) rfl rfl Try.func72 (by kernel_rfl) rfl #[.slice A0 l0.length c0] rfl Sqz.auM ?_; (with_reducible refine (spec_FormValid.calls k _ _ l0 false _ ?side1 ?side2 A2.out).mono ?_); (case side1 => exact Sqz.mvC (HR0.out)); (case side2 => exact HC0.out); rintro e w' ⟨rfl, ⟨nd, rfl⟩⟩; refine ⟨_, rfl, ?_⟩))
  go_ret
  exact ⟨Sqz.auR, Sqz.auHB⟩

/-! ### spec_PlanesRest: function 28 -/
def spec_PlanesRest.f (k : Nat) (l0 : List Int) : Option (Int × Bool) := if (l0.length : Int) = 3 then ((spec_PlanesAll.f k l0).bind fun t337 => (if t337 < 1 then (some (0, false)) else ((spec_FormDisc.f k l0).bind fun t338 => ((spec_l1Size.f t338).bind fun t339 => (if t339 > 30 then (some (0, false)) else ((spec_FormDisc.f k l0).bind fun t340 => (some (wrap64 (-t340), true)))))))) else (some (0, false))
set_option maxHeartbeats 8000000 in
set_option maxRecDepth 100000 in
theorem spec_PlanesRest.calls (k : Nat) (A0 : Option Addr) (c0 : Nat) (l0 : List Int) (r1 : Int) (r2 : Bool) (w : World) (hr0 : Kd.C (Kd.int .i64) w A0 l0.length l0) (hc0 : l0.length ≤ c0) (h : spec_PlanesRest.f k l0 = some (r1, r2)) :
  Calls Try.prog 28 #[.slice A0 l0.length c0] w fun e w' => e = .returned (.tuple #[.int .i64 r1, .bool r2]) ∧ Below w.heap.size w w' := by
 have HR0 := Aside0.mk hr0; have HC0 := Aside0.mk hc0; clear hr0 hc0; have HB := Aside0.mk (Below.refl w.heap.size w); have H : (if (l0.length : Int) = 3 then ((spec_PlanesAll.f k l0).bind fun t337 => (if t337 < 1 then (some (0, false)) else ((spec_FormDisc.f k l0).bind fun t338 => ((spec_l1Size.f t338).bind fun t339 => (if t339 > 30 then (some (0, false)) else ((spec_FormDisc.f k l0).bind fun t340 => (some (wrap64 (-t340), true)))))))) else (some (0, false))) = some (r1, r2) := h; clear h
 by_cases c2 : (l0.length : Int) = 3
 ·rw [if_pos c2] at H; have c2b0 := beq_iff_eq.mpr c2; have c2b1 := bne_eq_false_iff_eq.mpr c2; clear c2; obtain ⟨t337, A3, H⟩ := Sqz.be H
  by_cases c4 : t337 < 1
  ·rw [if_pos c4] at H; have c4b0 := decide_eq_true c4; clear c4; simp only [Option.some.injEq, Prod.mk.injEq] at H; obtain ⟨rfl, rfl⟩ := H
   go_enter Try.func28, Try.ntmps28
   go_wp2_with (first | (go_at_call 48; (with_reducible refine (spec_PlanesAll.calls k _ _ l0 t337 _ ?side1 ?side2 A3.out).mono ?_); (case side1 => exact Sqz.mvC (HR0.out)); (case side2 => exact HC0.out); rintro e w5 ⟨rfl, hb⟩; replace HB := Aside0.mk (below_step (Sqz.auHB) hb); (try clear hb)))
   go_ret2
   exact ⟨Sqz.auR, Sqz.auHB⟩
  ·rw [if_neg c4] at H; have c4b0 := decide_eq_false c4; clear c4; obtain ⟨t338, A6, H⟩ := Sqz.be H; obtain ⟨t339, A7, H⟩ := Sqz.be H
   by_cases c8 : t339 > 30
   ·rw [if_pos c8] at H; have c8b0 : decide (30 < t339) = true := decide_eq_true c8; clear c8; simp only [Option.some.injEq, Prod.mk.injEq] at H; obtain ⟨rfl, rfl⟩ := H
    go_enter Try.func28, Try.ntmps28
    go_wp2_with (first | (go_at_call 48; (with_reducible refine (spec_PlanesAll.calls k _ _ l0 t337 _ ?side1 ?side2 A3.out).mono ?_); (case side1 => exact Sqz.mvC (HR0.out)); (case side2 => exact HC0.out); rintro e w9 ⟨rfl, hb⟩; replace HB := Aside0.mk (below_step (Sqz.auHB) hb); (try clear hb)) | (go_at_call 50; (with_reducible refine (spec_FormDisc.calls k _ _ l0 t338 _ ?side1 ?side2 A6.out).mono ?_); (case side1 => exact Sqz.mvC ((Kd.C_below HR0.out HB.out))); (case side2 => exact HC0.out); rintro e w10 ⟨rfl, hb⟩; replace HB := Aside0.mk (below_step (Sqz.auHB) hb); (try clear hb)) | (go_at_call 49; (with_reducible refine (spec_l1Size.calls t338 t339 _ A7.out).mono ?_); rintro e w11 ⟨rfl, hb⟩; replace HB := Aside0.mk (below_step (Sqz.auHB) hb); (try clear hb)))
    go_ret2
    exact ⟨Sqz.auR, Sqz.auHB⟩
   ·rw [if_neg c8] at H; have c8b0 : decide (30 < t339) = false := decide_eq_false c8; clear c8; obtain ⟨t340, A12, H⟩ := Sqz.be H; simp only [Option.some.injEq, Prod.mk.injEq] at H; obtain ⟨rfl, rfl⟩ := H
    go_enter Try.func28, Try.ntmps28
    go_wp2_with (first | (go_at_call 48; (with_reducible refine (spec_PlanesAll.calls k _ _ l0 t337 _ ?side1 ?side2 A3.out).mono ?_); (case side1 => exact Sqz.mvC (HR0.out)); (case side2 => exact HC0.out); rintro e w13 ⟨rfl, hb⟩; replace HB := Aside0.mk (below_step (Sqz.auHB) hb); (try clear hb)) | (go_at_call 50; (with_reducible refine (spec_FormDisc.calls k _ _ l0 t338 _ ?side1 ?side2 A6.out).mono ?_); (case side1 => exact Sqz.mvC ((Kd.C_below HR0.out HB.out))); (case side2 => exact HC0.out); rintro e w14 ⟨rfl, hb⟩; replace HB := Aside0.mk (below_step (Sqz.auHB) hb); (try clear hb)) | (go_at_call 49; (with_reducible refine (spec_l1Size.calls t338 t339 _ A7.out).mono ?_); rintro e w15 ⟨rfl, hb⟩; replace HB := Aside0.mk (below_step (Sqz.auHB) hb); (try clear hb)) | ((with_reducible refine gate_callee (f := 50) rfl ?_); refine goesL_ (some 19) rfl rfl Try.func50 (by kernel_rfl) rfl #[.slice A0 l0.length c0] rfl Sqz.auM ?_; (with_reducible refine (spec_FormDisc.calls k _ _ l0 t340 _ ?side1 ?side2 A12.out).mono ?_); (case side1 => exact Sqz.mvC ((Kd.C_below HR0.out HB.out))); (case side2 => exact HC0.out); rintro e w16 ⟨rfl, hb⟩; refine ⟨_, rfl, ?_⟩; replace HB := Aside0.mk (below_step (Sqz.auHB) hb); (try clear hb)))
    go_ret2
    exact ⟨Sqz.auR, Sqz.auHB⟩
 ·rw [if_neg c2] at H; have c2b0 := beq_eq_false_iff_ne.mpr c2; have c2b1 := bne_iff_ne.mpr c2; simp only [Option.some.injEq, Prod.mk.injEq] at H; obtain ⟨rfl, rfl⟩ := H
  go_enter Try.func28, Try.ntmps28
  go_wp2; go_ret2
  exact ⟨Sqz.auR, Sqz.auHB⟩

end Go.Proofs.Ytnnpafjgghpecaa.PFnRest
