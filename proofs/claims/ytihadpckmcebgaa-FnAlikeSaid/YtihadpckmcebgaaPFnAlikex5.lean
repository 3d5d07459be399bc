/- A function's Lean twin and its walk, written by a program of this session. -/
import Derived.Test.YtihadpckmcebgaaPFnAlikex0
import Derived.Test.YtihadpckmcebgaaPFnAlikex1
import Derived.Test.YtihadpckmcebgaaPFnAlikex2
import Derived.Test.YtihadpckmcebgaaPFnAlikex4
namespace Go.Proofs.Ytihadpckmcebgaa.PFnAlike
open Go.RowKit Go.Proofs.YtihadpckmcebgaaW.PrintWords Go.Proofs.YtihadpckmcebgaaW.PrintLast Go.Proofs.YtihadpckmcebgaaW.PrintMore
attribute [local go_sem] max2_int min2_int max_two min_two max_three min_three max_four min_four   -- for this text's walks alone
set_option linter.unusedVariables false
set_option linter.unusedSimpArgs false

/-! ### spec_l3Symbol: function 150 -/
def spec_l3Symbol.f (k : Nat) (a0 : Int) (a1 : Int) (a2 : Int) : Option (Int) := if a2 = 0 then (if a0 < 0 then (if a1 < 0 then (some (-1)) else (some 1)) else (some 1)) else ((spec_l1Valuation.f k a0 a2).bind fun bt283 => ((spec_l1Valuation.f k a1 a2).bind fun bt285 => (if a2 = 2 then ((spec_l1Mod.f bt283.2 16).bind fun t287 => ((spec_l1Mod.f bt285.2 16).bind fun t288 => ((spec_l3Half.f (wrap64 ((wrap64 ((wrap64 ((wrap64 (Int.tdiv (wrap64 (t287 - 1)) 2)) * (wrap64 (Int.tdiv (wrap64 (t288 - 1)) 2)))) + (wrap64 (bt283.1 * (wrap64 (Int.tdiv (wrap64 ((wrap64 (t288 * t288)) - 1)) 8)))))) + (wrap64 (bt285.1 * (wrap64 (Int.tdiv (wrap64 ((wrap64 (t287 * t287)) - 1)) 8))))))).bind fun t289 => (some t289)))) else ((spec_l3Half.f (wrap64 ((wrap64 (bt283.1 * bt285.1)) * (wrap64 (Int.tdiv (wrap64 (a2 - 1)) 2))))).bind fun t290 => (if (Int.tmod bt285.1 2) = 1 then ((spec_l1Residue.f k bt283.2 a2).bind fun t291 => (if (Int.tmod bt283.1 2) = 1 then ((spec_l1Residue.f k bt285.2 a2).bind fun t292 => (some (wrap64 ((wrap64 (t290 * t291)) * t292)))) else (some (wrap64 (t290 * t291))))) else (if (Int.tmod bt283.1 2) = 1 then ((spec_l1Residue.f k bt285.2 a2).bind fun t293 => (some (wrap64 (t290 * t293)))) else (some t290)))))))
set_option maxHeartbeats 8000000 in
set_option maxRecDepth 100000 in
theorem spec_l3Symbol.calls (k : Nat) (a0 : Int) (a1 : Int) (a2 : Int) (r : Int) (w : World) (h : spec_l3Symbol.f k a0 a1 a2 = some r) :
    Calls Try.prog 150 #[.int .i64 a0, .int .i64 a1, .int .i64 a2] w fun e w' => e = .returned (.int .i64 r) ∧ Drawn0 w w' := by
  have H : (if a2 = 0 then (if a0 < 0 then (if a1 < 0 then (some (-1)) else (some 1)) else (some 1)) else ((spec_l1Valuation.f k a0 a2).bind fun bt283 => ((spec_l1Valuation.f k a1 a2).bind fun bt285 => (if a2 = 2 then ((spec_l1Mod.f bt283.2 16).bind fun t287 => ((spec_l1Mod.f bt285.2 16).bind fun t288 => ((spec_l3Half.f (wrap64 ((wrap64 ((wrap64 ((wrap64 (Int.tdiv (wrap64 (t287 - 1)) 2)) * (wrap64 (Int.tdiv (wrap64 (t288 - 1)) 2)))) + (wrap64 (bt283.1 * (wrap64 (Int.tdiv (wrap64 ((wrap64 (t288 * t288)) - 1)) 8)))))) + (wrap64 (bt285.1 * (wrap64 (Int.tdiv (wrap64 ((wrap64 (t287 * t287)) - 1)) 8))))))).bind fun t289 => (some t289)))) else ((spec_l3Half.f (wrap64 ((wrap64 (bt283.1 * bt285.1)) * (wrap64 (Int.tdiv (wrap64 (a2 - 1)) 2))))).bind fun t290 => (if (Int.tmod bt285.1 2) = 1 then ((spec_l1Residue.f k bt283.2 a2).bind fun t291 => (if (Int.tmod bt283.1 2) = 1 then ((spec_l1Residue.f k bt285.2 a2).bind fun t292 => (some (wrap64 ((wrap64 (t290 * t291)) * t292)))) else (some (wrap64 (t290 * t291))))) else (if (Int.tmod bt283.1 2) = 1 then ((spec_l1Residue.f k bt285.2 a2).bind fun t293 => (some (wrap64 (t290 * t293)))) else (some t290)))))))) = some r := h
  clear h
  by_cases c4 : a2 = 0
  · rw [if_pos c4] at H
    have c4b0 : (a2 == 0) = true := beq_iff_eq.mpr c4
    have c4b1 : (a2 != 0) = false := bne_eq_false_iff_eq.mpr c4
    clear c4
    by_cases c5 : a0 < 0
    · rw [if_pos c5] at H
      have c5b0 : decide (a0 < 0) = true := decide_eq_true c5
      clear c5
      by_cases c6 : a1 < 0
      · rw [if_pos c6] at H
        have c6b0 : decide (a1 < 0) = true := decide_eq_true c6
        clear c6
        obtain rfl := Option.some.inj H
        go_enter Try.func150, Try.ntmps150
        go_wp2
        go_ret
        exact ⟨Sqz.auS, by repeat (first | exact Drawn0.refl _ | apply Drawn0.step)⟩
      · rw [if_neg c6] at H
        have c6b0 : decide (a1 < 0) = false := decide_eq_false c6
        clear c6
        obtain rfl := Option.some.inj H
        go_enter Try.func150, Try.ntmps150
        go_wp2
        go_ret
        exact ⟨Sqz.auS, by repeat (first | exact Drawn0.refl _ | apply Drawn0.step)⟩
    · rw [if_neg c5] at H
      have c5b0 : decide (a0 < 0) = false := decide_eq_false c5
      clear c5
      obtain rfl := Option.some.inj H
      go_enter Try.func150, Try.ntmps150
      go_wp2
      go_ret
      exact ⟨Sqz.auS, by repeat (first | exact Drawn0.refl _ | apply Drawn0.step)⟩
  · rw [if_neg c4] at H
    have c4b0 : (a2 == 0) = false := beq_eq_false_iff_ne.mpr c4
    have c4b1 : (a2 != 0) = true := bne_iff_ne.mpr c4
    replace H := Option.bind_eq_some_iff.mp H
    obtain ⟨⟨t283, t284⟩, A70, H⟩ := H
    replace H : ((spec_l1Valuation.f k a1 a2).bind fun bt285 => (if a2 = 2 then ((spec_l1Mod.f t284 16).bind fun t287 => ((spec_l1Mod.f bt285.2 16).bind fun t288 => ((spec_l3Half.f (wrap64 ((wrap64 ((wrap64 ((wrap64 (Int.tdiv (wrap64 (t287 - 1)) 2)) * (wrap64 (Int.tdiv (wrap64 (t288 - 1)) 2)))) + (wrap64 (t283 * (wrap64 (Int.tdiv (wrap64 ((wrap64 (t288 * t288)) - 1)) 8)))))) + (wrap64 (bt285.1 * (wrap64 (Int.tdiv (wrap64 ((wrap64 (t287 * t287)) - 1)) 8))))))).bind fun t289 => (some t289)))) else ((spec_l3Half.f (wrap64 ((wrap64 (t283 * bt285.1)) * (wrap64 (Int.tdiv (wrap64 (a2 - 1)) 2))))).bind fun t290 => (if (Int.tmod bt285.1 2) = 1 then ((spec_l1Residue.f k t284 a2).bind fun t291 => (if (Int.tmod t283 2) = 1 then ((spec_l1Residue.f k bt285.2 a2).bind fun t292 => (some (wrap64 ((wrap64 (t290 * t291)) * t292)))) else (some (wrap64 (t290 * t291))))) else (if (Int.tmod t283 2) = 1 then ((spec_l1Residue.f k bt285.2 a2).bind fun t293 => (some (wrap64 (t290 * t293)))) else (some t290)))))) = some r := H
    have A7 := Aside0.mk A70
    clear A70
    replace H := Option.bind_eq_some_iff.mp H
    obtain ⟨⟨t285, t286⟩, A80, H⟩ := H
    replace H : (if a2 = 2 then ((spec_l1Mod.f t284 16).bind fun t287 => ((spec_l1Mod.f t286 16).bind fun t288 => ((spec_l3Half.f (wrap64 ((wrap64 ((wrap64 ((wrap64 (Int.tdiv (wrap64 (t287 - 1)) 2)) * (wrap64 (Int.tdiv (wrap64 (t288 - 1)) 2)))) + (wrap64 (t283 * (wrap64 (Int.tdiv (wrap64 ((wrap64 (t288 * t288)) - 1)) 8)))))) + (wrap64 (t285 * (wrap64 (Int.tdiv (wrap64 ((wrap64 (t287 * t287)) - 1)) 8))))))).bind fun t289 => (some t289)))) else ((spec_l3Half.f (wrap64 ((wrap64 (t283 * t285)) * (wrap64 (Int.tdiv (wrap64 (a2 - 1)) 2))))).bind fun t290 => (if (Int.tmod t285 2) = 1 then ((spec_l1Residue.f k t284 a2).bind fun t291 => (if (Int.tmod t283 2) = 1 then ((spec_l1Residue.f k t286 a2).bind fun t292 => (some (wrap64 ((wrap64 (t290 * t291)) * t292)))) else (some (wrap64 (t290 * t291))))) else (if (Int.tmod t283 2) = 1 then ((spec_l1Residue.f k t286 a2).bind fun t293 => (some (wrap64 (t290 * t293)))) else (some t290))))) = some r := H
    have A8 := Aside0.mk A80
    clear A80
    by_cases c9 : a2 = 2
    · rw [if_pos c9] at H
      have c9b0 : (a2 == 2) = true := beq_iff_eq.mpr c9
      have c9b1 : (a2 != 2) = false := bne_eq_false_iff_eq.mpr c9
      clear c9
      replace H := Option.bind_eq_some_iff.mp H
      obtain ⟨t287, A100, H⟩ := H
      replace H : ((spec_l1Mod.f t286 16).bind fun t288 => ((spec_l3Half.f (wrap64 ((wrap64 ((wrap64 ((wrap64 (Int.tdiv (wrap64 (t287 - 1)) 2)) * (wrap64 (Int.tdiv (wrap64 (t288 - 1)) 2)))) + (wrap64 (t283 * (wrap64 (Int.tdiv (wrap64 ((wrap64 (t288 * t288)) - 1)) 8)))))) + (wrap64 (t285 * (wrap64 (Int.tdiv (wrap64 ((wrap64 (t287 * t287)) - 1)) 8))))))).bind fun t289 => (some t289))) = some r := H
      have A10 := Aside0.mk A100
      clear A100
      replace H := Option.bind_eq_some_iff.mp H
      obtain ⟨t288, A110, H⟩ := H
      replace H : ((spec_l3Half.f (wrap64 ((wrap64 ((wrap64 ((wrap64 (Int.tdiv (wrap64 (t287 - 1)) 2)) * (wrap64 (Int.tdiv (wrap64 (t288 - 1)) 2)))) + (wrap64 (t283 * (wrap64 (Int.tdiv (wrap64 ((wrap64 (t288 * t288)) - 1)) 8)))))) + (wrap64 (t285 * (wrap64 (Int.tdiv (wrap64 ((wrap64 (t287 * t287)) - 1)) 8))))))).bind fun t289 => (some t289)) = some r := H
      have A11 := Aside0.mk A110
      clear A110
      replace H := Option.bind_eq_some_iff.mp H
      obtain ⟨t289, A120, H⟩ := H
      replace H : (some t289) = some r := H
      have A12 := Aside0.mk A120
      clear A120
      obtain rfl := Option.some.inj H
      go_enter Try.func150, Try.ntmps150
      go_wp2_with (first | ((with_reducible refine gate_callee (f := 114) rfl ?_); refine goesL_ (some 23) rfl rfl Try.func114 (by kernel_rfl) rfl #[.int .i64 a0, .int .i64 a2] rfl Sqz.auM ?_; (with_reducible refine (spec_l1Valuation.calls k a0 a2 t283 t284 _ A7.out).mono ?_); rintro e w' ⟨rfl, ⟨nd, rfl⟩⟩; refine ⟨_, rfl, ?_⟩) | ((with_reducible refine gate_callee (f := 114) rfl ?_); refine goesL_ (some 29) rfl rfl Try.func114 (by kernel_rfl) rfl #[.int .i64 a1, .int .i64 a2] rfl Sqz.auM ?_; (with_reducible refine (spec_l1Valuation.calls k a1 a2 t285 t286 _ A8.out).mono ?_); rintro e w' ⟨rfl, ⟨nd, rfl⟩⟩; refine ⟨_, rfl, ?_⟩) | ((with_reducible refine gate_callee (f := 148) rfl ?_); refine goesL_ (some 35) rfl rfl Try.func148 (by kernel_rfl) rfl #[.int .i64 t284, .int .i64 16] rfl Sqz.auM ?_; (with_reducible refine (spec_l1Mod.calls t284 16 t287 _ A10.out).mono ?_); rintro e w' ⟨rfl, ⟨nd, rfl⟩⟩; refine ⟨_, rfl, ?_⟩) | ((with_reducible refine gate_callee (f := 148) rfl ?_); refine goesL_ (some 37) rfl rfl Try.func148 (by kernel_rfl) rfl #[.int .i64 t286, .int .i64 16] rfl Sqz.auM ?_; (with_reducible refine (spec_l1Mod.calls t286 16 t288 _ A11.out).mono ?_); rintro e w' ⟨rfl, ⟨nd, rfl⟩⟩; refine ⟨_, rfl, ?_⟩) | ((with_reducible refine gate_callee (f := 155) rfl ?_); refine goesL_ (some 61) rfl rfl Try.func155 (by kernel_rfl) rfl #[.int .i64 (wrap64 ((wrap64 ((wrap64 ((wrap64 (Int.tdiv (wrap64 (t287 - 1)) 2)) * (wrap64 (Int.tdiv (wrap64 (t288 - 1)) 2)))) + (wrap64 (t283 * (wrap64 (Int.tdiv (wrap64 ((wrap64 (t288 * t288)) - 1)) 8)))))) + (wrap64 (t285 * (wrap64 (Int.tdiv (wrap64 ((wrap64 (t287 * t287)) - 1)) 8))))))] rfl Sqz.auM ?_; (with_reducible refine (spec_l3Half.calls (wrap64 ((wrap64 ((wrap64 ((wrap64 (Int.tdiv (wrap64 (t287 - 1)) 2)) * (wrap64 (Int.tdiv (wrap64 (t288 - 1)) 2)))) + (wrap64 (t283 * (wrap64 (Int.tdiv (wrap64 ((wrap64 (t288 * t288)) - 1)) 8)))))) + (wrap64 (t285 * (wrap64 (Int.tdiv (wrap64 ((wrap64 (t287 * t287)) - 1)) 8)))))) t289 _ A12.out).mono ?_); rintro e w' ⟨rfl, ⟨nd, rfl⟩⟩; refine ⟨_, rfl, ?_⟩))
      go_ret
      exact ⟨Sqz.auS, by repeat (first | exact Drawn0.refl _ | apply Drawn0.step)⟩
    · rw [if_neg c9] at H
      have c9b0 : (a2 == 2) = false := beq_eq_false_iff_ne.mpr c9
      have c9b1 : (a2 != 2) = true := bne_iff_ne.mpr c9
      replace H := Option.bind_eq_some_iff.mp H
      obtain ⟨t290, A130, H⟩ := H
      replace H : (if (Int.tmod t285 2) = 1 then ((spec_l1Residue.f k t284 a2).bind fun t291 => (if (Int.tmod t283 2) = 1 then ((spec_l1Residue.f k t286 a2).bind fun t292 => (some (wrap64 ((wrap64 (t290 * t291)) * t292)))) else (some (wrap64 (t290 * t291))))) else (if (Int.tmod t283 2) = 1 then ((spec_l1Residue.f k t286 a2).bind fun t293 => (some (wrap64 (t290 * t293)))) else (some t290))) = some r := H
      have A13 := Aside0.mk A130
      clear A130
      by_cases c14 : (Int.tmod t285 2) = 1
      · rw [if_pos c14] at H
        have c14b0 : ((Int.tmod t285 2) == 1) = true := beq_iff_eq.mpr c14
        have c14b1 : ((Int.tmod t285 2) != 1) = false := bne_eq_false_iff_eq.mpr c14
        clear c14
        replace H := Option.bind_eq_some_iff.mp H
        obtain ⟨t291, A150, H⟩ := H
        replace H : (if (Int.tmod t283 2) = 1 then ((spec_l1Residue.f k t286 a2).bind fun t292 => (some (wrap64 ((wrap64 (t290 * t291)) * t292)))) else (some (wrap64 (t290 * t291)))) = some r := H
        have A15 := Aside0.mk A150
        clear A150
        by_cases c16 : (Int.tmod t283 2) = 1
        · rw [if_pos c16] at H
          have c16b0 : ((Int.tmod t283 2) == 1) = true := beq_iff_eq.mpr c16
          have c16b1 : ((Int.tmod t283 2) != 1) = false := bne_eq_false_iff_eq.mpr c16
          clear c16
          replace H := Option.bind_eq_some_iff.mp H
          obtain ⟨t292, A170, H⟩ := H
          replace H : (some (wrap64 ((wrap64 (t290 * t291)) * t292))) = some r := H
          have A17 := Aside0.mk A170
          clear A170
          obtain rfl := Option.some.inj H
          go_enter Try.func150, Try.ntmps150
          go_wp2_with (first | ((with_reducible refine gate_callee (f := 114) rfl ?_); refine goesL_ (some 23) rfl rfl Try.func114 (by kernel_rfl) rfl #[.int .i64 a0, .int .i64 a2] rfl Sqz.auM ?_; (with_reducible refine (spec_l1Valuation.calls k a0 a2 t283 t284 _ A7.out).mono ?_); rintro e w' ⟨rfl, ⟨nd, rfl⟩⟩; refine ⟨_, rfl, ?_⟩) | ((with_reducible refine gate_callee (f := 114) rfl ?_); refine goesL_ (some 29) rfl rfl Try.func114 (by kernel_rfl) rfl #[.int .i64 a1, .int .i64 a2] rfl Sqz.auM ?_; (with_reducible refine (spec_l1Valuation.calls k a1 a2 t285 t286 _ A8.out).mono ?_); rintro e w' ⟨rfl, ⟨nd, rfl⟩⟩; refine ⟨_, rfl, ?_⟩) | ((with_reducible refine gate_callee (f := 155) rfl ?_); refine goesL_ (some 69) rfl rfl Try.func155 (by kernel_rfl) rfl #[.int .i64 (wrap64 ((wrap64 (t283 * t285)) * (wrap64 (Int.tdiv (wrap64 (a2 - 1)) 2))))] rfl Sqz.auM ?_; (with_reducible refine (spec_l3Half.calls (wrap64 ((wrap64 (t283 * t285)) * (wrap64 (Int.tdiv (wrap64 (a2 - 1)) 2)))) t290 _ A13.out).mono ?_); rintro e w' ⟨rfl, ⟨nd, rfl⟩⟩; refine ⟨_, rfl, ?_⟩) | ((with_reducible refine gate_callee (f := 149) rfl ?_); refine goesL_ (some 76) rfl rfl Try.func149 (by kernel_rfl) rfl #[.int .i64 t284, .int .i64 a2] rfl Sqz.auM ?_; (with_reducible refine (spec_l1Residue.calls k t284 a2 t291 _ A15.out).mono ?_); rintro e w' ⟨rfl, ⟨nd, rfl⟩⟩; refine ⟨_, rfl, ?_⟩) | ((with_reducible refine gate_callee (f := 149) rfl ?_); refine goesL_ (some 84) rfl rfl Try.func149 (by kernel_rfl) rfl #[.int .i64 t286, .int .i64 a2] rfl Sqz.auM ?_; (with_reducible refine (spec_l1Residue.calls k t286 a2 t292 _ A17.out).mono ?_); rintro e w' ⟨rfl, ⟨nd, rfl⟩⟩; refine ⟨_, rfl, ?_⟩))
          go_ret
          exact ⟨Sqz.auS, by repeat (first | exact Drawn0.refl _ | apply Drawn0.step)⟩
        · rw [if_neg c16] at H
          have c16b0 : ((Int.tmod t283 2) == 1) = false := beq_eq_false_iff_ne.mpr c16
          have c16b1 : ((Int.tmod t283 2) != 1) = true := bne_iff_ne.mpr c16
          obtain rfl := Option.some.inj H
          go_enter Try.func150, Try.ntmps150
          go_wp2_with (first | ((with_reducible refine gate_callee (f := 114) rfl ?_); refine goesL_ (some 23) rfl rfl Try.func114 (by kernel_rfl) rfl #[.int .i64 a0, .int .i64 a2] rfl Sqz.auM ?_; (with_reducible refine (spec_l1Valuation.calls k a0 a2 t283 t284 _ A7.out).mono ?_); rintro e w' ⟨rfl, ⟨nd, rfl⟩⟩; refine ⟨_, rfl, ?_⟩) | ((with_reducible refine gate_callee (f := 114) rfl ?_); refine goesL_ (some 29) rfl rfl Try.func114 (by kernel_rfl) rfl #[.int .i64 a1, .int .i64 a2] rfl Sqz.auM ?_; (with_reducible refine (spec_l1Valuation.calls k a1 a2 t285 t286 _ A8.out).mono ?_); rintro e w' ⟨rfl, ⟨nd, rfl⟩⟩; refine ⟨_, rfl, ?_⟩) | ((with_reducible refine gate_callee (f := 155) rfl ?_); refine goesL_ (some 69) rfl rfl Try.func155 (by kernel_rfl) rfl #[.int .i64 (wrap64 ((wrap64 (t283 * t285)) * (wrap64 (Int.tdiv (wrap64 (a2 - 1)) 2))))] rfl Sqz.auM ?_; (with_reducible refine (spec_l3Half.calls (wrap64 ((wrap64 (t283 * t285)) * (wrap64 (Int.tdiv (wrap64 (a2 - 1)) 2)))) t290 _ A13.out).mono ?_); rintro e w' ⟨rfl, ⟨nd, rfl⟩⟩; refine ⟨_, rfl, ?_⟩) | ((with_reducible refine gate_callee (f := 149) rfl ?_); refine goesL_ (some 76) rfl rfl Try.func149 (by kernel_rfl) rfl #[.int .i64 t284, .int .i64 a2] rfl Sqz.auM ?_; (with_reducible refine (spec_l1Residue.calls k t284 a2 t291 _ A15.out).mono ?_); rintro e w' ⟨rfl, ⟨nd, rfl⟩⟩; refine ⟨_, rfl, ?_⟩))
          go_ret
          exact ⟨Sqz.auS, by repeat (first | exact Drawn0.refl _ | apply Drawn0.step)⟩
      · rw [if_neg c14] at H
        have c14b0 : ((Int.tmod t285 2) == 1) = false := beq_eq_false_iff_ne.mpr c14
        have c14b1 : ((Int.tmod t285 2) != 1) = true := bne_iff_ne.mpr c14
        by_cases c18 : (Int.tmod t283 2) = 1
        · rw [if_pos c18] at H
          have c18b0 : ((Int.tmod t283 2) == 1) = true := beq_iff_eq.mpr c18
          have c18b1 : ((Int.tmod t283 2) != 1) = false := bne_eq_false_iff_eq.mpr c18
          clear c18
          replace H := Option.bind_eq_some_iff.mp H
          obtain ⟨t293, A190, H⟩ := H
          replace H : (some (wrap64 (t290 * t293))) = some r := H
          have A19 := Aside0.mk A190
          clear A190
          obtain rfl := Option.some.inj H
          go_enter Try.func150, Try.ntmps150
          go_wp2_with (first | ((with_reducible refine gate_callee (f := 114) rfl ?_); refine goesL_ (some 23) rfl rfl Try.func114 (by kernel_rfl) rfl #[.int .i64 a0, .int .i64 a2] rfl Sqz.auM ?_; (with_reducible refine (spec_l1Valuation.calls k a0 a2 t283 t284 _ A7.out).mono ?_); rintro e w' ⟨rfl, ⟨nd, rfl⟩⟩; refine ⟨_, rfl, ?_⟩) | ((with_reducible refine gate_callee (f := 114) rfl ?_); refine goesL_ (some 29) rfl rfl Try.func114 (by kernel_rfl) rfl #[.int .i64 a1, .int .i64 a2] rfl Sqz.auM ?_; (with_reducible refine (spec_l1Valuation.calls k a1 a2 t285 t286 _ A8.out).mono ?_); rintro e w' ⟨rfl, ⟨nd, rfl⟩⟩; refine ⟨_, rfl, ?_⟩) | ((with_reducible refine gate_callee (f := 155) rfl ?_); refine goesL_ (some 69) rfl rfl Try.func155 (by kernel_rfl) rfl #[.int .i64 (wrap64 ((wrap64 (t283 * t285)) * (wrap64 (Int.tdiv (wrap64 (a2 - 1)) 2))))] rfl Sqz.auM ?_; (with_reducible refine (spec_l3Half.calls (wrap64 ((wrap64 (t283 * t285)) * (wrap64 (Int.tdiv (wrap64 (a2 - 1)) 2)))) t290 _ A13.out).mono ?_); rintro e w' ⟨rfl, ⟨nd, rfl⟩⟩; refine ⟨_, rfl, ?_⟩) | ((with_reducible refine gate_callee (f := 149) rfl ?_); refine goesL_ (some 84) rfl rfl Try.func149 (by kernel_rfl) rfl #[.int .i64 t286, .int .i64 a2] rfl Sqz.auM ?_; (with_reducible refine (spec_l1Residue.calls k t286 a2 t293 _ A19.out).mono ?_); rintro e w' ⟨rfl, ⟨nd, rfl⟩⟩; refine ⟨_, rfl, ?_⟩))
          go_ret
          exact ⟨Sqz.auS, by repeat (first | exact Drawn0.refl _ | apply Drawn0.step)⟩
        · rw [if_neg c18] at H
          have c18b0 : ((Int.tmod t283 2) == 1) = false := beq_eq_false_iff_ne.mpr c18
          have c18b1 : ((Int.tmod t283 2) != 1) = true := bne_iff_ne.mpr c18
          obtain rfl := Option.some.inj H
          go_enter Try.func150, Try.ntmps150
          go_wp2_with (first | ((with_reducible refine gate_callee (f := 114) rfl ?_); refine goesL_ (some 23) rfl rfl Try.func114 (by kernel_rfl) rfl #[.int .i64 a0, .int .i64 a2] rfl Sqz.auM ?_; (with_reducible refine (spec_l1Valuation.calls k a0 a2 t283 t284 _ A7.out).mono ?_); rintro e w' ⟨rfl, ⟨nd, rfl⟩⟩; refine ⟨_, rfl, ?_⟩) | ((with_reducible refine gate_callee (f := 114) rfl ?_); refine goesL_ (some 29) rfl rfl Try.func114 (by kernel_rfl) rfl #[.int .i64 a1, .int .i64 a2] rfl Sqz.auM ?_; (with_reducible refine (spec_l1Valuation.calls k a1 a2 t285 t286 _ A8.out).mono ?_); rintro e w' ⟨rfl, ⟨nd, rfl⟩⟩; refine ⟨_, rfl, ?_⟩) | ((with_reducible refine gate_callee (f := 155) rfl ?_); refine goesL_ (some 69) rfl rfl Try.func155 (by kernel_rfl) rfl #[.int .i64 (wrap64 ((wrap64 (t283 * t285)) * (wrap64 (Int.tdiv (wrap64 (a2 - 1)) 2))))] rfl Sqz.auM ?_; (with_reducible refine (spec_l3Half.calls (wrap64 ((wrap64 (t283 * t285)) * (wrap64 (Int.tdiv (wrap64 (a2 - 1)) 2)))) t290 _ A13.out).mono ?_); rintro e w' ⟨rfl, ⟨nd, rfl⟩⟩; refine ⟨_, rfl, ?_⟩))
          go_ret
          exact ⟨Sqz.auS, by repeat (first | exact Drawn0.refl _ | apply Drawn0.step)⟩

/-! ### spec_l4Invariant: function 132 -/
mutual
def spec_l4Invariant.l0 : Nat → List Int → Int → Int → Int → Option (Int)
  | 0, _, _, _, _ => none
  | k + 1, x0, x1, x5, x6 => if x6 < (x0.length : Int) then (spec_l4Invariant.l1 k x0 x1 x5 x6 0) else (some x5)
def spec_l4Invariant.l1 : Nat → List Int → Int → Int → Int → Int → Option (Int)
  | 0, _, _, _, _, _ => none
  | k + 1, x0, x1, x5, x6, x7 => if x7 < x6 then (if 0 ≤ x7 then (if x7 < (x0.length : Int) then (if 0 ≤ x6 then (if x6 < (x0.length : Int) then ((spec_l3Symbol.f k (rd x0 x7) (rd x0 x6) x1).bind fun t296 => (spec_l4Invariant.l1 k x0 x1 (wrap64 (x5 * t296)) x6 (wrap64 (x7 + 1)))) else (none)) else (none)) else (none)) else (none)) else (spec_l4Invariant.l0 k x0 x1 x5 (wrap64 (x6 + 1)))
end
def spec_l4Invariant.f (k : Nat) (l0 : List Int) (a1 : Int) : Option (Int) := spec_l4Invariant.l0 k l0 a1 1 0
set_option maxHeartbeats 8000000 in
set_option maxRecDepth 100000 in
theorem spec_l4Invariant.calls (k : Nat) (A0 : Option Addr) (c0 : Nat) (l0 : List Int) (a1 : Int) (r : Int) (w : World) (hr0 : Kd.C (Kd.int .i64) w A0 l0.length l0) (hc0 : l0.length ≤ c0) (h : spec_l4Invariant.f k l0 a1 = some r) :
    Calls Try.prog 132 #[.slice A0 l0.length c0, .int .i64 a1] w fun e w' => e = .returned (.int .i64 r) ∧ Drawn0 w w' := by
  have HR0 := Aside0.mk hr0
  have HC0 := Aside0.mk hc0
  clear hr0 hc0
  have H : (spec_l4Invariant.l0 k l0 a1 1 0) = some r := h
  clear h
  have H' := Aside0.mk H
  clear H
  go_enter Try.func132, Try.ntmps132
  go_wp2
  repeat (go_quiet (fail); try go_wp2)
  go_loopg [5, 6] k (fun kq v5 v6 w' => ∃ (x5_1 : Int) (x6_1 : Int), v5 = .int .i64 x5_1 ∧ v6 = .int .i64 x6_1 ∧ Aside0 (spec_l4Invariant.l0 kq l0 a1 x5_1 x6_1 = some r) ∧ Aside0 (kq ≤ k) ∧ Drawn0 w w')
  case atStart => exact ⟨(1), (0), Sqz.auS, Sqz.auS, H', ⟨Nat.le_refl _⟩, by repeat (first | exact Drawn0.refl _ | apply Drawn0.step)⟩
  case round =>
    clear H'
    try clear c1
    try clear p2
    obtain ⟨x5_1, x6_1, rfl, rfl, HA, HK1, ⟨m1, rfl⟩⟩ := hrel
    cases gk with
    | zero => exact absurd HA.out (by simp [spec_l4Invariant.l0])
    | succ k1 =>
      have H := HA.out
      clear HA
      simp only [spec_l4Invariant.l0] at H
      by_cases c3 : x6_1 < (l0.length : Int)
      · rw [if_pos c3] at H
        have c3b0 : decide (x6_1 < (l0.length : Int)) = true := decide_eq_true c3
        clear c3
        have H' := Aside0.mk H
        clear H
        go_wp2
        repeat (go_quiet (fail); try go_wp2)
        go_loopg [5, 7] k1 (fun kq v5 v7 w' => ∃ (x5_2 : Int) (x7_2 : Int), v5 = .int .i64 x5_2 ∧ v7 = .int .i64 x7_2 ∧ Aside0 (spec_l4Invariant.l1 kq l0 a1 x5_2 x6_1 x7_2 = some r) ∧ Aside0 (kq ≤ k1) ∧ Drawn0 w w')
        case atStart => exact ⟨(x5_1), (0), Sqz.auS, Sqz.auS, H', ⟨Nat.le_refl _⟩, by repeat (first | exact Drawn0.refl _ | apply Drawn0.step)⟩
        case round =>
          clear H'
          try clear c1
          try clear p2
          try clear c3
          try clear c3b0
          try clear p2
          obtain ⟨x5_2, x7_2, rfl, rfl, HA, HK2, ⟨m2, rfl⟩⟩ := hrel
          cases gk with
          | zero => exact absurd HA.out (by simp [spec_l4Invariant.l1])
          | succ k2 =>
            have H := HA.out
            clear HA
            simp only [spec_l4Invariant.l1] at H
            by_cases c4 : x7_2 < x6_1
            · rw [if_pos c4] at H
              have c4b0 : decide (x7_2 < x6_1) = true := decide_eq_true c4
              clear c4
              by_cases c5 : 0 ≤ x7_2
              · rw [if_pos c5] at H
                have c5b0 : decide (0 ≤ x7_2) = true := decide_eq_true c5
                clear c5
                by_cases c6 : x7_2 < (l0.length : Int)
                · rw [if_pos c6] at H
                  have c6b0 : decide (x7_2 < (l0.length : Int)) = true := decide_eq_true c6
                  clear c6
                  by_cases c7 : 0 ≤ x6_1
                  · rw [if_pos c7] at H
                    have c7b0 : decide (0 ≤ x6_1) = true := decide_eq_true c7
                    clear c7
                    by_cases c8 : x6_1 < (l0.length : Int)
                    · rw [if_pos c8] at H
                      have c8b0 : decide (x6_1 < (l0.length : Int)) = true := decide_eq_true c8
                      clear c8
                      replace H := Option.bind_eq_some_iff.mp H
                      obtain ⟨t296, A90, H⟩ := H
                      replace H : (spec_l4Invariant.l1 k2 l0 a1 (wrap64 (x5_2 * t296)) x6_1 (wrap64 (x7_2 + 1))) = some r := H
                      have A9 := Aside0.mk A90
                      clear A90
                      have H' := Aside0.mk H
                      clear H
                      have p294 : 0 ≤ (x7_2 : Int) := of_decide_eq_true (by first | (with_reducible assumption) | assumption)
                      have q294 : x7_2 < (l0.length : Int) := of_decide_eq_true (by first | (with_reducible assumption) | assumption)
                      obtain ⟨ad294, e294, hx294_0⟩ := Kd.at_int HR0.out x7_2 p294 q294
                      cases e294
                      replace p294 := eq_true p294
                      replace q294 := eq_true q294
                      have p295 : 0 ≤ (x6_1 : Int) := of_decide_eq_true (by first | (with_reducible assumption) | assumption)
                      have q295 : x6_1 < (l0.length : Int) := of_decide_eq_true (by first | (with_reducible assumption) | assumption)
                      obtain ⟨ad295, e295, hx295_0⟩ := Kd.at_int HR0.out x6_1 p295 q295
                      obtain rfl : ad294 = ad295 := (by injection e295)
                      replace p295 := eq_true p295
                      replace q295 := eq_true q295
                      go_wp2_with (first | (go_at_call 150; (with_reducible refine (spec_l3Symbol.calls k2 (rd l0 x7_2) (rd l0 x6_1) a1 t296 _ A9.out).mono ?_); rintro e w' ⟨rfl, ⟨nd, rfl⟩⟩; (try first | exact ⟨rfl, _, World.drewN_drewN _ _ _⟩ | exact ⟨rfl, _, Eq.trans (World.drewN_drewN _ _ _) (congrArg (World.drewN _) (Nat.add_assoc _ _ _))⟩)))
                      repeat (go_quiet (first | (go_at_call 150; (with_reducible refine (spec_l3Symbol.calls k2 (rd l0 x7_2) (rd l0 x6_1) a1 t296 _ A9.out).mono ?_); rintro e w' ⟨rfl, ⟨nd, rfl⟩⟩; (try first | exact ⟨rfl, _, World.drewN_drewN _ _ _⟩ | exact ⟨rfl, _, Eq.trans (World.drewN_drewN _ _ _) (congrArg (World.drewN _) (Nat.add_assoc _ _ _))⟩))); try go_wp2_with (first | (go_at_call 150; (with_reducible refine (spec_l3Symbol.calls k2 (rd l0 x7_2) (rd l0 x6_1) a1 t296 _ A9.out).mono ?_); rintro e w' ⟨rfl, ⟨nd, rfl⟩⟩; (try first | exact ⟨rfl, _, World.drewN_drewN _ _ _⟩ | exact ⟨rfl, _, Eq.trans (World.drewN_drewN _ _ _) (congrArg (World.drewN _) (Nat.add_assoc _ _ _))⟩))))
                      go_roundg k2
                      case measure => have := HK1.out; have := HK2.out; omega
                      case rel => exact ⟨(wrap64 (x5_2 * t296)), (wrap64 (x7_2 + 1)), Sqz.auS, Sqz.auS, H', ⟨by have := HK1.out; have := HK2.out; omega⟩, by repeat (first | exact Drawn0.refl _ | apply Drawn0.step)⟩
                    · rw [if_neg c8] at H
                      exact absurd H (by simp)
                  · rw [if_neg c7] at H
                    exact absurd H (by simp)
                · rw [if_neg c6] at H
                  exact absurd H (by simp)
              · rw [if_neg c5] at H
                exact absurd H (by simp)
            · rw [if_neg c4] at H
              have c4b0 : decide (x7_2 < x6_1) = false := decide_eq_false c4
              clear c4
              have H' := Aside0.mk H
              clear H
              go_wp2
              repeat (go_quiet (fail); try go_wp2)
              go_roundg k2
              case measure => have := HK1.out; have := HK2.out; omega
              case rel => exact ⟨(x5_2), (wrap64 (x6_1 + 1)), Sqz.auS, Sqz.auS, H', ⟨by have := HK1.out; have := HK2.out; omega⟩, by repeat (first | exact Drawn0.refl _ | apply Drawn0.step)⟩
      · rw [if_neg c3] at H
        have c3b0 : decide (x6_1 < (l0.length : Int)) = false := decide_eq_false c3
        clear c3
        obtain rfl := Option.some.inj H
        go_wp2
        repeat (go_quiet (fail); try go_wp2)
        go_ret
        exact ⟨Sqz.auS, by repeat (first | exact Drawn0.refl _ | apply Drawn0.step)⟩

/-! ### spec_l4Alike: function 80 -/
def spec_l4Alike.f (k : Nat) (l0 : List Int) (l1 : List Int) (a2 : Int) : Option (Bool) := if a2 = 0 then ((spec_l4Less.f k l0).bind fun t297 => ((spec_l4Less.f k l1).bind fun t298 => (some (t297 == t298)))) else ((spec_l4Product.f k l0).bind fun t299 => ((spec_l4Product.f k l1).bind fun t300 => ((spec_l2Square.f k (wrap64 (t299 * t300)) a2).bind fun t301 => (if t301 = true then ((spec_l4Invariant.f k l0 a2).bind fun t302 => ((spec_l4Invariant.f k l1 a2).bind fun t303 => (some (t302 == t303)))) else (some false)))))
set_option maxHeartbeats 8000000 in
set_option maxRecDepth 100000 in
theorem spec_l4Alike.calls (k : Nat) (A0 : Option Addr) (c0 : Nat) (l0 : List Int) (A1 : Option Addr) (c1 : Nat) (l1 : List Int) (a2 : Int) (r : Bool) (w : World) (hr0 : Kd.C (Kd.int .i64) w A0 l0.length l0) (hc0 : l0.length ≤ c0) (hr1 : Kd.C (Kd.int .i64) w A1 l1.length l1) (hc1 : l1.length ≤ c1) (h : spec_l4Alike.f k l0 l1 a2 = some r) :
    Calls Try.prog 80 #[.slice A0 l0.length c0, .slice A1 l1.length c1, .int .i64 a2] w fun e w' => e = .returned (.bool r) ∧ Drawn0 w w' := by
  have HR0 := Aside0.mk hr0
  have HC0 := Aside0.mk hc0
  clear hr0 hc0
  have HR1 := Aside0.mk hr1
  have HC1 := Aside0.mk hc1
  clear hr1 hc1
  have H : (if a2 = 0 then ((spec_l4Less.f k l0).bind fun t297 => ((spec_l4Less.f k l1).bind fun t298 => (some (t297 == t298)))) else ((spec_l4Product.f k l0).bind fun t299 => ((spec_l4Product.f k l1).bind fun t300 => ((spec_l2Square.f k (wrap64 (t299 * t300)) a2).bind fun t301 => (if t301 = true then ((spec_l4Invariant.f k l0 a2).bind fun t302 => ((spec_l4Invariant.f k l1 a2).bind fun t303 => (some (t302 == t303)))) else (some false)))))) = some r := h
  clear h
  by_cases c4 : a2 = 0
  · rw [if_pos c4] at H
    have c4b0 : (a2 == 0) = true := beq_iff_eq.mpr c4
    have c4b1 : (a2 != 0) = false := bne_eq_false_iff_eq.mpr c4
    clear c4
    replace H := Option.bind_eq_some_iff.mp H
    obtain ⟨t297, A50, H⟩ := H
    replace H : ((spec_l4Less.f k l1).bind fun t298 => (some (t297 == t298))) = some r := H
    have A5 := Aside0.mk A50
    clear A50
    replace H := Option.bind_eq_some_iff.mp H
    obtain ⟨t298, A60, H⟩ := H
    replace H : (some (t297 == t298)) = some r := H
    have A6 := Aside0.mk A60
    clear A60
    obtain rfl := Option.some.inj H
    go_enter Try.func80, Try.ntmps80
    go_wp2_with (first | ((with_reducible refine gate_callee (f := 130) rfl ?_); refine goesL_ (some 10) rfl rfl Try.func130 (by kernel_rfl) rfl #[.slice A0 l0.length c0] rfl Sqz.auM ?_; (with_reducible refine (spec_l4Less.calls k _ _ l0 t297 _ ?side1 ?side2 A5.out).mono ?_); (case side1 => exact Sqz.mvC (HR0.out)); (case side2 => exact HC0.out); rintro e w' ⟨rfl, ⟨nd, rfl⟩⟩; refine ⟨_, rfl, ?_⟩) | ((with_reducible refine gate_callee (f := 130) rfl ?_); refine goesL_ (some 12) rfl rfl Try.func130 (by kernel_rfl) rfl #[.slice A1 l1.length c1] rfl Sqz.auM ?_; (with_reducible refine (spec_l4Less.calls k _ _ l1 t298 _ ?side1 ?side2 A6.out).mono ?_); (case side1 => exact Sqz.mvC (HR1.out)); (case side2 => exact HC1.out); rintro e w' ⟨rfl, ⟨nd, rfl⟩⟩; refine ⟨_, rfl, ?_⟩))
    go_ret
    exact ⟨Sqz.auS, by repeat (first | exact Drawn0.refl _ | apply Drawn0.step)⟩
  · rw [if_neg c4] at H
    have c4b0 : (a2 == 0) = false := beq_eq_false_iff_ne.mpr c4
    have c4b1 : (a2 != 0) = true := bne_iff_ne.mpr c4
    replace H := Option.bind_eq_some_iff.mp H
    obtain ⟨t299, A70, H⟩ := H
    replace H : ((spec_l4Product.f k l1).bind fun t300 => ((spec_l2Square.f k (wrap64 (t299 * t300)) a2).bind fun t301 => (if t301 = true then ((spec_l4Invariant.f k l0 a2).bind fun t302 => ((spec_l4Invariant.f k l1 a2).bind fun t303 => (some (t302 == t303)))) else (some false)))) = some r := H
    have A7 := Aside0.mk A70
    clear A70
    replace H := Option.bind_eq_some_iff.mp H
    obtain ⟨t300, A80, H⟩ := H
    replace H : ((spec_l2Square.f k (wrap64 (t299 * t300)) a2).bind fun t301 => (if t301 = true then ((spec_l4Invariant.f k l0 a2).bind fun t302 => ((spec_l4Invariant.f k l1 a2).bind fun t303 => (some (t302 == t303)))) else (some false))) = some r := H
    have A8 := Aside0.mk A80
    clear A80
    replace H := Option.bind_eq_some_iff.mp H
    obtain ⟨t301, A90, H⟩ := H
    replace H : (if t301 = true then ((spec_l4Invariant.f k l0 a2).bind fun t302 => ((spec_l4Invariant.f k l1 a2).bind fun t303 => (some (t302 == t303)))) else (some false)) = some r := H
    have A9 := Aside0.mk A90
    clear A90
    by_cases c10 : t301 = true
    · subst c10
      have H1 : ((spec_l4Invariant.f k l0 a2).bind fun t302 => ((spec_l4Invariant.f k l1 a2).bind fun t303 => (some (t302 == t303)))) = some r := by rw [if_pos rfl] at H; exact H
      clear H
      have H := H1
      clear H1
      replace H := Option.bind_eq_some_iff.mp H
      obtain ⟨t302, A110, H⟩ := H
      replace H : ((spec_l4Invariant.f k l1 a2).bind fun t303 => (some (t302 == t303))) = some r := H
      have A11 := Aside0.mk A110
      clear A110
      replace H := Option.bind_eq_some_iff.mp H
      obtain ⟨t303, A120, H⟩ := H
      replace H : (some (t302 == t303)) = some r := H
      have A12 := Aside0.mk A120
      clear A120
      obtain rfl := Option.some.inj H
      go_enter Try.func80, Try.ntmps80
      go_wp2_with (first | ((with_reducible refine gate_callee (f := 103) rfl ?_); refine goesL_ (some 15) rfl rfl Try.func103 (by kernel_rfl) rfl #[.slice A0 l0.length c0] rfl Sqz.auM ?_; (with_reducible refine (spec_l4Product.calls k _ _ l0 t299 _ ?side1 ?side2 A7.out).mono ?_); (case side1 => exact Sqz.mvC (HR0.out)); (case side2 => exact HC0.out); rintro e w' ⟨rfl, ⟨nd, rfl⟩⟩; refine ⟨_, rfl, ?_⟩) | ((with_reducible refine gate_callee (f := 103) rfl ?_); refine goesL_ (some 17) rfl rfl Try.func103 (by kernel_rfl) rfl #[.slice A1 l1.length c1] rfl Sqz.auM ?_; (with_reducible refine (spec_l4Product.calls k _ _ l1 t300 _ ?side1 ?side2 A8.out).mono ?_); (case side1 => exact Sqz.mvC (HR1.out)); (case side2 => exact HC1.out); rintro e w' ⟨rfl, ⟨nd, rfl⟩⟩; refine ⟨_, rfl, ?_⟩) | ((with_reducible refine gate_callee (f := 131) rfl ?_); refine goesL_ (some 20) rfl rfl Try.func131 (by kernel_rfl) rfl #[.int .i64 (wrap64 (t299 * t300)), .int .i64 a2] rfl Sqz.auM ?_; (with_reducible refine (spec_l2Square.calls k (wrap64 (t299 * t300)) a2 true _ A9.out).mono ?_); rintro e w' ⟨rfl, ⟨nd, rfl⟩⟩; refine ⟨_, rfl, ?_⟩) | (go_at_call 132; (with_reducible refine (spec_l4Invariant.calls k _ _ l0 a2 t302 _ ?side1 ?side2 A11.out).mono ?_); (case side1 => exact Sqz.mvC (HR0.out)); (case side2 => exact HC0.out); rintro e w' ⟨rfl, ⟨nd, rfl⟩⟩) | (go_at_call 132; (with_reducible refine (spec_l4Invariant.calls k _ _ l1 a2 t303 _ ?side1 ?side2 A12.out).mono ?_); (case side1 => exact Sqz.mvC (HR1.out)); (case side2 => exact HC1.out); rintro e w' ⟨rfl, ⟨nd, rfl⟩⟩))
      go_ret
      exact ⟨Sqz.auS, by repeat (first | exact Drawn0.refl _ | apply Drawn0.step)⟩
    · replace c10 := Bool.eq_false_iff.mpr c10
      subst c10
      have H1 : (some false) = some r := by rw [if_neg (show ¬ (false = true) by decide)] at H; exact H
      clear H
      have H := H1
      clear H1
      obtain rfl := Option.some.inj H
      go_enter Try.func80, Try.ntmps80
      go_wp2_with (first | ((with_reducible refine gate_callee (f := 103) rfl ?_); refine goesL_ (some 15) rfl rfl Try.func103 (by kernel_rfl) rfl #[.slice A0 l0.length c0] rfl Sqz.auM ?_; (with_reducible refine (spec_l4Product.calls k _ _ l0 t299 _ ?side1 ?side2 A7.out).mono ?_); (case side1 => exact Sqz.mvC (HR0.out)); (case side2 => exact HC0.out); rintro e w' ⟨rfl, ⟨nd, rfl⟩⟩; refine ⟨_, rfl, ?_⟩) | ((with_reducible refine gate_callee (f := 103) rfl ?_); refine goesL_ (some 17) rfl rfl Try.func103 (by kernel_rfl) rfl #[.slice A1 l1.length c1] rfl Sqz.auM ?_; (with_reducible refine (spec_l4Product.calls k _ _ l1 t300 _ ?side1 ?side2 A8.out).mono ?_); (case side1 => exact Sqz.mvC (HR1.out)); (case side2 => exact HC1.out); rintro e w' ⟨rfl, ⟨nd, rfl⟩⟩; refine ⟨_, rfl, ?_⟩) | ((with_reducible refine gate_callee (f := 131) rfl ?_); refine goesL_ (some 20) rfl rfl Try.func131 (by kernel_rfl) rfl #[.int .i64 (wrap64 (t299 * t300)), .int .i64 a2] rfl Sqz.auM ?_; (with_reducible refine (spec_l2Square.calls k (wrap64 (t299 * t300)) a2 false _ A9.out).mono ?_); rintro e w' ⟨rfl, ⟨nd, rfl⟩⟩; refine ⟨_, rfl, ?_⟩))
      go_ret
      exact ⟨Sqz.auS, by repeat (first | exact Drawn0.refl _ | apply Drawn0.step)⟩

/-! ### spec_FormAlike: function 24 -/
def spec_FormAlike.f (k : Nat) (l0 : List Int) (l1 : List Int) (a2 : Int) : Option (Bool) := (spec_l4Both.f k l0 l1).bind fun t304 => (if t304 = true then ((spec_PlaceValid.f k a2).bind fun t305 => (if t305 = true then ((spec_l4Alike.f k l0 l1 a2).bind fun t306 => (some t306)) else (some false))) else (some false))
set_option maxHeartbeats 8000000 in
set_option maxRecDepth 100000 in
theorem spec_FormAlike.calls (k : Nat) (A0 : Option Addr) (c0 : Nat) (l0 : List Int) (A1 : Option Addr) (c1 : Nat) (l1 : List Int) (a2 : Int) (r : Bool) (w : World) (hr0 : Kd.C (Kd.int .i64) w A0 l0.length l0) (hc0 : l0.length ≤ c0) (hr1 : Kd.C (Kd.int .i64) w A1 l1.length l1) (hc1 : l1.length ≤ c1) (h : spec_FormAlike.f k l0 l1 a2 = some r) :
    Calls Try.prog 24 #[.slice A0 l0.length c0, .slice A1 l1.length c1, .int .i64 a2] w fun e w' => e = .returned (.bool r) ∧ Drawn0 w w' := by
  have HR0 := Aside0.mk hr0
  have HC0 := Aside0.mk hc0
  clear hr0 hc0
  have HR1 := Aside0.mk hr1
  have HC1 := Aside0.mk hc1
  clear hr1 hc1
  have H : ((spec_l4Both.f k l0 l1).bind fun t304 => (if t304 = true then ((spec_PlaceValid.f k a2).bind fun t305 => (if t305 = true then ((spec_l4Alike.f k l0 l1 a2).bind fun t306 => (some t306)) else (some false))) else (some false))) = some r := h
  clear h
  replace H := Option.bind_eq_some_iff.mp H
  obtain ⟨t304, A40, H⟩ := H
  replace H : (if t304 = true then ((spec_PlaceValid.f k a2).bind fun t305 => (if t305 = true then ((spec_l4Alike.f k l0 l1 a2).bind fun t306 => (some t306)) else (some false))) else (some false)) = some r := H
  have A4 := Aside0.mk A40
  clear A40
  by_cases c5 : t304 = true
  · subst c5
    have H1 : ((spec_PlaceValid.f k a2).bind fun t305 => (if t305 = true then ((spec_l4Alike.f k l0 l1 a2).bind fun t306 => (some t306)) else (some false))) = some r := by rw [if_pos rfl] at H; exact H
    clear H
    have H := H1
    clear H1
    replace H := Option.bind_eq_some_iff.mp H
    obtain ⟨t305, A60, H⟩ := H
    replace H : (if t305 = true then ((spec_l4Alike.f k l0 l1 a2).bind fun t306 => (some t306)) else (some false)) = some r := H
    have A6 := Aside0.mk A60
    clear A60
    by_cases c7 : t305 = true
    · subst c7
      have H1 : ((spec_l4Alike.f k l0 l1 a2).bind fun t306 => (some t306)) = some r := by rw [if_pos rfl] at H; exact H
      clear H
      have H := H1
      clear H1
      replace H := Option.bind_eq_some_iff.mp H
      obtain ⟨t306, A80, H⟩ := H
      replace H : (some t306) = some r := H
      have A8 := Aside0.mk A80
      clear A80
      obtain rfl := Option.some.inj H
      go_enter Try.func24, Try.ntmps24
      go_wp2_with (first | ((with_reducible refine gate_callee (f := 78) rfl ?_); refine goesL_ (some 9) rfl rfl Try.func78 (by kernel_rfl) rfl #[.slice A0 l0.length c0, .slice A1 l1.length c1] rfl Sqz.auM ?_; (with_reducible refine (spec_l4Both.calls k _ _ l0 _ _ l1 true _ ?side1 ?side2 ?side3 ?side4 A4.out).mono ?_); (case side1 => exact Sqz.mvC (HR0.out)); (case side2 => exact HC0.out); (case side3 => exact Sqz.mvC (HR1.out)); (case side4 => exact HC1.out); rintro e w' ⟨rfl, ⟨nd, rfl⟩⟩; refine ⟨_, rfl, ?_⟩) | (go_at_call 79; (with_reducible refine (spec_PlaceValid.calls k a2 true _ A6.out).mono ?_); rintro e w' ⟨rfl, ⟨nd, rfl⟩⟩) | (go_at_call 80; (with_reducible refine (spec_l4Alike.calls k _ _ l0 _ _ l1 a2 t306 _ ?side1 ?side2 ?side3 ?side4 A8.out).mono ?_); (case side1 => exact Sqz.mvC (HR0.out)); (case side2 => exact HC0.out); (case side3 => exact Sqz.mvC (HR1.out)); (case side4 => exact HC1.out); rintro e w' ⟨rfl, ⟨nd, rfl⟩⟩))
      go_ret
      exact ⟨Sqz.auS, by repeat (first | exact Drawn0.refl _ | apply Drawn0.step)⟩
    · replace c7 := Bool.eq_false_iff.mpr c7
      subst c7
      have H1 : (some false) = some r := by rw [if_neg (show ¬ (false = true) by decide)] at H; exact H
      clear H
      have H := H1
      clear H1
      obtain rfl := Option.some.inj H
      go_enter Try.func24, Try.ntmps24
      go_wp2_with (first | ((with_reducible refine gate_callee (f := 78) rfl ?_); refine goesL_ (some 9) rfl rfl Try.func78 (by kernel_rfl) rfl #[.slice A0 l0.length c0, .slice A1 l1.length c1] rfl Sqz.auM ?_; (with_reducible refine (spec_l4Both.calls k _ _ l0 _ _ l1 true _ ?side1 ?side2 ?side3 ?side4 A4.out).mono ?_); (case side1 => exact Sqz.mvC (HR0.out)); (case side2 => exact HC0.out); (case side3 => exact Sqz.mvC (HR1.out)); (case side4 => exact HC1.out); rintro e w' ⟨rfl, ⟨nd, rfl⟩⟩; refine ⟨_, rfl, ?_⟩) | (go_at_call 79; (with_reducible refine (spec_PlaceValid.calls k a2 false _ A6.out).mono ?_); rintro e w' ⟨rfl, ⟨nd, rfl⟩⟩))
      go_ret
      exact ⟨Sqz.auS, by repeat (first | exact Drawn0.refl _ | apply Drawn0.step)⟩
  · replace c5 := Bool.eq_false_iff.mpr c5
    subst c5
    have H1 : (some false) = some r := by rw [if_neg (show ¬ (false = true) by decide)] at H; exact H
    clear H
    have H := H1
    clear H1
    obtain rfl := Option.some.inj H
    go_enter Try.func24, Try.ntmps24
    go_wp2_with (first | ((with_reducible refine gate_callee (f := 78) rfl ?_); refine goesL_ (some 9) rfl rfl Try.func78 (by kernel_rfl) rfl #[.slice A0 l0.length c0, .slice A1 l1.length c1] rfl Sqz.auM ?_; (with_reducible refine (spec_l4Both.calls k _ _ l0 _ _ l1 false _ ?side1 ?side2 ?side3 ?side4 A4.out).mono ?_); (case side1 => exact Sqz.mvC (HR0.out)); (case side2 => exact HC0.out); (case side3 => exact Sqz.mvC (HR1.out)); (case side4 => exact HC1.out); rintro e w' ⟨rfl, ⟨nd, rfl⟩⟩; refine ⟨_, rfl, ?_⟩))
    go_ret
    exact ⟨Sqz.auS, by repeat (first | exact Drawn0.refl _ | apply Drawn0.step)⟩

/-! ### slices_Clone_int_int: function 81 -/
section
open Locg
theorem cloneInfo : (Try.prog.info? 3).map (fun i => (i.zero, i.size, i.bytes)) = some (some (.int .i64 0), 1, 8) := by kernel_rfl
def slices_Clone_int_int.f (l0 : List Int) : Option (List Int) := if l0.length ≤ 17592186044416 then some l0 else none
set_option maxHeartbeats 4000000 in
set_option maxRecDepth 100000 in
theorem slices_Clone_int_int.calls (A0 : Option Addr) (c0 : Nat) (l0 : List Int) (r : List Int) (w : World) (hr0 : Kd.C (Kd.int .i64) w A0 l0.length l0) (hc0 : l0.length ≤ c0) (h : slices_Clone_int_int.f l0 = some r) :
    Calls Try.prog 81 #[.slice A0 l0.length c0] w fun e w' => ∃ v0_ : Value, e = .returned (v0_) ∧ Kd.R (Kd.int .i64) 3 w' w.heap.size (fun _ => True) v0_ r ∧ Below w.heap.size w w' := by
  unfold slices_Clone_int_int.f at h
  by_cases hl : l0.length ≤ 17592186044416
  · rw [if_pos hl] at h
    injection h with h
    subst h
    have hR : ReadsInt w .i64 A0 l0.length l0 := Kd.reads_of_C (enc := Value.int .i64) (d := (0 : Int)) (h1 := fun _ => rfl) hr0
    rcases A0 with _ | ad
    · obtain rfl : l0 = [] := by
        rcases Nat.eq_zero_or_pos l0.length with h0 | h0
        · exact List.eq_nil_of_length_eq_zero h0
        · obtain ⟨ad, he, _⟩ := hR.2.2 h0; cases he
      clear hR hr0 hl
      have he := fun W => Lib.run_eql_slice_nil (P := Try.prog) W 25 3 none (List.length ([] : List Int)) c0 0 0 Try.underlying25
      simp only [List.length_nil] at he ⊢
      go_enter Try.func81, Try.ntmps81
      go_wp2
      go_ret
      exact ⟨_, rfl, Kd.R_nil _ _ _ _ _, Below.refl _ _⟩
    · have he := fun W => Lib.run_eql_slice_nil (P := Try.prog) W 25 3 (some ad) l0.length c0 0 0 Try.underlying25
      have HR := Lib.hid hR
      have HL := Lib.hid hl
      clear hR hr0 hl
      go_enter Try.func81, Try.ntmps81
      go_wp2_with (at_builtin; refine print_append_row (w0 := w) w.heap.size rfl (.tmp 5) (.tmp 6) 25 3 .i64 8 rfl Try.underlying25 cloneInfo (by decide) (.slice (some ⟨w.heap.size, 0, none⟩) 0 0) [] l0 (some ad) l0.length c0 rfl rfl (own_lit w w.heap.size 3 .i64 [] (Nat.le_refl _) (by simp)) (HR.out.below (below_alloc (Below.refl _ _) _)) (below_alloc (Below.refl _ _) _) (by simp) (by have := HL.out; simp; omega) ?_; intro v1 w1 hown1 hB1 hg1 hat1; clear hat1; obtain ⟨A1, k1, rfl⟩ := own_slice hown1)
      go_ret
      exact ⟨_, rfl, Kd.R_of_own hown1 (fun _ _ => trivial), hB1⟩
  · rw [if_neg hl] at h; cases h

end

/-! ### impl_FormJoin: function 25 -/
def impl_FormJoin.f (k : Nat) (l0 : List Int) (l1 : List Int) : Option (List Int × Bool) := (slices_Clone_int_int.f l0).bind fun t307 => (if t307.length + l1.length < 17592186044416 then ((some (t307 ++ l1 : List Int)).bind fun y310 => ((impl_FormValid.f k l0).bind fun t313 => (if t313 = true then ((impl_FormValid.f k l1).bind fun t314 => (if t314 = true then ((impl_FormValid.f k y310).bind fun t315 => (if t315 = true then (some (y310, true)) else (some (([] : List Int), false)))) else (some (([] : List Int), false)))) else (some (([] : List Int), false))))) else (none))
set_option maxHeartbeats 8000000 in
set_option maxRecDepth 100000 in
theorem impl_FormJoin.calls (k : Nat) (A0 : Option Addr) (c0 : Nat) (l0 : List Int) (A1 : Option Addr) (c1 : Nat) (l1 : List Int) (r1 : List Int) (r2 : Bool) (w : World) (hr0 : Kd.C (Kd.int .i64) w A0 l0.length l0) (hc0 : l0.length ≤ c0) (hr1 : Kd.C (Kd.int .i64) w A1 l1.length l1) (hc1 : l1.length ≤ c1) (h : impl_FormJoin.f k l0 l1 = some (r1, r2)) :
    Calls Try.prog 25 #[.slice A0 l0.length c0, .slice A1 l1.length c1] w fun e w' => ∃ v0_ : Value, e = .returned (.tuple #[v0_, .bool r2]) ∧ Kd.R (Kd.int .i64) 3 w' w.heap.size (fun _ => True) v0_ r1 ∧ Below w.heap.size w w' := by
  have HR0 := Aside0.mk hr0
  have HC0 := Aside0.mk hc0
  clear hr0 hc0
  have HR1 := Aside0.mk hr1
  have HC1 := Aside0.mk hc1
  clear hr1 hc1
  have HB := Aside0.mk (Below.refl w.heap.size w)
  have H : ((slices_Clone_int_int.f l0).bind fun t307 => (if t307.length + l1.length < 17592186044416 then ((some (t307 ++ l1 : List Int)).bind fun y310 => ((impl_FormValid.f k l0).bind fun t313 => (if t313 = true then ((impl_FormValid.f k l1).bind fun t314 => (if t314 = true then ((impl_FormValid.f k y310).bind fun t315 => (if t315 = true then (some (y310, true)) else (some (([] : List Int), false)))) else (some (([] : List Int), false)))) else (some (([] : List Int), false))))) else (none))) = some (r1, r2) := h
  clear h
  replace H := Option.bind_eq_some_iff.mp H
  obtain ⟨t307, A30, H⟩ := H
  replace H : (if t307.length + l1.length < 17592186044416 then ((some (t307 ++ l1 : List Int)).bind fun y310 => ((impl_FormValid.f k l0).bind fun t313 => (if t313 = true then ((impl_FormValid.f k l1).bind fun t314 => (if t314 = true then ((impl_FormValid.f k y310).bind fun t315 => (if t315 = true then (some (y310, true)) else (some (([] : List Int), false)))) else (some (([] : List Int), false)))) else (some (([] : List Int), false))))) else (none)) = some (r1, r2) := H
  have A3 := Aside0.mk A30
  clear A30
  by_cases c4 : t307.length + l1.length < 17592186044416
  · rw [if_pos c4] at H
    have LMc4 := Aside0.mk c4
    clear c4
    obtain ⟨y310, hy310⟩ : ∃ y_ : List Int, y_ = (t307 ++ l1) := ⟨_, rfl⟩
    replace H : ((impl_FormValid.f k l0).bind fun t313 => (if t313 = true then ((impl_FormValid.f k l1).bind fun t314 => (if t314 = true then ((impl_FormValid.f k y310).bind fun t315 => (if t315 = true then (some (y310, true)) else (some (([] : List Int), false)))) else (some (([] : List Int), false)))) else (some (([] : List Int), false)))) = some (r1, r2) := by first | (rw [hy310]; with_reducible exact H) | (have H2_ := (Option.bind_some _ _).symm.trans H; rw [hy310]; with_reducible exact H2_) | (have H2_ := (Option.bind_some _ _).symm.trans H; with_reducible exact H2_) | with_reducible exact H | (rw [hy310]; exact H) | exact H
    have Ny310 := Aside0.mk hy310
    clear hy310
    replace H := Option.bind_eq_some_iff.mp H
    obtain ⟨t313, A50, H⟩ := H
    replace H : (if t313 = true then ((impl_FormValid.f k l1).bind fun t314 => (if t314 = true then ((impl_FormValid.f k y310).bind fun t315 => (if t315 = true then (some (y310, true)) else (some (([] : List Int), false)))) else (some (([] : List Int), false)))) else (some (([] : List Int), false))) = some (r1, r2) := H
    have A5 := Aside0.mk A50
    clear A50
    by_cases c6 : t313 = true
    · subst c6
      have H1 : ((impl_FormValid.f k l1).bind fun t314 => (if t314 = true then ((impl_FormValid.f k y310).bind fun t315 => (if t315 = true then (some (y310, true)) else (some (([] : List Int), false)))) else (some (([] : List Int), false)))) = some (r1, r2) := by rw [if_pos rfl] at H; exact H
      clear H
      have H := H1
      clear H1
      replace H := Option.bind_eq_some_iff.mp H
      obtain ⟨t314, A70, H⟩ := H
      replace H : (if t314 = true then ((impl_FormValid.f k y310).bind fun t315 => (if t315 = true then (some (y310, true)) else (some (([] : List Int), false)))) else (some (([] : List Int), false))) = some (r1, r2) := H
      have A7 := Aside0.mk A70
      clear A70
      by_cases c8 : t314 = true
      · subst c8
        have H1 : ((impl_FormValid.f k y310).bind fun t315 => (if t315 = true then (some (y310, true)) else (some (([] : List Int), false)))) = some (r1, r2) := by rw [if_pos rfl] at H; exact H
        clear H
        have H := H1
        clear H1
        replace H := Option.bind_eq_some_iff.mp H
        obtain ⟨t315, A90, H⟩ := H
        replace H : (if t315 = true then (some (y310, true)) else (some (([] : List Int), false))) = some (r1, r2) := H
        have A9 := Aside0.mk A90
        clear A90
        by_cases c10 : t315 = true
        · subst c10
          have H1 : (some (y310, true)) = some (r1, r2) := by rw [if_pos rfl] at H; exact H
          clear H
          have H := H1
          clear H1
          simp only [Option.some.injEq, Prod.mk.injEq] at H
          obtain ⟨rfl, rfl⟩ := H
          go_enter Try.func25, Try.ntmps25
          go_wp2_with (first | ((with_reducible refine gate_callee (f := 81) rfl ?_); refine goesL_ (some 8) rfl rfl Try.func81 (by kernel_rfl) rfl #[.slice A0 l0.length c0] rfl Sqz.auM ?_; (with_reducible refine (slices_Clone_int_int.calls _ _ l0 t307 _ ?side1 ?side2 A3.out).mono ?_); (case side1 => exact Sqz.mvC (HR0.out)); (case side2 => exact HC0.out); rintro e w11 ⟨v308, rfl, ho0, hb⟩; refine ⟨_, rfl, ?_⟩; have n0_ := Aside0.mk (Kd.R_lower ho0 (below_size (Sqz.auHB))); have n1_ := Aside0.mk (below_step (Sqz.auHB) hb); clear HB; have HO309 := n0_; have HB := n1_; clear n0_ n1_; (try clear hb); (try clear hb2); (try clear hk); (try clear hi); (try clear ho0)) | ((with_reducible refine gate_builtin (b := .append) (xs := #[.tmp 8, .tmp 9]) rfl ?_); at_builtin; refine Kd.R_append_rows (Kd.int .i64) (w0 := w) w.heap.size rfl (.tmp 8) (.tmp 9) 25 3 (.int .i64 0) 8 rfl Try.underlying25 info3 rfl (by decide) (by omega) v308 t307 l1 _ _ _ (fun _ => True) (fun _ => False) rfl rfl ?aO ?aR (fun _ _ h => h) (fun _ h => h.elim) ?aF ?aB ?aS ?aL ?_; (case aR => exact Sqz.mvC ((Kd.C_below HR1.out HB.out))); (case aB => exact (Sqz.auHB)); (case aF => exact (fun _ _ => trivial)); (case aO => exact ((Sqz.mvR HO309.out))); (case aS => exact (below_size (Sqz.auHB))); (case aL => have := LMc4.out; omega); intro v311 w12 ho hb hg hat; rw [← Ny310.out] at ho; have n0_ := Aside0.mk (hb); have n1_ := Aside0.mk (ho); clear HB; clear HO309; have HB := n0_; have HO312 := n1_; clear n0_ n1_; clear ho hb hg hat) | ((with_reducible refine gate_callee (f := 20) rfl ?_); refine goesL_ (some 12) rfl rfl Try.func20 (by kernel_rfl) rfl #[.slice A0 l0.length c0] rfl Sqz.auM ?_; (with_reducible refine (impl_FormValid.calls k _ _ l0 true _ ?side1 ?side2 A5.out).mono ?_); (case side1 => exact Sqz.mvC ((Kd.C_below HR0.out HB.out))); (case side2 => exact HC0.out); rintro e w13 ⟨rfl, hb⟩; refine ⟨_, rfl, ?_⟩; have n0_ := Aside0.mk (Kd.R_below ((Sqz.mvR HO312.out)) hb); have n1_ := Aside0.mk (below_step (Sqz.auHB) hb); clear HO312; clear HB; have HO312 := n0_; have HB := n1_; clear n0_ n1_; (try clear hb); (try clear hb2); (try clear hk); (try clear hi)) | (go_at_call 20; (with_reducible refine (impl_FormValid.calls k _ _ l1 true _ ?side1 ?side2 A7.out).mono ?_); (case side1 => exact Sqz.mvC ((Kd.C_below HR1.out HB.out))); (case side2 => exact HC1.out); rintro e w14 ⟨rfl, hb⟩; have n0_ := Aside0.mk (Kd.R_below ((Sqz.mvR HO312.out)) hb); have n1_ := Aside0.mk (below_step (Sqz.auHB) hb); clear HO312; clear HB; have HO312 := n0_; have HB := n1_; clear n0_ n1_; (try clear hb); (try clear hb2); (try clear hk); (try clear hi); obtain ⟨Ao15, co15, eo15⟩ := Kd.R_slice HO312.out; subst eo15) | (go_at_call 20; (with_reducible refine (impl_FormValid.calls k _ _ y310 true _ ?side1 ?side2 A9.out).mono ?_); (case side1 => exact Sqz.mvC ((Kd.R_reads' HO312.out).2.2)); (case side2 => exact (Kd.R_reads' HO312.out).2.1); rintro e w16 ⟨rfl, hb⟩; have n0_ := Aside0.mk (Kd.R_below ((Sqz.mvR HO312.out)) hb); have n1_ := Aside0.mk (below_step (Sqz.auHB) hb); clear HO312; clear HB; have HO312 := n0_; have HB := n1_; clear n0_ n1_; (try clear hb); (try clear hb2); (try clear hk); (try clear hi)))
          go_ret2
          exact ⟨_, Sqz.auR, (Sqz.mvR HO312.out), Sqz.auHB⟩
        · replace c10 := Bool.eq_false_iff.mpr c10
          subst c10
          have H1 : (some (([] : List Int), false)) = some (r1, r2) := by rw [if_neg (show ¬ (false = true) by decide)] at H; exact H
          clear H
          have H := H1
          clear H1
          simp only [Option.some.injEq, Prod.mk.injEq] at H
          obtain ⟨rfl, rfl⟩ := H
          go_enter Try.func25, Try.ntmps25
          go_wp2_with (first | ((with_reducible refine gate_callee (f := 81) rfl ?_); refine goesL_ (some 8) rfl rfl Try.func81 (by kernel_rfl) rfl #[.slice A0 l0.length c0] rfl Sqz.auM ?_; (with_reducible refine (slices_Clone_int_int.calls _ _ l0 t307 _ ?side1 ?side2 A3.out).mono ?_); (case side1 => exact Sqz.mvC (HR0.out)); (case side2 => exact HC0.out); rintro e w17 ⟨v308, rfl, ho0, hb⟩; refine ⟨_, rfl, ?_⟩; have n0_ := Aside0.mk (Kd.R_lower ho0 (below_size (Sqz.auHB))); have n1_ := Aside0.mk (below_step (Sqz.auHB) hb); clear HB; have HO309 := n0_; have HB := n1_; clear n0_ n1_; (try clear hb); (try clear hb2); (try clear hk); (try clear hi); (try clear ho0)) | ((with_reducible refine gate_builtin (b := .append) (xs := #[.tmp 8, .tmp 9]) rfl ?_); at_builtin; refine Kd.R_append_rows (Kd.int .i64) (w0 := w) w.heap.size rfl (.tmp 8) (.tmp 9) 25 3 (.int .i64 0) 8 rfl Try.underlying25 info3 rfl (by decide) (by omega) v308 t307 l1 _ _ _ (fun _ => True) (fun _ => False) rfl rfl ?aO ?aR (fun _ _ h => h) (fun _ h => h.elim) ?aF ?aB ?aS ?aL ?_; (case aR => exact Sqz.mvC ((Kd.C_below HR1.out HB.out))); (case aB => exact (Sqz.auHB)); (case aF => exact (fun _ _ => trivial)); (case aO => exact ((Sqz.mvR HO309.out))); (case aS => exact (below_size (Sqz.auHB))); (case aL => have := LMc4.out; omega); intro v311 w18 ho hb hg hat; rw [← Ny310.out] at ho; have n0_ := Aside0.mk (hb); have n1_ := Aside0.mk (ho); clear HB; clear HO309; have HB := n0_; have HO312 := n1_; clear n0_ n1_; clear ho hb hg hat) | ((with_reducible refine gate_callee (f := 20) rfl ?_); refine goesL_ (some 12) rfl rfl Try.func20 (by kernel_rfl) rfl #[.slice A0 l0.length c0] rfl Sqz.auM ?_; (with_reducible refine (impl_FormValid.calls k _ _ l0 true _ ?side1 ?side2 A5.out).mono ?_); (case side1 => exact Sqz.mvC ((Kd.C_below HR0.out HB.out))); (case side2 => exact HC0.out); rintro e w19 ⟨rfl, hb⟩; refine ⟨_, rfl, ?_⟩; have n0_ := Aside0.mk (Kd.R_below ((Sqz.mvR HO312.out)) hb); have n1_ := Aside0.mk (below_step (Sqz.auHB) hb); clear HO312; clear HB; have HO312 := n0_; have HB := n1_; clear n0_ n1_; (try clear hb); (try clear hb2); (try clear hk); (try clear hi)) | (go_at_call 20; (with_reducible refine (impl_FormValid.calls k _ _ l1 true _ ?side1 ?side2 A7.out).mono ?_); (case side1 => exact Sqz.mvC ((Kd.C_below HR1.out HB.out))); (case side2 => exact HC1.out); rintro e w20 ⟨rfl, hb⟩; have n0_ := Aside0.mk (Kd.R_below ((Sqz.mvR HO312.out)) hb); have n1_ := Aside0.mk (below_step (Sqz.auHB) hb); clear HO312; clear HB; have HO312 := n0_; have HB := n1_; clear n0_ n1_; (try clear hb); (try clear hb2); (try clear hk); (try clear hi); obtain ⟨Ao21, co21, eo21⟩ := Kd.R_slice HO312.out; subst eo21) | (go_at_call 20; (with_reducible refine (impl_FormValid.calls k _ _ y310 false _ ?side1 ?side2 A9.out).mono ?_); (case side1 => exact Sqz.mvC ((Kd.R_reads' HO312.out).2.2)); (case side2 => exact (Kd.R_reads' HO312.out).2.1); rintro e w22 ⟨rfl, hb⟩; have n0_ := Aside0.mk (Kd.R_below ((Sqz.mvR HO312.out)) hb); have n1_ := Aside0.mk (below_step (Sqz.auHB) hb); clear HO312; clear HB; have HO312 := n0_; have HB := n1_; clear n0_ n1_; (try clear hb); (try clear hb2); (try clear hk); (try clear hi)))
          go_ret2
          exact ⟨_, Sqz.auR, by first | exact Kd.R_nil _ _ _ _ _ | exact Kd.N_nil _ _ _ _ _ | exact Kd.V_nil _ _ _ _ _ | exact Kd.Q_nil _ _ _ _ _ | exact Kd.S_nil _ _ _ _ _, Sqz.auHB⟩
      · replace c8 := Bool.eq_false_iff.mpr c8
        subst c8
        have H1 : (some (([] : List Int), false)) = some (r1, r2) := by rw [if_neg (show ¬ (false = true) by decide)] at H; exact H
        clear H
        have H := H1
        clear H1
        simp only [Option.some.injEq, Prod.mk.injEq] at H
        obtain ⟨rfl, rfl⟩ := H
        go_enter Try.func25, Try.ntmps25
        go_wp2_with (first | ((with_reducible refine gate_callee (f := 81) rfl ?_); refine goesL_ (some 8) rfl rfl Try.func81 (by kernel_rfl) rfl #[.slice A0 l0.length c0] rfl Sqz.auM ?_; (with_reducible refine (slices_Clone_int_int.calls _ _ l0 t307 _ ?side1 ?side2 A3.out).mono ?_); (case side1 => exact Sqz.mvC (HR0.out)); (case side2 => exact HC0.out); rintro e w23 ⟨v308, rfl, ho0, hb⟩; refine ⟨_, rfl, ?_⟩; have n0_ := Aside0.mk (Kd.R_lower ho0 (below_size (Sqz.auHB))); have n1_ := Aside0.mk (below_step (Sqz.auHB) hb); clear HB; have HO309 := n0_; have HB := n1_; clear n0_ n1_; (try clear hb); (try clear hb2); (try clear hk); (try clear hi); (try clear ho0)) | ((with_reducible refine gate_builtin (b := .append) (xs := #[.tmp 8, .tmp 9]) rfl ?_); at_builtin; refine Kd.R_append_rows (Kd.int .i64) (w0 := w) w.heap.size rfl (.tmp 8) (.tmp 9) 25 3 (.int .i64 0) 8 rfl Try.underlying25 info3 rfl (by decide) (by omega) v308 t307 l1 _ _ _ (fun _ => True) (fun _ => False) rfl rfl ?aO ?aR (fun _ _ h => h) (fun _ h => h.elim) ?aF ?aB ?aS ?aL ?_; (case aR => exact Sqz.mvC ((Kd.C_below HR1.out HB.out))); (case aB => exact (Sqz.auHB)); (case aF => exact (fun _ _ => trivial)); (case aO => exact ((Sqz.mvR HO309.out))); (case aS => exact (below_size (Sqz.auHB))); (case aL => have := LMc4.out; omega); intro v311 w24 ho hb hg hat; rw [← Ny310.out] at ho; have n0_ := Aside0.mk (hb); have n1_ := Aside0.mk (ho); clear HB; clear HO309; have HB := n0_; have HO312 := n1_; clear n0_ n1_; clear ho hb hg hat) | ((with_reducible refine gate_callee (f := 20) rfl ?_); refine goesL_ (some 12) rfl rfl Try.func20 (by kernel_rfl) rfl #[.slice A0 l0.length c0] rfl Sqz.auM ?_; (with_reducible refine (impl_FormValid.calls k _ _ l0 true _ ?side1 ?side2 A5.out).mono ?_); (case side1 => exact Sqz.mvC ((Kd.C_below HR0.out HB.out))); (case side2 => exact HC0.out); rintro e w25 ⟨rfl, hb⟩; refine ⟨_, rfl, ?_⟩; have n0_ := Aside0.mk (Kd.R_below ((Sqz.mvR HO312.out)) hb); have n1_ := Aside0.mk (below_step (Sqz.auHB) hb); clear HO312; clear HB; have HO312 := n0_; have HB := n1_; clear n0_ n1_; (try clear hb); (try clear hb2); (try clear hk); (try clear hi)) | (go_at_call 20; (with_reducible refine (impl_FormValid.calls k _ _ l1 false _ ?side1 ?side2 A7.out).mono ?_); (case side1 => exact Sqz.mvC ((Kd.C_below HR1.out HB.out))); (case side2 => exact HC1.out); rintro e w26 ⟨rfl, hb⟩; have n0_ := Aside0.mk (Kd.R_below ((Sqz.mvR HO312.out)) hb); have n1_ := Aside0.mk (below_step (Sqz.auHB) hb); clear HO312; clear HB; have HO312 := n0_; have HB := n1_; clear n0_ n1_; (try clear hb); (try clear hb2); (try clear hk); (try clear hi)))
        go_ret2
        exact ⟨_, Sqz.auR, by first | exact Kd.R_nil _ _ _ _ _ | exact Kd.N_nil _ _ _ _ _ | exact Kd.V_nil _ _ _ _ _ | exact Kd.Q_nil _ _ _ _ _ | exact Kd.S_nil _ _ _ _ _, Sqz.auHB⟩
    · replace c6 := Bool.eq_false_iff.mpr c6
      subst c6
      have H1 : (some (([] : List Int), false)) = some (r1, r2) := by rw [if_neg (show ¬ (false = true) by decide)] at H; exact H
      clear H
      have H := H1
      clear H1
      simp only [Option.some.injEq, Prod.mk.injEq] at H
      obtain ⟨rfl, rfl⟩ := H
      go_enter Try.func25, Try.ntmps25
      go_wp2_with (first | ((with_reducible refine gate_callee (f := 81) rfl ?_); refine goesL_ (some 8) rfl rfl Try.func81 (by kernel_rfl) rfl #[.slice A0 l0.length c0] rfl Sqz.auM ?_; (with_reducible refine (slices_Clone_int_int.calls _ _ l0 t307 _ ?side1 ?side2 A3.out).mono ?_); (case side1 => exact Sqz.mvC (HR0.out)); (case side2 => exact HC0.out); rintro e w27 ⟨v308, rfl, ho0, hb⟩; refine ⟨_, rfl, ?_⟩; have n0_ := Aside0.mk (Kd.R_lower ho0 (below_size (Sqz.auHB))); have n1_ := Aside0.mk (below_step (Sqz.auHB) hb); clear HB; have HO309 := n0_; have HB := n1_; clear n0_ n1_; (try clear hb); (try clear hb2); (try clear hk); (try clear hi); (try clear ho0)) | ((with_reducible refine gate_builtin (b := .append) (xs := #[.tmp 8, .tmp 9]) rfl ?_); at_builtin; refine Kd.R_append_rows (Kd.int .i64) (w0 := w) w.heap.size rfl (.tmp 8) (.tmp 9) 25 3 (.int .i64 0) 8 rfl Try.underlying25 info3 rfl (by decide) (by omega) v308 t307 l1 _ _ _ (fun _ => True) (fun _ => False) rfl rfl ?aO ?aR (fun _ _ h => h) (fun _ h => h.elim) ?aF ?aB ?aS ?aL ?_; (case aR => exact Sqz.mvC ((Kd.C_below HR1.out HB.out))); (case aB => exact (Sqz.auHB)); (case aF => exact (fun _ _ => trivial)); (case aO => exact ((Sqz.mvR HO309.out))); (case aS => exact (below_size (Sqz.auHB))); (case aL => have := LMc4.out; omega); intro v311 w28 ho hb hg hat; rw [← Ny310.out] at ho; have n0_ := Aside0.mk (hb); have n1_ := Aside0.mk (ho); clear HB; clear HO309; have HB := n0_; have HO312 := n1_; clear n0_ n1_; clear ho hb hg hat) | ((with_reducible refine gate_callee (f := 20) rfl ?_); refine goesL_ (some 12) rfl rfl Try.func20 (by kernel_rfl) rfl #[.slice A0 l0.length c0] rfl Sqz.auM ?_; (with_reducible refine (impl_FormValid.calls k _ _ l0 false _ ?side1 ?side2 A5.out).mono ?_); (case side1 => exact Sqz.mvC ((Kd.C_below HR0.out HB.out))); (case side2 => exact HC0.out); rintro e w29 ⟨rfl, hb⟩; refine ⟨_, rfl, ?_⟩; have n0_ := Aside0.mk (Kd.R_below ((Sqz.mvR HO312.out)) hb); have n1_ := Aside0.mk (below_step (Sqz.auHB) hb); clear HO312; clear HB; have HO312 := n0_; have HB := n1_; clear n0_ n1_; (try clear hb); (try clear hb2); (try clear hk); (try clear hi)))
      go_ret2
      exact ⟨_, Sqz.auR, by first | exact Kd.R_nil _ _ _ _ _ | exact Kd.N_nil _ _ _ _ _ | exact Kd.V_nil _ _ _ _ _ | exact Kd.Q_nil _ _ _ _ _ | exact Kd.S_nil _ _ _ _ _, Sqz.auHB⟩
  · rw [if_neg c4] at H
    exact absurd H (by simp)

/-! ### impl_valueOk: function 82 -/
def impl_valueOk.f (a0 : Int) : Option (Bool) := if a0 = 0 then (some false) else (if a0 ≥ (-30) then (some (decide (a0 ≤ 30))) else (some false))
set_option maxHeartbeats 8000000 in
set_option maxRecDepth 100000 in
theorem impl_valueOk.calls (a0 : Int) (r : Bool) (w : World) (h : impl_valueOk.f a0 = some r) :
    Calls Try.prog 82 #[.int .i64 a0] w fun e w' => e = .returned (.bool r) ∧ Drawn0 w w' := by
  have H : (if a0 = 0 then (some false) else (if a0 ≥ (-30) then (some (decide (a0 ≤ 30))) else (some false))) = some r := h
  clear h
  by_cases c2 : a0 = 0
  · rw [if_pos c2] at H
    have c2b0 : (a0 == 0) = true := beq_iff_eq.mpr c2
    have c2b1 : (a0 != 0) = false := bne_eq_false_iff_eq.mpr c2
    clear c2
    obtain rfl := Option.some.inj H
    go_enter Try.func82, Try.ntmps82
    go_wp2
    go_ret
    exact ⟨Sqz.auS, by repeat (first | exact Drawn0.refl _ | apply Drawn0.step)⟩
  · rw [if_neg c2] at H
    have c2b0 : (a0 == 0) = false := beq_eq_false_iff_ne.mpr c2
    have c2b1 : (a0 != 0) = true := bne_iff_ne.mpr c2
    by_cases c3 : a0 ≥ (-30)
    · rw [if_pos c3] at H
      have c3b0 : decide ((-30) ≤ a0) = true := decide_eq_true c3
      clear c3
      obtain rfl := Option.some.inj H
      go_enter Try.func82, Try.ntmps82
      go_wp2
      go_ret
      exact ⟨Sqz.auS, by repeat (first | exact Drawn0.refl _ | apply Drawn0.step)⟩
    · rw [if_neg c3] at H
      have c3b0 : decide ((-30) ≤ a0) = false := decide_eq_false c3
      clear c3
      obtain rfl := Option.some.inj H
      go_enter Try.func82, Try.ntmps82
      go_wp2
      go_ret
      exact ⟨Sqz.auS, by repeat (first | exact Drawn0.refl _ | apply Drawn0.step)⟩

/-! ### impl_represents: function 83 -/
def impl_represents.j0 : Nat → List Int → Int → Int → Bool → Option (Bool)
  | 0, _, _, _, _ => none
  | k + 1, x0, x1, x2, x13 => if x13 = true then (some true) else ((slices_Clone_int_int.f x0).bind fun t316 => (if t316.length < 17592186044416 then ((impl_vanishes.f k (t316 ++ [wrap64 (-x1)]) x2).bind fun t322 => (some t322)) else (none)))
def impl_represents.f (k : Nat) (l0 : List Int) (a1 : Int) (a2 : Int) : Option (Bool) := if (l0.length : Int) = 4 then (impl_represents.j0 k l0 a1 a2 (a2 != 0)) else (impl_represents.j0 k l0 a1 a2 false)
set_option maxHeartbeats 8000000 in
set_option maxRecDepth 100000 in
theorem impl_represents.calls (k : Nat) (A0 : Option Addr) (c0 : Nat) (l0 : List Int) (a1 : Int) (a2 : Int) (r : Bool) (w : World) (hr0 : Kd.C (Kd.int .i64) w A0 l0.length l0) (hc0 : l0.length ≤ c0) (h : impl_represents.f k l0 a1 a2 = some r) :
    Calls Try.prog 83 #[.slice A0 l0.length c0, .int .i64 a1, .int .i64 a2] w fun e w' => e = .returned (.bool r) ∧ Below w.heap.size w w' := by
  have HR0 := Aside0.mk hr0
  have HC0 := Aside0.mk hc0
  clear hr0 hc0
  have HB := Aside0.mk (Below.refl w.heap.size w)
  have H : (if (l0.length : Int) = 4 then (impl_represents.j0 k l0 a1 a2 (a2 != 0)) else (impl_represents.j0 k l0 a1 a2 false)) = some r := h
  clear h
  have HC4 := Aside0.mk H
  clear H
  go_enter Try.func83, Try.ntmps83
  go_upto_region 1 with (fail)
  go_cut [13] (fun v13 wc => ∃ (kq : Nat) (x13_3 : Bool), v13 = .bool x13_3 ∧ Aside0 (impl_represents.j0 kq l0 a1 a2 x13_3 = some r) ∧ Aside0 (kq ≤ k) ∧ Aside0 (Below w.heap.size w wc))
  case first =>
    have H := HC4.out
    clear HC4
    by_cases c5 : (l0.length : Int) = 4
    · rw [if_pos c5] at H
      have c5b0 : ((l0.length : Int) == 4) = true := beq_iff_eq.mpr c5
      have c5b1 : ((l0.length : Int) != 4) = false := bne_eq_false_iff_eq.mpr c5
      clear c5
      (first | rw [c5b0] | (simp only [i64_w, i32_w]; rw [c5b0]) | skip)
      have H' := Aside0.mk H
      clear H
      go_wp2
      go_meet
      case rel => exact ⟨_, ((a2 != 0)), Sqz.auS, H', ⟨Sqz.auN⟩, ⟨Sqz.auHB⟩⟩
    · rw [if_neg c5] at H
      have c5b0 : ((l0.length : Int) == 4) = false := beq_eq_false_iff_ne.mpr c5
      have c5b1 : ((l0.length : Int) != 4) = true := bne_iff_ne.mpr c5
      (first | rw [c5b0] | (simp only [i64_w, i32_w]; rw [c5b0]) | skip)
      have H' := Aside0.mk H
      clear H
      go_wp2
      go_meet
      case rel => exact ⟨_, (false), Sqz.auS, H', ⟨Sqz.auN⟩, ⟨Sqz.auHB⟩⟩
  case rest =>
    clear HC4
    try clear p2
    try clear c5
    try clear c5b0
    try clear c5b1
    obtain ⟨kq, x13_3, rfl, HA, HJ3, HB⟩ := hcut
    cases kq with
    | zero => exact absurd HA.out (by simp [impl_represents.j0])
    | succ kj3 =>
      have H := HA.out
      clear HA
      simp only [impl_represents.j0] at H
      by_cases c6 : x13_3 = true
      · subst c6
        have H1 : (some true) = some r := by rw [if_pos rfl] at H; exact H
        clear H
        have H := H1
        clear H1
        obtain rfl := Option.some.inj H
        go_wp2
        go_ret
        exact ⟨Sqz.auR, Sqz.auHB⟩
      · replace c6 := Bool.eq_false_iff.mpr c6
        subst c6
        have H1 : ((slices_Clone_int_int.f l0).bind fun t316 => (if t316.length < 17592186044416 then ((impl_vanishes.f kj3 (t316 ++ [wrap64 (-a1)]) a2).bind fun t322 => (some t322)) else (none))) = some r := by rw [if_neg (show ¬ (false = true) by decide)] at H; exact H
        clear H
        have H := H1
        clear H1
        replace H := Option.bind_eq_some_iff.mp H
        obtain ⟨t316, A70, H⟩ := H
        replace H : (if t316.length < 17592186044416 then ((impl_vanishes.f kj3 (t316 ++ [wrap64 (-a1)]) a2).bind fun t322 => (some t322)) else (none)) = some r := H
        have A7 := Aside0.mk A70
        clear A70
        by_cases c8 : t316.length < 17592186044416
        · rw [if_pos c8] at H
          have LMc8 := Aside0.mk c8
          clear c8
          obtain ⟨y319, hy319⟩ : ∃ y_ : List Int, y_ = (t316 ++ [wrap64 (-a1)]) := ⟨_, rfl⟩
          replace H : ((impl_vanishes.f kj3 y319 a2).bind fun t322 => (some t322)) = some r := by first | (rw [hy319]; with_reducible exact H) | (have H2_ := (Option.bind_some _ _).symm.trans H; rw [hy319]; with_reducible exact H2_) | (have H2_ := (Option.bind_some _ _).symm.trans H; with_reducible exact H2_) | with_reducible exact H | (rw [hy319]; exact H) | exact H
          have Ny319 := Aside0.mk hy319
          clear hy319
          replace H := Option.bind_eq_some_iff.mp H
          obtain ⟨t322, A90, H⟩ := H
          replace H : (some t322) = some r := H
          have A9 := Aside0.mk A90
          clear A90
          obtain rfl := Option.some.inj H
          go_wp2_with (first | ((with_reducible refine gate_callee (f := 81) rfl ?_); refine goesL_ (some 15) rfl rfl Try.func81 (by kernel_rfl) rfl #[.slice A0 l0.length c0] rfl Sqz.auM ?_; (with_reducible refine (slices_Clone_int_int.calls _ _ l0 t316 _ ?side1 ?side2 A7.out).mono ?_); (case side1 => exact Sqz.mvC ((Kd.C_below HR0.out HB.out))); (case side2 => exact HC0.out); rintro e w10 ⟨v317, rfl, ho0, hb⟩; refine ⟨_, rfl, ?_⟩; have n0_ := Aside0.mk (Kd.R_lower ho0 (below_size (Sqz.auHB))); have n1_ := Aside0.mk (below_step (Sqz.auHB) hb); clear HB; have HO318 := n0_; have HB := n1_; clear n0_ n1_; (try clear hb); (try clear hb2); (try clear hk); (try clear hi); (try clear ho0)) | ((with_reducible refine gate_builtin (b := .append) (xs := #[.tmp 15, .tmp 18]) rfl ?_); at_builtin; refine Kd.R_append (Kd.int .i64) (w0 := w) w.heap.size rfl (.tmp 15) (.tmp 18) 25 3 (.int .i64 0) 8 rfl Try.underlying25 info3 rfl (by decide) (by omega) v317 t316 (wrap64 (-a1)) [.int .i64 (wrap64 (-a1))] (fun _ => True) (fun _ => False) rfl rfl ?aP (fun _ hk => hk.elim) ?aF ?aO ?aB ?aS ?aL ?_; (case aP => exact rfl); (case aB => exact (Sqz.auHB)); (case aF => exact (fun _ _ => trivial)); (case aO => exact ((Sqz.mvR HO318.out))); (case aS => exact (below_size (Sqz.auHB))); (case aL => have := LMc8.out; omega); intro v320 w11 ho hb hg hat; rw [← Ny319.out] at ho; have n0_ := Aside0.mk (hb); have n1_ := Aside0.mk (ho); clear HB; clear HO318; have HB := n0_; have HO321 := n1_; clear n0_ n1_; clear ho hb hg hat; obtain ⟨Ao12, co12, eo12⟩ := Kd.R_slice HO321.out; subst eo12) | ((with_reducible refine gate_callee (f := 74) rfl ?_); refine goesL_ (some 21) rfl rfl Try.func74 (by kernel_rfl) rfl #[.slice Ao12 y319.length co12, .int .i64 a2] rfl Sqz.auM ?_; (with_reducible refine (impl_vanishes.calls kj3 _ _ y319 a2 t322 _ ?side1 ?side2 A9.out).mono ?_); (case side1 => exact Sqz.mvC ((Kd.R_reads' HO321.out).2.2)); (case side2 => exact (Kd.R_reads' HO321.out).2.1); rintro e w' ⟨rfl, ⟨nd, rfl⟩⟩; refine ⟨_, rfl, ?_⟩))
          go_ret
          exact ⟨Sqz.auR, Sqz.auHB⟩
        · rw [if_neg c8] at H
          exact absurd H (by simp)

/-! ### impl_ValueAt: function 26 -/
def impl_ValueAt.f (k : Nat) (l0 : List Int) (a1 : Int) (a2 : Int) : Option (Bool) := (impl_FormValid.f k l0).bind fun t323 => (if t323 = true then ((impl_valueOk.f a1).bind fun t324 => (if t324 = true then ((impl_PlaceValid.f k a2).bind fun t325 => (if t325 = true then ((impl_represents.f k l0 a1 a2).bind fun t326 => (some t326)) else (some false))) else (some false))) else (some false))
set_option maxHeartbeats 8000000 in
set_option maxRecDepth 100000 in
theorem impl_ValueAt.calls (k : Nat) (A0 : Option Addr) (c0 : Nat) (l0 : List Int) (a1 : Int) (a2 : Int) (r : Bool) (w : World) (hr0 : Kd.C (Kd.int .i64) w A0 l0.length l0) (hc0 : l0.length ≤ c0) (h : impl_ValueAt.f k l0 a1 a2 = some r) :
    Calls Try.prog 26 #[.slice A0 l0.length c0, .int .i64 a1, .int .i64 a2] w fun e w' => e = .returned (.bool r) ∧ Below w.heap.size w w' := by
  have HR0 := Aside0.mk hr0
  have HC0 := Aside0.mk hc0
  clear hr0 hc0
  have HB := Aside0.mk (Below.refl w.heap.size w)
  have H : ((impl_FormValid.f k l0).bind fun t323 => (if t323 = true then ((impl_valueOk.f a1).bind fun t324 => (if t324 = true then ((impl_PlaceValid.f k a2).bind fun t325 => (if t325 = true then ((impl_represents.f k l0 a1 a2).bind fun t326 => (some t326)) else (some false))) else (some false))) else (some false))) = some r := h
  clear h
  replace H := Option.bind_eq_some_iff.mp H
  obtain ⟨t323, A40, H⟩ := H
  replace H : (if t323 = true then ((impl_valueOk.f a1).bind fun t324 => (if t324 = true then ((impl_PlaceValid.f k a2).bind fun t325 => (if t325 = true then ((impl_represents.f k l0 a1 a2).bind fun t326 => (some t326)) else (some false))) else (some false))) else (some false)) = some r := H
  have A4 := Aside0.mk A40
  clear A40
  by_cases c5 : t323 = true
  · subst c5
    have H1 : ((impl_valueOk.f a1).bind fun t324 => (if t324 = true then ((impl_PlaceValid.f k a2).bind fun t325 => (if t325 = true then ((impl_represents.f k l0 a1 a2).bind fun t326 => (some t326)) else (some false))) else (some false))) = some r := by rw [if_pos rfl] at H; exact H
    clear H
    have H := H1
    clear H1
    replace H := Option.bind_eq_some_iff.mp H
    obtain ⟨t324, A60, H⟩ := H
    replace H : (if t324 = true then ((impl_PlaceValid.f k a2).bind fun t325 => (if t325 = true then ((impl_represents.f k l0 a1 a2).bind fun t326 => (some t326)) else (some false))) else (some false)) = some r := H
    have A6 := Aside0.mk A60
    clear A60
    by_cases c7 : t324 = true
    · subst c7
      have H1 : ((impl_PlaceValid.f k a2).bind fun t325 => (if t325 = true then ((impl_represents.f k l0 a1 a2).bind fun t326 => (some t326)) else (some false))) = some r := by rw [if_pos rfl] at H; exact H
      clear H
      have H := H1
      clear H1
      replace H := Option.bind_eq_some_iff.mp H
      obtain ⟨t325, A80, H⟩ := H
      replace H : (if t325 = true then ((impl_represents.f k l0 a1 a2).bind fun t326 => (some t326)) else (some false)) = some r := H
      have A8 := Aside0.mk A80
      clear A80
      by_cases c9 : t325 = true
      · subst c9
        have H1 : ((impl_represents.f k l0 a1 a2).bind fun t326 => (some t326)) = some r := by rw [if_pos rfl] at H; exact H
        clear H
        have H := H1
        clear H1
        replace H := Option.bind_eq_some_iff.mp H
        obtain ⟨t326, A100, H⟩ := H
        replace H : (some t326) = some r := H
        have A10 := Aside0.mk A100
        clear A100
        obtain rfl := Option.some.inj H
        go_enter Try.func26, Try.ntmps26
        go_wp2_with (first | ((with_reducible refine gate_callee (f := 20) rfl ?_); refine goesL_ (some 8) rfl rfl Try.func20 (by kernel_rfl) rfl #[.slice A0 l0.length c0] rfl Sqz.auM ?_; (with_reducible refine (impl_FormValid.calls k _ _ l0 true _ ?side1 ?side2 A4.out).mono ?_); (case side1 => exact Sqz.mvC (HR0.out)); (case side2 => exact HC0.out); rintro e w11 ⟨rfl, hb⟩; refine ⟨_, rfl, ?_⟩; have n0_ := Aside0.mk (below_step (Sqz.auHB) hb); clear HB; have HB := n0_; clear n0_; (try clear hb); (try clear hb2); (try clear hk); (try clear hi)) | (go_at_call 82; (with_reducible refine (impl_valueOk.calls a1 true _ A6.out).mono ?_); rintro e w' ⟨rfl, ⟨nd, rfl⟩⟩) | (go_at_call 73; (with_reducible refine (impl_PlaceValid.calls k a2 true _ A8.out).mono ?_); rintro e w' ⟨rfl, ⟨nd, rfl⟩⟩) | (go_at_call 83; (with_reducible refine (impl_represents.calls k _ _ l0 a1 a2 t326 _ ?side1 ?side2 A10.out).mono ?_); (case side1 => repeat (first | exact (Kd.C_below HR0.out (Sqz.auHB)) | (with_reducible refine Kd.C_alloc ?_ _) | (with_reducible refine Kd.C_drewN ?_ _) | (with_reducible refine Kd.C_drew ?_))); (case side2 => exact HC0.out); rintro e w12 ⟨rfl, hb⟩; have n0_ := Aside0.mk (below_step (Sqz.auHB) hb); clear HB; have HB := n0_; clear n0_; (try clear hb); (try clear hb2); (try clear hk); (try clear hi)))
        go_ret
        exact ⟨Sqz.auR, Sqz.auHB⟩
      · replace c9 := Bool.eq_false_iff.mpr c9
        subst c9
        have H1 : (some false) = some r := by rw [if_neg (show ¬ (false = true) by decide)] at H; exact H
        clear H
        have H := H1
        clear H1
        obtain rfl := Option.some.inj H
        go_enter Try.func26, Try.ntmps26
        go_wp2_with (first | ((with_reducible refine gate_callee (f := 20) rfl ?_); refine goesL_ (some 8) rfl rfl Try.func20 (by kernel_rfl) rfl #[.slice A0 l0.length c0] rfl Sqz.auM ?_; (with_reducible refine (impl_FormValid.calls k _ _ l0 true _ ?side1 ?side2 A4.out).mono ?_); (case side1 => exact Sqz.mvC (HR0.out)); (case side2 => exact HC0.out); rintro e w13 ⟨rfl, hb⟩; refine ⟨_, rfl, ?_⟩; have n0_ := Aside0.mk (below_step (Sqz.auHB) hb); clear HB; have HB := n0_; clear n0_; (try clear hb); (try clear hb2); (try clear hk); (try clear hi)) | (go_at_call 82; (with_reducible refine (impl_valueOk.calls a1 true _ A6.out).mono ?_); rintro e w' ⟨rfl, ⟨nd, rfl⟩⟩) | (go_at_call 73; (with_reducible refine (impl_PlaceValid.calls k a2 false _ A8.out).mono ?_); rintro e w' ⟨rfl, ⟨nd, rfl⟩⟩))
        go_ret
        exact ⟨Sqz.auR, Sqz.auHB⟩
    · replace c7 := Bool.eq_false_iff.mpr c7
      subst c7
      have H1 : (some false) = some r := by rw [if_neg (show ¬ (false = true) by decide)] at H; exact H
      clear H
      have H := H1
      clear H1
      obtain rfl := Option.some.inj H
      go_enter Try.func26, Try.ntmps26
      go_wp2_with (first | ((with_reducible refine gate_callee (f := 20) rfl ?_); refine goesL_ (some 8) rfl rfl Try.func20 (by kernel_rfl) rfl #[.slice A0 l0.length c0] rfl Sqz.auM ?_; (with_reducible refine (impl_FormValid.calls k _ _ l0 true _ ?side1 ?side2 A4.out).mono ?_); (case side1 => exact Sqz.mvC (HR0.out)); (case side2 => exact HC0.out); rintro e w14 ⟨rfl, hb⟩; refine ⟨_, rfl, ?_⟩; have n0_ := Aside0.mk (below_step (Sqz.auHB) hb); clear HB; have HB := n0_; clear n0_; (try clear hb); (try clear hb2); (try clear hk); (try clear hi)) | (go_at_call 82; (with_reducible refine (impl_valueOk.calls a1 false _ A6.out).mono ?_); rintro e w' ⟨rfl, ⟨nd, rfl⟩⟩))
      go_ret
      exact ⟨Sqz.auR, Sqz.auHB⟩
  · replace c5 := Bool.eq_false_iff.mpr c5
    subst c5
    have H1 : (some false) = some r := by rw [if_neg (show ¬ (false = true) by decide)] at H; exact H
    clear H
    have H := H1
    clear H1
    obtain rfl := Option.some.inj H
    go_enter Try.func26, Try.ntmps26
    go_wp2_with (first | ((with_reducible refine gate_callee (f := 20) rfl ?_); refine goesL_ (some 8) rfl rfl Try.func20 (by kernel_rfl) rfl #[.slice A0 l0.length c0] rfl Sqz.auM ?_; (with_reducible refine (impl_FormValid.calls k _ _ l0 false _ ?side1 ?side2 A4.out).mono ?_); (case side1 => exact Sqz.mvC (HR0.out)); (case side2 => exact HC0.out); rintro e w15 ⟨rfl, hb⟩; refine ⟨_, rfl, ?_⟩; have n0_ := Aside0.mk (below_step (Sqz.auHB) hb); clear HB; have HB := n0_; clear n0_; (try clear hb); (try clear hb2); (try clear hk); (try clear hi)))
    go_ret
    exact ⟨Sqz.auR, Sqz.auHB⟩

end Go.Proofs.Ytihadpckmcebgaa.PFnAlike
