/- A function's Lean twin and its walk, written by a program of this session. -/
import Derived.Test.YtihadpckmcebgaaPFnValueBadx0
import Derived.Test.YtihadpckmcebgaaPFnValueBadx4
namespace Go.Proofs.Ytihadpckmcebgaa.PFnValueBad
open Go.RowKit Go.Proofs.YtihadpckmcebgaaW.PrintWords Go.Proofs.YtihadpckmcebgaaW.PrintLast Go.Proofs.YtihadpckmcebgaaW.PrintMore
attribute [local go_sem] max2_int min2_int max_two min_two max_three min_three max_four min_four   -- for this text's walks alone
set_option linter.unusedVariables false
set_option linter.unusedSimpArgs false

/-! ### spec_l3Symbol: function 150 -/
def spec_l3Symbol.f (k : Nat) (a0 : Int) (a1 : Int) (a2 : Int) : Option (Int) := if a2 = 0 then (if a0 < 0 then (if a1 < 0 then (some (-1)) else (some 1)) else (some 1)) else ((spec_l1Valuation.f k a0 a2).bind fun bt271 => ((spec_l1Valuation.f k a1 a2).bind fun bt273 => (if a2 = 2 then ((spec_l1Mod.f bt271.2 16).bind fun t275 => ((spec_l1Mod.f bt273.2 16).bind fun t276 => ((spec_l3Half.f (wrap64 ((wrap64 ((wrap64 ((wrap64 (Int.tdiv (wrap64 (t275 - 1)) 2)) * (wrap64 (Int.tdiv (wrap64 (t276 - 1)) 2)))) + (wrap64 (bt271.1 * (wrap64 (Int.tdiv (wrap64 ((wrap64 (t276 * t276)) - 1)) 8)))))) + (wrap64 (bt273.1 * (wrap64 (Int.tdiv (wrap64 ((wrap64 (t275 * t275)) - 1)) 8))))))).bind fun t277 => (some t277)))) else ((spec_l3Half.f (wrap64 ((wrap64 (bt271.1 * bt273.1)) * (wrap64 (Int.tdiv (wrap64 (a2 - 1)) 2))))).bind fun t278 => (if (Int.tmod bt273.1 2) = 1 then ((spec_l1Residue.f k bt271.2 a2).bind fun t279 => (if (Int.tmod bt271.1 2) = 1 then ((spec_l1Residue.f k bt273.2 a2).bind fun t280 => (some (wrap64 ((wrap64 (t278 * t279)) * t280)))) else (some (wrap64 (t278 * t279))))) else (if (Int.tmod bt271.1 2) = 1 then ((spec_l1Residue.f k bt273.2 a2).bind fun t281 => (some (wrap64 (t278 * t281)))) else (some t278)))))))
set_option maxHeartbeats 8000000 in
set_option maxRecDepth 100000 in
theorem spec_l3Symbol.calls (k : Nat) (a0 : Int) (a1 : Int) (a2 : Int) (r : Int) (w : World) (h : spec_l3Symbol.f k a0 a1 a2 = some r) :
    Calls Try.prog 150 #[.int .i64 a0, .int .i64 a1, .int .i64 a2] w fun e w' => e = .returned (.int .i64 r) ∧ Drawn0 w w' := by
  have H : (if a2 = 0 then (if a0 < 0 then (if a1 < 0 then (some (-1)) else (some 1)) else (some 1)) else ((spec_l1Valuation.f k a0 a2).bind fun bt271 => ((spec_l1Valuation.f k a1 a2).bind fun bt273 => (if a2 = 2 then ((spec_l1Mod.f bt271.2 16).bind fun t275 => ((spec_l1Mod.f bt273.2 16).bind fun t276 => ((spec_l3Half.f (wrap64 ((wrap64 ((wrap64 ((wrap64 (Int.tdiv (wrap64 (t275 - 1)) 2)) * (wrap64 (Int.tdiv (wrap64 (t276 - 1)) 2)))) + (wrap64 (bt271.1 * (wrap64 (Int.tdiv (wrap64 ((wrap64 (t276 * t276)) - 1)) 8)))))) + (wrap64 (bt273.1 * (wrap64 (Int.tdiv (wrap64 ((wrap64 (t275 * t275)) - 1)) 8))))))).bind fun t277 => (some t277)))) else ((spec_l3Half.f (wrap64 ((wrap64 (bt271.1 * bt273.1)) * (wrap64 (Int.tdiv (wrap64 (a2 - 1)) 2))))).bind fun t278 => (if (Int.tmod bt273.1 2) = 1 then ((spec_l1Residue.f k bt271.2 a2).bind fun t279 => (if (Int.tmod bt271.1 2) = 1 then ((spec_l1Residue.f k bt273.2 a2).bind fun t280 => (some (wrap64 ((wrap64 (t278 * t279)) * t280)))) else (some (wrap64 (t278 * t279))))) else (if (Int.tmod bt271.1 2) = 1 then ((spec_l1Residue.f k bt273.2 a2).bind fun t281 => (some (wrap64 (t278 * t281)))) else (some t278)))))))) = some r := h
  clear h
  by_cases c4 : a2 = 0
  · rw [if_pos c4] at H
    have c4b0 : (a2 == 0) = true := beq_iff_eq.mpr c4
    have c4b1 : (a2 != 0) = false := bne_eq_false_iff_eq.mpr c4
    clear c4
    by_cases c5 : a0 < 0
    · rw [if_pos c5] at H
      have c5b0 : decide (a0 < 0) = true := decide_eq_true c5
      clear c5
      by_cases c6 : a1 < 0
      · rw [if_pos c6] at H
        have c6b0 : decide (a1 < 0) = true := decide_eq_true c6
        clear c6
        obtain rfl := Option.some.inj H
        go_enter Try.func150, Try.ntmps150
        go_wp2
        go_ret
        exact ⟨Sqz.auS, by repeat (first | exact Drawn0.refl _ | apply Drawn0.step)⟩
      · rw [if_neg c6] at H
        have c6b0 : decide (a1 < 0) = false := decide_eq_false c6
        clear c6
        obtain rfl := Option.some.inj H
        go_enter Try.func150, Try.ntmps150
        go_wp2
        go_ret
        exact ⟨Sqz.auS, by repeat (first | exact Drawn0.refl _ | apply Drawn0.step)⟩
    · rw [if_neg c5] at H
      have c5b0 : decide (a0 < 0) = false := decide_eq_false c5
      clear c5
      obtain rfl := Option.some.inj H
      go_enter Try.func150, Try.ntmps150
      go_wp2
      go_ret
      exact ⟨Sqz.auS, by repeat (first | exact Drawn0.refl _ | apply Drawn0.step)⟩
  · rw [if_neg c4] at H
    have c4b0 : (a2 == 0) = false := beq_eq_false_iff_ne.mpr c4
    have c4b1 : (a2 != 0) = true := bne_iff_ne.mpr c4
    replace H := Option.bind_eq_some_iff.mp H
    obtain ⟨⟨t271, t272⟩, A70, H⟩ := H
    replace H : ((spec_l1Valuation.f k a1 a2).bind fun bt273 => (if a2 = 2 then ((spec_l1Mod.f t272 16).bind fun t275 => ((spec_l1Mod.f bt273.2 16).bind fun t276 => ((spec_l3Half.f (wrap64 ((wrap64 ((wrap64 ((wrap64 (Int.tdiv (wrap64 (t275 - 1)) 2)) * (wrap64 (Int.tdiv (wrap64 (t276 - 1)) 2)))) + (wrap64 (t271 * (wrap64 (Int.tdiv (wrap64 ((wrap64 (t276 * t276)) - 1)) 8)))))) + (wrap64 (bt273.1 * (wrap64 (Int.tdiv (wrap64 ((wrap64 (t275 * t275)) - 1)) 8))))))).bind fun t277 => (some t277)))) else ((spec_l3Half.f (wrap64 ((wrap64 (t271 * bt273.1)) * (wrap64 (Int.tdiv (wrap64 (a2 - 1)) 2))))).bind fun t278 => (if (Int.tmod bt273.1 2) = 1 then ((spec_l1Residue.f k t272 a2).bind fun t279 => (if (Int.tmod t271 2) = 1 then ((spec_l1Residue.f k bt273.2 a2).bind fun t280 => (some (wrap64 ((wrap64 (t278 * t279)) * t280)))) else (some (wrap64 (t278 * t279))))) else (if (Int.tmod t271 2) = 1 then ((spec_l1Residue.f k bt273.2 a2).bind fun t281 => (some (wrap64 (t278 * t281)))) else (some t278)))))) = some r := H
    have A7 := Aside0.mk A70
    clear A70
    replace H := Option.bind_eq_some_iff.mp H
    obtain ⟨⟨t273, t274⟩, A80, H⟩ := H
    replace H : (if a2 = 2 then ((spec_l1Mod.f t272 16).bind fun t275 => ((spec_l1Mod.f t274 16).bind fun t276 => ((spec_l3Half.f (wrap64 ((wrap64 ((wrap64 ((wrap64 (Int.tdiv (wrap64 (t275 - 1)) 2)) * (wrap64 (Int.tdiv (wrap64 (t276 - 1)) 2)))) + (wrap64 (t271 * (wrap64 (Int.tdiv (wrap64 ((wrap64 (t276 * t276)) - 1)) 8)))))) + (wrap64 (t273 * (wrap64 (Int.tdiv (wrap64 ((wrap64 (t275 * t275)) - 1)) 8))))))).bind fun t277 => (some t277)))) else ((spec_l3Half.f (wrap64 ((wrap64 (t271 * t273)) * (wrap64 (Int.tdiv (wrap64 (a2 - 1)) 2))))).bind fun t278 => (if (Int.tmod t273 2) = 1 then ((spec_l1Residue.f k t272 a2).bind fun t279 => (if (Int.tmod t271 2) = 1 then ((spec_l1Residue.f k t274 a2).bind fun t280 => (some (wrap64 ((wrap64 (t278 * t279)) * t280)))) else (some (wrap64 (t278 * t279))))) else (if (Int.tmod t271 2) = 1 then ((spec_l1Residue.f k t274 a2).bind fun t281 => (some (wrap64 (t278 * t281)))) else (some t278))))) = some r := H
    have A8 := Aside0.mk A80
    clear A80
    by_cases c9 : a2 = 2
    · rw [if_pos c9] at H
      have c9b0 : (a2 == 2) = true := beq_iff_eq.mpr c9
      have c9b1 : (a2 != 2) = false := bne_eq_false_iff_eq.mpr c9
      clear c9
      replace H := Option.bind_eq_some_iff.mp H
      obtain ⟨t275, A100, H⟩ := H
      replace H : ((spec_l1Mod.f t274 16).bind fun t276 => ((spec_l3Half.f (wrap64 ((wrap64 ((wrap64 ((wrap64 (Int.tdiv (wrap64 (t275 - 1)) 2)) * (wrap64 (Int.tdiv (wrap64 (t276 - 1)) 2)))) + (wrap64 (t271 * (wrap64 (Int.tdiv (wrap64 ((wrap64 (t276 * t276)) - 1)) 8)))))) + (wrap64 (t273 * (wrap64 (Int.tdiv (wrap64 ((wrap64 (t275 * t275)) - 1)) 8))))))).bind fun t277 => (some t277))) = some r := H
      have A10 := Aside0.mk A100
      clear A100
      replace H := Option.bind_eq_some_iff.mp H
      obtain ⟨t276, A110, H⟩ := H
      replace H : ((spec_l3Half.f (wrap64 ((wrap64 ((wrap64 ((wrap64 (Int.tdiv (wrap64 (t275 - 1)) 2)) * (wrap64 (Int.tdiv (wrap64 (t276 - 1)) 2)))) + (wrap64 (t271 * (wrap64 (Int.tdiv (wrap64 ((wrap64 (t276 * t276)) - 1)) 8)))))) + (wrap64 (t273 * (wrap64 (Int.tdiv (wrap64 ((wrap64 (t275 * t275)) - 1)) 8))))))).bind fun t277 => (some t277)) = some r := H
      have A11 := Aside0.mk A110
      clear A110
      replace H := Option.bind_eq_some_iff.mp H
      obtain ⟨t277, A120, H⟩ := H
      replace H : (some t277) = some r := H
      have A12 := Aside0.mk A120
      clear A120
      obtain rfl := Option.some.inj H
      go_enter Try.func150, Try.ntmps150
      go_wp2_with (first | ((with_reducible refine gate_callee (f := 114) rfl ?_); refine goesL_ (some 23) rfl rfl Try.func114 (by kernel_rfl) rfl #[.int .i64 a0, .int .i64 a2] rfl Sqz.auM ?_; (with_reducible refine (spec_l1Valuation.calls k a0 a2 t271 t272 _ A7.out).mono ?_); rintro e w' ⟨rfl, ⟨nd, rfl⟩⟩; refine ⟨_, rfl, ?_⟩) | ((with_reducible refine gate_callee (f := 114) rfl ?_); refine goesL_ (some 29) rfl rfl Try.func114 (by kernel_rfl) rfl #[.int .i64 a1, .int .i64 a2] rfl Sqz.auM ?_; (with_reducible refine (spec_l1Valuation.calls k a1 a2 t273 t274 _ A8.out).mono ?_); rintro e w' ⟨rfl, ⟨nd, rfl⟩⟩; refine ⟨_, rfl, ?_⟩) | ((with_reducible refine gate_callee (f := 148) rfl ?_); refine goesL_ (some 35) rfl rfl Try.func148 (by kernel_rfl) rfl #[.int .i64 t272, .int .i64 16] rfl Sqz.auM ?_; (with_reducible refine (spec_l1Mod.calls t272 16 t275 _ A10.out).mono ?_); rintro e w' ⟨rfl, ⟨nd, rfl⟩⟩; refine ⟨_, rfl, ?_⟩) | ((with_reducible refine gate_callee (f := 148) rfl ?_); refine goesL_ (some 37) rfl rfl Try.func148 (by kernel_rfl) rfl #[.int .i64 t274, .int .i64 16] rfl Sqz.auM ?_; (with_reducible refine (spec_l1Mod.calls t274 16 t276 _ A11.out).mono ?_); rintro e w' ⟨rfl, ⟨nd, rfl⟩⟩; refine ⟨_, rfl, ?_⟩) | ((with_reducible refine gate_callee (f := 155) rfl ?_); refine goesL_ (some 61) rfl rfl Try.func155 (by kernel_rfl) rfl #[.int .i64 (wrap64 ((wrap64 ((wrap64 ((wrap64 (Int.tdiv (wrap64 (t275 - 1)) 2)) * (wrap64 (Int.tdiv (wrap64 (t276 - 1)) 2)))) + (wrap64 (t271 * (wrap64 (Int.tdiv (wrap64 ((wrap64 (t276 * t276)) - 1)) 8)))))) + (wrap64 (t273 * (wrap64 (Int.tdiv (wrap64 ((wrap64 (t275 * t275)) - 1)) 8))))))] rfl Sqz.auM ?_; (with_reducible refine (spec_l3Half.calls (wrap64 ((wrap64 ((wrap64 ((wrap64 (Int.tdiv (wrap64 (t275 - 1)) 2)) * (wrap64 (Int.tdiv (wrap64 (t276 - 1)) 2)))) + (wrap64 (t271 * (wrap64 (Int.tdiv (wrap64 ((wrap64 (t276 * t276)) - 1)) 8)))))) + (wrap64 (t273 * (wrap64 (Int.tdiv (wrap64 ((wrap64 (t275 * t275)) - 1)) 8)))))) t277 _ A12.out).mono ?_); rintro e w' ⟨rfl, ⟨nd, rfl⟩⟩; refine ⟨_, rfl, ?_⟩))
      go_ret
      exact ⟨Sqz.auS, by repeat (first | exact Drawn0.refl _ | apply Drawn0.step)⟩
    · rw [if_neg c9] at H
      have c9b0 : (a2 == 2) = false := beq_eq_false_iff_ne.mpr c9
      have c9b1 : (a2 != 2) = true := bne_iff_ne.mpr c9
      replace H := Option.bind_eq_some_iff.mp H
      obtain ⟨t278, A130, H⟩ := H
      replace H : (if (Int.tmod t273 2) = 1 then ((spec_l1Residue.f k t272 a2).bind fun t279 => (if (Int.tmod t271 2) = 1 then ((spec_l1Residue.f k t274 a2).bind fun t280 => (some (wrap64 ((wrap64 (t278 * t279)) * t280)))) else (some (wrap64 (t278 * t279))))) else (if (Int.tmod t271 2) = 1 then ((spec_l1Residue.f k t274 a2).bind fun t281 => (some (wrap64 (t278 * t281)))) else (some t278))) = some r := H
      have A13 := Aside0.mk A130
      clear A130
      by_cases c14 : (Int.tmod t273 2) = 1
      · rw [if_pos c14] at H
        have c14b0 : ((Int.tmod t273 2) == 1) = true := beq_iff_eq.mpr c14
        have c14b1 : ((Int.tmod t273 2) != 1) = false := bne_eq_false_iff_eq.mpr c14
        clear c14
        replace H := Option.bind_eq_some_iff.mp H
        obtain ⟨t279, A150, H⟩ := H
        replace H : (if (Int.tmod t271 2) = 1 then ((spec_l1Residue.f k t274 a2).bind fun t280 => (some (wrap64 ((wrap64 (t278 * t279)) * t280)))) else (some (wrap64 (t278 * t279)))) = some r := H
        have A15 := Aside0.mk A150
        clear A150
        by_cases c16 : (Int.tmod t271 2) = 1
        · rw [if_pos c16] at H
          have c16b0 : ((Int.tmod t271 2) == 1) = true := beq_iff_eq.mpr c16
          have c16b1 : ((Int.tmod t271 2) != 1) = false := bne_eq_false_iff_eq.mpr c16
          clear c16
          replace H := Option.bind_eq_some_iff.mp H
          obtain ⟨t280, A170, H⟩ := H
          replace H : (some (wrap64 ((wrap64 (t278 * t279)) * t280))) = some r := H
          have A17 := Aside0.mk A170
          clear A170
          obtain rfl := Option.some.inj H
          go_enter Try.func150, Try.ntmps150
          go_wp2_with (first | ((with_reducible refine gate_callee (f := 114) rfl ?_); refine goesL_ (some 23) rfl rfl Try.func114 (by kernel_rfl) rfl #[.int .i64 a0, .int .i64 a2] rfl Sqz.auM ?_; (with_reducible refine (spec_l1Valuation.calls k a0 a2 t271 t272 _ A7.out).mono ?_); rintro e w' ⟨rfl, ⟨nd, rfl⟩⟩; refine ⟨_, rfl, ?_⟩) | ((with_reducible refine gate_callee (f := 114) rfl ?_); refine goesL_ (some 29) rfl rfl Try.func114 (by kernel_rfl) rfl #[.int .i64 a1, .int .i64 a2] rfl Sqz.auM ?_; (with_reducible refine (spec_l1Valuation.calls k a1 a2 t273 t274 _ A8.out).mono ?_); rintro e w' ⟨rfl, ⟨nd, rfl⟩⟩; refine ⟨_, rfl, ?_⟩) | ((with_reducible refine gate_callee (f := 155) rfl ?_); refine goesL_ (some 69) rfl rfl Try.func155 (by kernel_rfl) rfl #[.int .i64 (wrap64 ((wrap64 (t271 * t273)) * (wrap64 (Int.tdiv (wrap64 (a2 - 1)) 2))))] rfl Sqz.auM ?_; (with_reducible refine (spec_l3Half.calls (wrap64 ((wrap64 (t271 * t273)) * (wrap64 (Int.tdiv (wrap64 (a2 - 1)) 2)))) t278 _ A13.out).mono ?_); rintro e w' ⟨rfl, ⟨nd, rfl⟩⟩; refine ⟨_, rfl, ?_⟩) | ((with_reducible refine gate_callee (f := 149) rfl ?_); refine goesL_ (some 76) rfl rfl Try.func149 (by kernel_rfl) rfl #[.int .i64 t272, .int .i64 a2] rfl Sqz.auM ?_; (with_reducible refine (spec_l1Residue.calls k t272 a2 t279 _ A15.out).mono ?_); rintro e w' ⟨rfl, ⟨nd, rfl⟩⟩; refine ⟨_, rfl, ?_⟩) | ((with_reducible refine gate_callee (f := 149) rfl ?_); refine goesL_ (some 84) rfl rfl Try.func149 (by kernel_rfl) rfl #[.int .i64 t274, .int .i64 a2] rfl Sqz.auM ?_; (with_reducible refine (spec_l1Residue.calls k t274 a2 t280 _ A17.out).mono ?_); rintro e w' ⟨rfl, ⟨nd, rfl⟩⟩; refine ⟨_, rfl, ?_⟩))
          go_ret
          exact ⟨Sqz.auS, by repeat (first | exact Drawn0.refl _ | apply Drawn0.step)⟩
        · rw [if_neg c16] at H
          have c16b0 : ((Int.tmod t271 2) == 1) = false := beq_eq_false_iff_ne.mpr c16
          have c16b1 : ((Int.tmod t271 2) != 1) = true := bne_iff_ne.mpr c16
          obtain rfl := Option.some.inj H
          go_enter Try.func150, Try.ntmps150
          go_wp2_with (first | ((with_reducible refine gate_callee (f := 114) rfl ?_); refine goesL_ (some 23) rfl rfl Try.func114 (by kernel_rfl) rfl #[.int .i64 a0, .int .i64 a2] rfl Sqz.auM ?_; (with_reducible refine (spec_l1Valuation.calls k a0 a2 t271 t272 _ A7.out).mono ?_); rintro e w' ⟨rfl, ⟨nd, rfl⟩⟩; refine ⟨_, rfl, ?_⟩) | ((with_reducible refine gate_callee (f := 114) rfl ?_); refine goesL_ (some 29) rfl rfl Try.func114 (by kernel_rfl) rfl #[.int .i64 a1, .int .i64 a2] rfl Sqz.auM ?_; (with_reducible refine (spec_l1Valuation.calls k a1 a2 t273 t274 _ A8.out).mono ?_); rintro e w' ⟨rfl, ⟨nd, rfl⟩⟩; refine ⟨_, rfl, ?_⟩) | ((with_reducible refine gate_callee (f := 155) rfl ?_); refine goesL_ (some 69) rfl rfl Try.func155 (by kernel_rfl) rfl #[.int .i64 (wrap64 ((wrap64 (t271 * t273)) * (wrap64 (Int.tdiv (wrap64 (a2 - 1)) 2))))] rfl Sqz.auM ?_; (with_reducible refine (spec_l3Half.calls (wrap64 ((wrap64 (t271 * t273)) * (wrap64 (Int.tdiv (wrap64 (a2 - 1)) 2)))) t278 _ A13.out).mono ?_); rintro e w' ⟨rfl, ⟨nd, rfl⟩⟩; refine ⟨_, rfl, ?_⟩) | ((with_reducible refine gate_callee (f := 149) rfl ?_); refine goesL_ (some 76) rfl rfl Try.func149 (by kernel_rfl) rfl #[.int .i64 t272, .int .i64 a2] rfl Sqz.auM ?_; (with_reducible refine (spec_l1Residue.calls k t272 a2 t279 _ A15.out).mono ?_); rintro e w' ⟨rfl, ⟨nd, rfl⟩⟩; refine ⟨_, rfl, ?_⟩))
          go_ret
          exact ⟨Sqz.auS, by repeat (first | exact Drawn0.refl _ | apply Drawn0.step)⟩
      · rw [if_neg c14] at H
        have c14b0 : ((Int.tmod t273 2) == 1) = false := beq_eq_false_iff_ne.mpr c14
        have c14b1 : ((Int.tmod t273 2) != 1) = true := bne_iff_ne.mpr c14
        by_cases c18 : (Int.tmod t271 2) = 1
        · rw [if_pos c18] at H
          have c18b0 : ((Int.tmod t271 2) == 1) = true := beq_iff_eq.mpr c18
          have c18b1 : ((Int.tmod t271 2) != 1) = false := bne_eq_false_iff_eq.mpr c18
          clear c18
          replace H := Option.bind_eq_some_iff.mp H
          obtain ⟨t281, A190, H⟩ := H
          replace H : (some (wrap64 (t278 * t281))) = some r := H
          have A19 := Aside0.mk A190
          clear A190
          obtain rfl := Option.some.inj H
          go_enter Try.func150, Try.ntmps150
          go_wp2_with (first | ((with_reducible refine gate_callee (f := 114) rfl ?_); refine goesL_ (some 23) rfl rfl Try.func114 (by kernel_rfl) rfl #[.int .i64 a0, .int .i64 a2] rfl Sqz.auM ?_; (with_reducible refine (spec_l1Valuation.calls k a0 a2 t271 t272 _ A7.out).mono ?_); rintro e w' ⟨rfl, ⟨nd, rfl⟩⟩; refine ⟨_, rfl, ?_⟩) | ((with_reducible refine gate_callee (f := 114) rfl ?_); refine goesL_ (some 29) rfl rfl Try.func114 (by kernel_rfl) rfl #[.int .i64 a1, .int .i64 a2] rfl Sqz.auM ?_; (with_reducible refine (spec_l1Valuation.calls k a1 a2 t273 t274 _ A8.out).mono ?_); rintro e w' ⟨rfl, ⟨nd, rfl⟩⟩; refine ⟨_, rfl, ?_⟩) | ((with_reducible refine gate_callee (f := 155) rfl ?_); refine goesL_ (some 69) rfl rfl Try.func155 (by kernel_rfl) rfl #[.int .i64 (wrap64 ((wrap64 (t271 * t273)) * (wrap64 (Int.tdiv (wrap64 (a2 - 1)) 2))))] rfl Sqz.auM ?_; (with_reducible refine (spec_l3Half.calls (wrap64 ((wrap64 (t271 * t273)) * (wrap64 (Int.tdiv (wrap64 (a2 - 1)) 2)))) t278 _ A13.out).mono ?_); rintro e w' ⟨rfl, ⟨nd, rfl⟩⟩; refine ⟨_, rfl, ?_⟩) | ((with_reducible refine gate_callee (f := 149) rfl ?_); refine goesL_ (some 84) rfl rfl Try.func149 (by kernel_rfl) rfl #[.int .i64 t274, .int .i64 a2] rfl Sqz.auM ?_; (with_reducible refine (spec_l1Residue.calls k t274 a2 t281 _ A19.out).mono ?_); rintro e w' ⟨rfl, ⟨nd, rfl⟩⟩; refine ⟨_, rfl, ?_⟩))
          go_ret
          exact ⟨Sqz.auS, by repeat (first | exact Drawn0.refl _ | apply Drawn0.step)⟩
        · rw [if_neg c18] at H
          have c18b0 : ((Int.tmod t271 2) == 1) = false := beq_eq_false_iff_ne.mpr c18
          have c18b1 : ((Int.tmod t271 2) != 1) = true := bne_iff_ne.mpr c18
          obtain rfl := Option.some.inj H
          go_enter Try.func150, Try.ntmps150
          go_wp2_with (first | ((with_reducible refine gate_callee (f := 114) rfl ?_); refine goesL_ (some 23) rfl rfl Try.func114 (by kernel_rfl) rfl #[.int .i64 a0, .int .i64 a2] rfl Sqz.auM ?_; (with_reducible refine (spec_l1Valuation.calls k a0 a2 t271 t272 _ A7.out).mono ?_); rintro e w' ⟨rfl, ⟨nd, rfl⟩⟩; refine ⟨_, rfl, ?_⟩) | ((with_reducible refine gate_callee (f := 114) rfl ?_); refine goesL_ (some 29) rfl rfl Try.func114 (by kernel_rfl) rfl #[.int .i64 a1, .int .i64 a2] rfl Sqz.auM ?_; (with_reducible refine (spec_l1Valuation.calls k a1 a2 t273 t274 _ A8.out).mono ?_); rintro e w' ⟨rfl, ⟨nd, rfl⟩⟩; refine ⟨_, rfl, ?_⟩) | ((with_reducible refine gate_callee (f := 155) rfl ?_); refine goesL_ (some 69) rfl rfl Try.func155 (by kernel_rfl) rfl #[.int .i64 (wrap64 ((wrap64 (t271 * t273)) * (wrap64 (Int.tdiv (wrap64 (a2 - 1)) 2))))] rfl Sqz.auM ?_; (with_reducible refine (spec_l3Half.calls (wrap64 ((wrap64 (t271 * t273)) * (wrap64 (Int.tdiv (wrap64 (a2 - 1)) 2)))) t278 _ A13.out).mono ?_); rintro e w' ⟨rfl, ⟨nd, rfl⟩⟩; refine ⟨_, rfl, ?_⟩))
          go_ret
          exact ⟨Sqz.auS, by repeat (first | exact Drawn0.refl _ | apply Drawn0.step)⟩

/-! ### spec_l4Invariant: function 132 -/
mutual
def spec_l4Invariant.l0 : Nat → List Int → Int → Int → Int → Option (Int)
  | 0, _, _, _, _ => none
  | k + 1, x0, x1, x5, x6 => if x6 < (x0.length : Int) then (spec_l4Invariant.l1 k x0 x1 x5 x6 0) else (some x5)
def spec_l4Invariant.l1 : Nat → List Int → Int → Int → Int → Int → Option (Int)
  | 0, _, _, _, _, _ => none
  | k + 1, x0, x1, x5, x6, x7 => if x7 < x6 then (if 0 ≤ x7 then (if x7 < (x0.length : Int) then (if 0 ≤ x6 then (if x6 < (x0.length : Int) then ((spec_l3Symbol.f k (rd x0 x7) (rd x0 x6) x1).bind fun t284 => (spec_l4Invariant.l1 k x0 x1 (wrap64 (x5 * t284)) x6 (wrap64 (x7 + 1)))) else (none)) else (none)) else (none)) else (none)) else (spec_l4Invariant.l0 k x0 x1 x5 (wrap64 (x6 + 1)))
end
def spec_l4Invariant.f (k : Nat) (l0 : List Int) (a1 : Int) : Option (Int) := spec_l4Invariant.l0 k l0 a1 1 0
set_option maxHeartbeats 8000000 in
set_option maxRecDepth 100000 in
theorem spec_l4Invariant.calls (k : Nat) (A0 : Option Addr) (c0 : Nat) (l0 : List Int) (a1 : Int) (r : Int) (w : World) (hr0 : Kd.C (Kd.int .i64) w A0 l0.length l0) (hc0 : l0.length ≤ c0) (h : spec_l4Invariant.f k l0 a1 = some r) :
    Calls Try.prog 132 #[.slice A0 l0.length c0, .int .i64 a1] w fun e w' => e = .returned (.int .i64 r) ∧ Drawn0 w w' := by
  have HR0 := Aside0.mk hr0
  have HC0 := Aside0.mk hc0
  clear hr0 hc0
  have H : (spec_l4Invariant.l0 k l0 a1 1 0) = some r := h
  clear h
  have H' := Aside0.mk H
  clear H
  go_enter Try.func132, Try.ntmps132
  go_wp2
  repeat (go_quiet (fail); try go_wp2)
  go_loopg [5, 6] k (fun kq v5 v6 w' => ∃ (x5_1 : Int) (x6_1 : Int), v5 = .int .i64 x5_1 ∧ v6 = .int .i64 x6_1 ∧ Aside0 (spec_l4Invariant.l0 kq l0 a1 x5_1 x6_1 = some r) ∧ Aside0 (kq ≤ k) ∧ Drawn0 w w')
  case atStart => exact ⟨(1), (0), Sqz.auS, Sqz.auS, H', ⟨Nat.le_refl _⟩, by repeat (first | exact Drawn0.refl _ | apply Drawn0.step)⟩
  case round =>
    clear H'
    try clear c1
    try clear p2
    obtain ⟨x5_1, x6_1, rfl, rfl, HA, HK1, ⟨m1, rfl⟩⟩ := hrel
    cases gk with
    | zero => exact absurd HA.out (by simp [spec_l4Invariant.l0])
    | succ k1 =>
      have H := HA.out
      clear HA
      simp only [spec_l4Invariant.l0] at H
      by_cases c3 : x6_1 < (l0.length : Int)
      · rw [if_pos c3] at H
        have c3b0 : decide (x6_1 < (l0.length : Int)) = true := decide_eq_true c3
        clear c3
        have H' := Aside0.mk H
        clear H
        go_wp2
        repeat (go_quiet (fail); try go_wp2)
        go_loopg [5, 7] k1 (fun kq v5 v7 w' => ∃ (x5_2 : Int) (x7_2 : Int), v5 = .int .i64 x5_2 ∧ v7 = .int .i64 x7_2 ∧ Aside0 (spec_l4Invariant.l1 kq l0 a1 x5_2 x6_1 x7_2 = some r) ∧ Aside0 (kq ≤ k1) ∧ Drawn0 w w')
        case atStart => exact ⟨(x5_1), (0), Sqz.auS, Sqz.auS, H', ⟨Nat.le_refl _⟩, by repeat (first | exact Drawn0.refl _ | apply Drawn0.step)⟩
        case round =>
          clear H'
          try clear c1
          try clear p2
          try clear c3
          try clear c3b0
          try clear p2
          obtain ⟨x5_2, x7_2, rfl, rfl, HA, HK2, ⟨m2, rfl⟩⟩ := hrel
          cases gk with
          | zero => exact absurd HA.out (by simp [spec_l4Invariant.l1])
          | succ k2 =>
            have H := HA.out
            clear HA
            simp only [spec_l4Invariant.l1] at H
            by_cases c4 : x7_2 < x6_1
            · rw [if_pos c4] at H
              have c4b0 : decide (x7_2 < x6_1) = true := decide_eq_true c4
              clear c4
              by_cases c5 : 0 ≤ x7_2
              · rw [if_pos c5] at H
                have c5b0 : decide (0 ≤ x7_2) = true := decide_eq_true c5
                clear c5
                by_cases c6 : x7_2 < (l0.length : Int)
                · rw [if_pos c6] at H
                  have c6b0 : decide (x7_2 < (l0.length : Int)) = true := decide_eq_true c6
                  clear c6
                  by_cases c7 : 0 ≤ x6_1
                  · rw [if_pos c7] at H
                    have c7b0 : decide (0 ≤ x6_1) = true := decide_eq_true c7
                    clear c7
                    by_cases c8 : x6_1 < (l0.length : Int)
                    · rw [if_pos c8] at H
                      have c8b0 : decide (x6_1 < (l0.length : Int)) = true := decide_eq_true c8
                      clear c8
                      replace H := Option.bind_eq_some_iff.mp H
                      obtain ⟨t284, A90, H⟩ := H
                      replace H : (spec_l4Invariant.l1 k2 l0 a1 (wrap64 (x5_2 * t284)) x6_1 (wrap64 (x7_2 + 1))) = some r := H
                      have A9 := Aside0.mk A90
                      clear A90
                      have H' := Aside0.mk H
                      clear H
                      have p282 : 0 ≤ (x7_2 : Int) := of_decide_eq_true (by first | (with_reducible assumption) | assumption)
                      have q282 : x7_2 < (l0.length : Int) := of_decide_eq_true (by first | (with_reducible assumption) | assumption)
                      obtain ⟨ad282, e282, hx282_0⟩ := Kd.at_int HR0.out x7_2 p282 q282
                      cases e282
                      replace p282 := eq_true p282
                      replace q282 := eq_true q282
                      have p283 : 0 ≤ (x6_1 : Int) := of_decide_eq_true (by first | (with_reducible assumption) | assumption)
                      have q283 : x6_1 < (l0.length : Int) := of_decide_eq_true (by first | (with_reducible assumption) | assumption)
                      obtain ⟨ad283, e283, hx283_0⟩ := Kd.at_int HR0.out x6_1 p283 q283
                      obtain rfl : ad282 = ad283 := (by injection e283)
                      replace p283 := eq_true p283
                      replace q283 := eq_true q283
                      go_wp2_with (first | (go_at_call 150; (with_reducible refine (spec_l3Symbol.calls k2 (rd l0 x7_2) (rd l0 x6_1) a1 t284 _ A9.out).mono ?_); rintro e w' ⟨rfl, ⟨nd, rfl⟩⟩; (try first | exact ⟨rfl, _, World.drewN_drewN _ _ _⟩ | exact ⟨rfl, _, Eq.trans (World.drewN_drewN _ _ _) (congrArg (World.drewN _) (Nat.add_assoc _ _ _))⟩)))
                      repeat (go_quiet (first | (go_at_call 150; (with_reducible refine (spec_l3Symbol.calls k2 (rd l0 x7_2) (rd l0 x6_1) a1 t284 _ A9.out).mono ?_); rintro e w' ⟨rfl, ⟨nd, rfl⟩⟩; (try first | exact ⟨rfl, _, World.drewN_drewN _ _ _⟩ | exact ⟨rfl, _, Eq.trans (World.drewN_drewN _ _ _) (congrArg (World.drewN _) (Nat.add_assoc _ _ _))⟩))); try go_wp2_with (first | (go_at_call 150; (with_reducible refine (spec_l3Symbol.calls k2 (rd l0 x7_2) (rd l0 x6_1) a1 t284 _ A9.out).mono ?_); rintro e w' ⟨rfl, ⟨nd, rfl⟩⟩; (try first | exact ⟨rfl, _, World.drewN_drewN _ _ _⟩ | exact ⟨rfl, _, Eq.trans (World.drewN_drewN _ _ _) (congrArg (World.drewN _) (Nat.add_assoc _ _ _))⟩))))
                      go_roundg k2
                      case measure => have := HK1.out; have := HK2.out; omega
                      case rel => exact ⟨(wrap64 (x5_2 * t284)), (wrap64 (x7_2 + 1)), Sqz.auS, Sqz.auS, H', ⟨by have := HK1.out; have := HK2.out; omega⟩, by repeat (first | exact Drawn0.refl _ | apply Drawn0.step)⟩
                    · rw [if_neg c8] at H
                      exact absurd H (by simp)
                  · rw [if_neg c7] at H
                    exact absurd H (by simp)
                · rw [if_neg c6] at H
                  exact absurd H (by simp)
              · rw [if_neg c5] at H
                exact absurd H (by simp)
            · rw [if_neg c4] at H
              have c4b0 : decide (x7_2 < x6_1) = false := decide_eq_false c4
              clear c4
              have H' := Aside0.mk H
              clear H
              go_wp2
              repeat (go_quiet (fail); try go_wp2)
              go_roundg k2
              case measure => have := HK1.out; have := HK2.out; omega
              case rel => exact ⟨(x5_2), (wrap64 (x6_1 + 1)), Sqz.auS, Sqz.auS, H', ⟨by have := HK1.out; have := HK2.out; omega⟩, by repeat (first | exact Drawn0.refl _ | apply Drawn0.step)⟩
      · rw [if_neg c3] at H
        have c3b0 : decide (x6_1 < (l0.length : Int)) = false := decide_eq_false c3
        clear c3
        obtain rfl := Option.some.inj H
        go_wp2
        repeat (go_quiet (fail); try go_wp2)
        go_ret
        exact ⟨Sqz.auS, by repeat (first | exact Drawn0.refl _ | apply Drawn0.step)⟩

/-! ### spec_l4Vanishes: function 133 -/
def spec_l4Vanishes.f (k : Nat) (l0 : List Int) (a1 : Int) : Option (Bool) := if a1 = 0 then ((spec_l4Less.f k l0).bind fun t285 => (if t285 > 0 then ((spec_l4Less.f k l0).bind fun t286 => (some (decide (t286 < (l0.length : Int))))) else (some false))) else ((spec_l4Product.f k l0).bind fun t287 => (if (l0.length : Int) = 1 then (some false) else (if (l0.length : Int) = 2 then ((spec_l2Square.f k (wrap64 (-t287)) a1).bind fun t288 => (some t288)) else (if (l0.length : Int) = 3 then ((spec_l4Invariant.f k l0 a1).bind fun t289 => ((spec_l3Symbol.f k (-1) (wrap64 (-t287)) a1).bind fun t290 => (some (t289 == t290)))) else ((spec_l2Square.f k t287 a1).bind fun t291 => (if t291 = true then ((spec_l4Invariant.f k l0 a1).bind fun t292 => ((spec_l3Symbol.f k (-1) (-1) a1).bind fun t293 => (some (t292 == t293)))) else (some true)))))))
set_option maxHeartbeats 8000000 in
set_option maxRecDepth 100000 in
theorem spec_l4Vanishes.calls (k : Nat) (A0 : Option Addr) (c0 : Nat) (l0 : List Int) (a1 : Int) (r : Bool) (w : World) (hr0 : Kd.C (Kd.int .i64) w A0 l0.length l0) (hc0 : l0.length ≤ c0) (h : spec_l4Vanishes.f k l0 a1 = some r) :
    Calls Try.prog 133 #[.slice A0 l0.length c0, .int .i64 a1] w fun e w' => e = .returned (.bool r) ∧ Drawn0 w w' := by
  have HR0 := Aside0.mk hr0
  have HC0 := Aside0.mk hc0
  clear hr0 hc0
  have H : (if a1 = 0 then ((spec_l4Less.f k l0).bind fun t285 => (if t285 > 0 then ((spec_l4Less.f k l0).bind fun t286 => (some (decide (t286 < (l0.length : Int))))) else (some false))) else ((spec_l4Product.f k l0).bind fun t287 => (if (l0.length : Int) = 1 then (some false) else (if (l0.length : Int) = 2 then ((spec_l2Square.f k (wrap64 (-t287)) a1).bind fun t288 => (some t288)) else (if (l0.length : Int) = 3 then ((spec_l4Invariant.f k l0 a1).bind fun t289 => ((spec_l3Symbol.f k (-1) (wrap64 (-t287)) a1).bind fun t290 => (some (t289 == t290)))) else ((spec_l2Square.f k t287 a1).bind fun t291 => (if t291 = true then ((spec_l4Invariant.f k l0 a1).bind fun t292 => ((spec_l3Symbol.f k (-1) (-1) a1).bind fun t293 => (some (t292 == t293)))) else (some true)))))))) = some r := h
  clear h
  by_cases c3 : a1 = 0
  · rw [if_pos c3] at H
    have c3b0 : (a1 == 0) = true := beq_iff_eq.mpr c3
    have c3b1 : (a1 != 0) = false := bne_eq_false_iff_eq.mpr c3
    clear c3
    replace H := Option.bind_eq_some_iff.mp H
    obtain ⟨t285, A40, H⟩ := H
    replace H : (if t285 > 0 then ((spec_l4Less.f k l0).bind fun t286 => (some (decide (t286 < (l0.length : Int))))) else (some false)) = some r := H
    have A4 := Aside0.mk A40
    clear A40
    by_cases c5 : t285 > 0
    · rw [if_pos c5] at H
      have c5b0 : decide (0 < t285) = true := decide_eq_true c5
      clear c5
      replace H := Option.bind_eq_some_iff.mp H
      obtain ⟨t286, A60, H⟩ := H
      replace H : (some (decide (t286 < (l0.length : Int)))) = some r := H
      have A6 := Aside0.mk A60
      clear A60
      obtain rfl := Option.some.inj H
      go_enter Try.func133, Try.ntmps133
      go_wp2_with (first | ((with_reducible refine gate_callee (f := 130) rfl ?_); refine goesL_ (some 9) rfl rfl Try.func130 (by kernel_rfl) rfl #[.slice A0 l0.length c0] rfl Sqz.auM ?_; (with_reducible refine (spec_l4Less.calls k _ _ l0 t285 _ ?side1 ?side2 A4.out).mono ?_); (case side1 => exact Sqz.mvC (HR0.out)); (case side2 => exact HC0.out); rintro e w' ⟨rfl, ⟨nd, rfl⟩⟩; refine ⟨_, rfl, ?_⟩) | (go_at_call 130; (with_reducible refine (spec_l4Less.calls k _ _ l0 t286 _ ?side1 ?side2 A6.out).mono ?_); (case side1 => exact Sqz.mvC (HR0.out)); (case side2 => exact HC0.out); rintro e w' ⟨rfl, ⟨nd, rfl⟩⟩))
      go_ret
      exact ⟨Sqz.auS, by repeat (first | exact Drawn0.refl _ | apply Drawn0.step)⟩
    · rw [if_neg c5] at H
      have c5b0 : decide (0 < t285) = false := decide_eq_false c5
      clear c5
      obtain rfl := Option.some.inj H
      go_enter Try.func133, Try.ntmps133
      go_wp2_with (first | ((with_reducible refine gate_callee (f := 130) rfl ?_); refine goesL_ (some 9) rfl rfl Try.func130 (by kernel_rfl) rfl #[.slice A0 l0.length c0] rfl Sqz.auM ?_; (with_reducible refine (spec_l4Less.calls k _ _ l0 t285 _ ?side1 ?side2 A4.out).mono ?_); (case side1 => exact Sqz.mvC (HR0.out)); (case side2 => exact HC0.out); rintro e w' ⟨rfl, ⟨nd, rfl⟩⟩; refine ⟨_, rfl, ?_⟩))
      go_ret
      exact ⟨Sqz.auS, by repeat (first | exact Drawn0.refl _ | apply Drawn0.step)⟩
  · rw [if_neg c3] at H
    have c3b0 : (a1 == 0) = false := beq_eq_false_iff_ne.mpr c3
    have c3b1 : (a1 != 0) = true := bne_iff_ne.mpr c3
    replace H := Option.bind_eq_some_iff.mp H
    obtain ⟨t287, A70, H⟩ := H
    replace H : (if (l0.length : Int) = 1 then (some false) else (if (l0.length : Int) = 2 then ((spec_l2Square.f k (wrap64 (-t287)) a1).bind fun t288 => (some t288)) else (if (l0.length : Int) = 3 then ((spec_l4Invariant.f k l0 a1).bind fun t289 => ((spec_l3Symbol.f k (-1) (wrap64 (-t287)) a1).bind fun t290 => (some (t289 == t290)))) else ((spec_l2Square.f k t287 a1).bind fun t291 => (if t291 = true then ((spec_l4Invariant.f k l0 a1).bind fun t292 => ((spec_l3Symbol.f k (-1) (-1) a1).bind fun t293 => (some (t292 == t293)))) else (some true)))))) = some r := H
    have A7 := Aside0.mk A70
    clear A70
    by_cases c8 : (l0.length : Int) = 1
    · rw [if_pos c8] at H
      have c8b0 : ((l0.length : Int) == 1) = true := beq_iff_eq.mpr c8
      have c8b1 : ((l0.length : Int) != 1) = false := bne_eq_false_iff_eq.mpr c8
      clear c8
      obtain rfl := Option.some.inj H
      go_enter Try.func133, Try.ntmps133
      go_wp2_with (first | ((with_reducible refine gate_callee (f := 103) rfl ?_); refine goesL_ (some 19) rfl rfl Try.func103 (by kernel_rfl) rfl #[.slice A0 l0.length c0] rfl Sqz.auM ?_; (with_reducible refine (spec_l4Product.calls k _ _ l0 t287 _ ?side1 ?side2 A7.out).mono ?_); (case side1 => exact Sqz.mvC (HR0.out)); (case side2 => exact HC0.out); rintro e w' ⟨rfl, ⟨nd, rfl⟩⟩; refine ⟨_, rfl, ?_⟩))
      go_ret
      exact ⟨Sqz.auS, by repeat (first | exact Drawn0.refl _ | apply Drawn0.step)⟩
    · rw [if_neg c8] at H
      have c8b0 : ((l0.length : Int) == 1) = false := beq_eq_false_iff_ne.mpr c8
      have c8b1 : ((l0.length : Int) != 1) = true := bne_iff_ne.mpr c8
      by_cases c9 : (l0.length : Int) = 2
      · rw [if_pos c9] at H
        have c9b0 : ((l0.length : Int) == 2) = true := beq_iff_eq.mpr c9
        have c9b1 : ((l0.length : Int) != 2) = false := bne_eq_false_iff_eq.mpr c9
        clear c9
        replace H := Option.bind_eq_some_iff.mp H
        obtain ⟨t288, A100, H⟩ := H
        replace H : (some t288) = some r := H
        have A10 := Aside0.mk A100
        clear A100
        obtain rfl := Option.some.inj H
        go_enter Try.func133, Try.ntmps133
        go_wp2_with (first | ((with_reducible refine gate_callee (f := 103) rfl ?_); refine goesL_ (some 19) rfl rfl Try.func103 (by kernel_rfl) rfl #[.slice A0 l0.length c0] rfl Sqz.auM ?_; (with_reducible refine (spec_l4Product.calls k _ _ l0 t287 _ ?side1 ?side2 A7.out).mono ?_); (case side1 => exact Sqz.mvC (HR0.out)); (case side2 => exact HC0.out); rintro e w' ⟨rfl, ⟨nd, rfl⟩⟩; refine ⟨_, rfl, ?_⟩) | ((with_reducible refine gate_callee (f := 131) rfl ?_); refine goesL_ (some 29) rfl rfl Try.func131 (by kernel_rfl) rfl #[.int .i64 (wrap64 (-t287)), .int .i64 a1] rfl Sqz.auM ?_; (with_reducible refine (spec_l2Square.calls k (wrap64 (-t287)) a1 t288 _ A10.out).mono ?_); rintro e w' ⟨rfl, ⟨nd, rfl⟩⟩; refine ⟨_, rfl, ?_⟩))
        go_ret
        exact ⟨Sqz.auS, by repeat (first | exact Drawn0.refl _ | apply Drawn0.step)⟩
      · rw [if_neg c9] at H
        have c9b0 : ((l0.length : Int) == 2) = false := beq_eq_false_iff_ne.mpr c9
        have c9b1 : ((l0.length : Int) != 2) = true := bne_iff_ne.mpr c9
        by_cases c11 : (l0.length : Int) = 3
        · rw [if_pos c11] at H
          have c11b0 : ((l0.length : Int) == 3) = true := beq_iff_eq.mpr c11
          have c11b1 : ((l0.length : Int) != 3) = false := bne_eq_false_iff_eq.mpr c11
          clear c11
          replace H := Option.bind_eq_some_iff.mp H
          obtain ⟨t289, A120, H⟩ := H
          replace H : ((spec_l3Symbol.f k (-1) (wrap64 (-t287)) a1).bind fun t290 => (some (t289 == t290))) = some r := H
          have A12 := Aside0.mk A120
          clear A120
          replace H := Option.bind_eq_some_iff.mp H
          obtain ⟨t290, A130, H⟩ := H
          replace H : (some (t289 == t290)) = some r := H
          have A13 := Aside0.mk A130
          clear A130
          obtain rfl := Option.some.inj H
          go_enter Try.func133, Try.ntmps133
          go_wp2_with (first | ((with_reducible refine gate_callee (f := 103) rfl ?_); refine goesL_ (some 19) rfl rfl Try.func103 (by kernel_rfl) rfl #[.slice A0 l0.length c0] rfl Sqz.auM ?_; (with_reducible refine (spec_l4Product.calls k _ _ l0 t287 _ ?side1 ?side2 A7.out).mono ?_); (case side1 => exact Sqz.mvC (HR0.out)); (case side2 => exact HC0.out); rintro e w' ⟨rfl, ⟨nd, rfl⟩⟩; refine ⟨_, rfl, ?_⟩) | ((with_reducible refine gate_callee (f := 132) rfl ?_); refine goesL_ (some 34) rfl rfl Try.func132 (by kernel_rfl) rfl #[.slice A0 l0.length c0, .int .i64 a1] rfl Sqz.auM ?_; (with_reducible refine (spec_l4Invariant.calls k _ _ l0 a1 t289 _ ?side1 ?side2 A12.out).mono ?_); (case side1 => exact Sqz.mvC (HR0.out)); (case side2 => exact HC0.out); rintro e w' ⟨rfl, ⟨nd, rfl⟩⟩; refine ⟨_, rfl, ?_⟩) | ((with_reducible refine gate_callee (f := 150) rfl ?_); refine goesL_ (some 38) rfl rfl Try.func150 (by kernel_rfl) rfl #[.int .i64 (-1), .int .i64 (wrap64 (-t287)), .int .i64 a1] rfl Sqz.auM ?_; (with_reducible refine (spec_l3Symbol.calls k (-1) (wrap64 (-t287)) a1 t290 _ A13.out).mono ?_); rintro e w' ⟨rfl, ⟨nd, rfl⟩⟩; refine ⟨_, rfl, ?_⟩))
          go_ret
          exact ⟨Sqz.auS, by repeat (first | exact Drawn0.refl _ | apply Drawn0.step)⟩
        · rw [if_neg c11] at H
          have c11b0 : ((l0.length : Int) == 3) = false := beq_eq_false_iff_ne.mpr c11
          have c11b1 : ((l0.length : Int) != 3) = true := bne_iff_ne.mpr c11
          replace H := Option.bind_eq_some_iff.mp H
          obtain ⟨t291, A140, H⟩ := H
          replace H : (if t291 = true then ((spec_l4Invariant.f k l0 a1).bind fun t292 => ((spec_l3Symbol.f k (-1) (-1) a1).bind fun t293 => (some (t292 == t293)))) else (some true)) = some r := H
          have A14 := Aside0.mk A140
          clear A140
          by_cases c15 : t291 = true
          · subst c15
            have H1 : ((spec_l4Invariant.f k l0 a1).bind fun t292 => ((spec_l3Symbol.f k (-1) (-1) a1).bind fun t293 => (some (t292 == t293)))) = some r := by rw [if_pos rfl] at H; exact H
            clear H
            have H := H1
            clear H1
            replace H := Option.bind_eq_some_iff.mp H
            obtain ⟨t292, A160, H⟩ := H
            replace H : ((spec_l3Symbol.f k (-1) (-1) a1).bind fun t293 => (some (t292 == t293))) = some r := H
            have A16 := Aside0.mk A160
            clear A160
            replace H := Option.bind_eq_some_iff.mp H
            obtain ⟨t293, A170, H⟩ := H
            replace H : (some (t292 == t293)) = some r := H
            have A17 := Aside0.mk A170
            clear A170
            obtain rfl := Option.some.inj H
            go_enter Try.func133, Try.ntmps133
            go_wp2_with (first | ((with_reducible refine gate_callee (f := 103) rfl ?_); refine goesL_ (some 19) rfl rfl Try.func103 (by kernel_rfl) rfl #[.slice A0 l0.length c0] rfl Sqz.auM ?_; (with_reducible refine (spec_l4Product.calls k _ _ l0 t287 _ ?side1 ?side2 A7.out).mono ?_); (case side1 => exact Sqz.mvC (HR0.out)); (case side2 => exact HC0.out); rintro e w' ⟨rfl, ⟨nd, rfl⟩⟩; refine ⟨_, rfl, ?_⟩) | ((with_reducible refine gate_callee (f := 131) rfl ?_); refine goesL_ (some 42) rfl rfl Try.func131 (by kernel_rfl) rfl #[.int .i64 t287, .int .i64 a1] rfl Sqz.auM ?_; (with_reducible refine (spec_l2Square.calls k t287 a1 true _ A14.out).mono ?_); rintro e w' ⟨rfl, ⟨nd, rfl⟩⟩; refine ⟨_, rfl, ?_⟩) | (go_at_call 132; (with_reducible refine (spec_l4Invariant.calls k _ _ l0 a1 t292 _ ?side1 ?side2 A16.out).mono ?_); (case side1 => exact Sqz.mvC (HR0.out)); (case side2 => exact HC0.out); rintro e w' ⟨rfl, ⟨nd, rfl⟩⟩) | (go_at_call 150; (with_reducible refine (spec_l3Symbol.calls k (-1) (-1) a1 t293 _ A17.out).mono ?_); rintro e w' ⟨rfl, ⟨nd, rfl⟩⟩))
            go_ret
            exact ⟨Sqz.auS, by repeat (first | exact Drawn0.refl _ | apply Drawn0.step)⟩
          · replace c15 := Bool.eq_false_iff.mpr c15
            subst c15
            have H1 : (some true) = some r := by rw [if_neg (show ¬ (false = true) by decide)] at H; exact H
            clear H
            have H := H1
            clear H1
            obtain rfl := Option.some.inj H
            go_enter Try.func133, Try.ntmps133
            go_wp2_with (first | ((with_reducible refine gate_callee (f := 103) rfl ?_); refine goesL_ (some 19) rfl rfl Try.func103 (by kernel_rfl) rfl #[.slice A0 l0.length c0] rfl Sqz.auM ?_; (with_reducible refine (spec_l4Product.calls k _ _ l0 t287 _ ?side1 ?side2 A7.out).mono ?_); (case side1 => exact Sqz.mvC (HR0.out)); (case side2 => exact HC0.out); rintro e w' ⟨rfl, ⟨nd, rfl⟩⟩; refine ⟨_, rfl, ?_⟩) | ((with_reducible refine gate_callee (f := 131) rfl ?_); refine goesL_ (some 42) rfl rfl Try.func131 (by kernel_rfl) rfl #[.int .i64 t287, .int .i64 a1] rfl Sqz.auM ?_; (with_reducible refine (spec_l2Square.calls k t287 a1 false _ A14.out).mono ?_); rintro e w' ⟨rfl, ⟨nd, rfl⟩⟩; refine ⟨_, rfl, ?_⟩))
            go_ret
            exact ⟨Sqz.auS, by repeat (first | exact Drawn0.refl _ | apply Drawn0.step)⟩

/-! ### spec_l9At: function 88 -/
def spec_l9At.f (k : Nat) (l0 : List Int) (a1 : Int) (a2 : Int) : Option (Bool) := (some (([] : List Int) : List Int)).bind fun y294 => (if y294.length + l0.length < 17592186044416 then ((some (y294 ++ l0 : List Int)).bind fun y297 => (if y297.length < 17592186044416 then ((some (y297 ++ [wrap64 (-a1)] : List Int)).bind fun y300 => (if (l0.length : Int) < 4 then ((spec_l4Vanishes.f k y300 a2).bind fun t303 => (some t303)) else (if a2 > 0 then (some true) else ((spec_l4Less.f k y300).bind fun t304 => (if t304 > 0 then ((spec_l4Less.f k y300).bind fun t305 => (some (decide (t305 < 5)))) else (some false)))))) else (none))) else (none))
set_option maxHeartbeats 8000000 in
set_option maxRecDepth 100000 in
theorem spec_l9At.calls (k : Nat) (A0 : Option Addr) (c0 : Nat) (l0 : List Int) (a1 : Int) (a2 : Int) (r : Bool) (w : World) (hr0 : Kd.C (Kd.int .i64) w A0 l0.length l0) (hc0 : l0.length ≤ c0) (h : spec_l9At.f k l0 a1 a2 = some r) :
    Calls Try.prog 88 #[.slice A0 l0.length c0, .int .i64 a1, .int .i64 a2] w fun e w' => e = .returned (.bool r) ∧ Below w.heap.size w w' := by
  have HR0 := Aside0.mk hr0
  have HC0 := Aside0.mk hc0
  clear hr0 hc0
  have HB := Aside0.mk (Below.refl w.heap.size w)
  have H : ((some (([] : List Int) : List Int)).bind fun y294 => (if y294.length + l0.length < 17592186044416 then ((some (y294 ++ l0 : List Int)).bind fun y297 => (if y297.length < 17592186044416 then ((some (y297 ++ [wrap64 (-a1)] : List Int)).bind fun y300 => (if (l0.length : Int) < 4 then ((spec_l4Vanishes.f k y300 a2).bind fun t303 => (some t303)) else (if a2 > 0 then (some true) else ((spec_l4Less.f k y300).bind fun t304 => (if t304 > 0 then ((spec_l4Less.f k y300).bind fun t305 => (some (decide (t305 < 5)))) else (some false)))))) else (none))) else (none))) = some r := h
  clear h
  obtain ⟨y294, hy294⟩ : ∃ y_ : List Int, y_ = (([] : List Int)) := ⟨_, rfl⟩
  replace H : (if y294.length + l0.length < 17592186044416 then ((some (y294 ++ l0 : List Int)).bind fun y297 => (if y297.length < 17592186044416 then ((some (y297 ++ [wrap64 (-a1)] : List Int)).bind fun y300 => (if (l0.length : Int) < 4 then ((spec_l4Vanishes.f k y300 a2).bind fun t303 => (some t303)) else (if a2 > 0 then (some true) else ((spec_l4Less.f k y300).bind fun t304 => (if t304 > 0 then ((spec_l4Less.f k y300).bind fun t305 => (some (decide (t305 < 5)))) else (some false)))))) else (none))) else (none)) = some r := by first | (rw [hy294]; with_reducible exact H) | (have H2_ := (Option.bind_some _ _).symm.trans H; rw [hy294]; with_reducible exact H2_) | (have H2_ := (Option.bind_some _ _).symm.trans H; with_reducible exact H2_) | with_reducible exact H | (rw [hy294]; exact H) | exact H
  have Ny294 := Aside0.mk hy294
  clear hy294
  by_cases c4 : y294.length + l0.length < 17592186044416
  · rw [if_pos c4] at H
    have LMc4 := Aside0.mk c4
    clear c4
    obtain ⟨y297, hy297⟩ : ∃ y_ : List Int, y_ = (y294 ++ l0) := ⟨_, rfl⟩
    replace H : (if y297.length < 17592186044416 then ((some (y297 ++ [wrap64 (-a1)] : List Int)).bind fun y300 => (if (l0.length : Int) < 4 then ((spec_l4Vanishes.f k y300 a2).bind fun t303 => (some t303)) else (if a2 > 0 then (some true) else ((spec_l4Less.f k y300).bind fun t304 => (if t304 > 0 then ((spec_l4Less.f k y300).bind fun t305 => (some (decide (t305 < 5)))) else (some false)))))) else (none)) = some r := by first | (rw [hy297]; with_reducible exact H) | (have H2_ := (Option.bind_some _ _).symm.trans H; rw [hy297]; with_reducible exact H2_) | (have H2_ := (Option.bind_some _ _).symm.trans H; with_reducible exact H2_) | with_reducible exact H | (rw [hy297]; exact H) | exact H
    have Ny297 := Aside0.mk hy297
    clear hy297
    by_cases c5 : y297.length < 17592186044416
    · rw [if_pos c5] at H
      have LMc5 := Aside0.mk c5
      clear c5
      obtain ⟨y300, hy300⟩ : ∃ y_ : List Int, y_ = (y297 ++ [wrap64 (-a1)]) := ⟨_, rfl⟩
      replace H : (if (l0.length : Int) < 4 then ((spec_l4Vanishes.f k y300 a2).bind fun t303 => (some t303)) else (if a2 > 0 then (some true) else ((spec_l4Less.f k y300).bind fun t304 => (if t304 > 0 then ((spec_l4Less.f k y300).bind fun t305 => (some (decide (t305 < 5)))) else (some false))))) = some r := by first | (rw [hy300]; with_reducible exact H) | (have H2_ := (Option.bind_some _ _).symm.trans H; rw [hy300]; with_reducible exact H2_) | (have H2_ := (Option.bind_some _ _).symm.trans H; with_reducible exact H2_) | with_reducible exact H | (rw [hy300]; exact H) | exact H
      have Ny300 := Aside0.mk hy300
      clear hy300
      by_cases c6 : (l0.length : Int) < 4
      · rw [if_pos c6] at H
        have c6b0 : decide ((l0.length : Int) < 4) = true := decide_eq_true c6
        have c6b1 : decide (l0.length < 4) = true := decide_eq_true (by omega)
        clear c6
        replace H := Option.bind_eq_some_iff.mp H
        obtain ⟨t303, A70, H⟩ := H
        replace H : (some t303) = some r := H
        have A7 := Aside0.mk A70
        clear A70
        obtain rfl := Option.some.inj H
        go_enter Try.func88, Try.ntmps88
        go_wp2_with (first | ((with_reducible refine gate_dst (N := 8) rfl ?_); refine Kd.R_lit (Kd.int .i64) _ 3 ?hg (N := 8) ?hd (xs := ([] : List Int)) (inner := []) (ok := fun _ => True) (okp := fun _ => True) ?hr ?hp (fun _ hk => hk) trivial (Below.refl _ _) (Nat.le_refl _) (by simp) ?_; (case hd => rfl); (case hg => rfl); (case hr => first | (go_simp; done) | (go_simp; rfl)); (case hp => exact (Reps.none _ _)); intro v295 w8 ho9 hb hg_ hnew_; clear hg_ hnew_; (first | rw [← Ny294.out] at ho9 | (simp only [Int.reduceToNat] at ho9; rw [← Ny294.out] at ho9)); have n0_ := Aside0.mk (Kd.R_lower ho9 (below_size (Sqz.auHB))); have n1_ := Aside0.mk (below_step (Sqz.auHB) hb); clear HB; have HO296 := n0_; have HB := n1_; clear n0_ n1_; clear hb ho9) | ((with_reducible refine gate_builtin (b := .append) (xs := #[.tmp 8, .tmp 9]) rfl ?_); at_builtin; refine Kd.R_append_rows (Kd.int .i64) (w0 := w) w.heap.size rfl (.tmp 8) (.tmp 9) 25 3 (.int .i64 0) 8 rfl Try.underlying25 info3 rfl (by decide) (by omega) v295 y294 l0 _ _ _ (fun _ => True) (fun _ => False) rfl rfl ?aO ?aR (fun _ _ h => h) (fun _ h => h.elim) ?aF ?aB ?aS ?aL ?_; (case aR => exact Sqz.mvC ((Kd.C_below HR0.out HB.out))); (case aB => exact (Sqz.auHB)); (case aF => exact (fun _ _ => trivial)); (case aO => exact ((Sqz.mvR HO296.out))); (case aS => exact (below_size (Sqz.auHB))); (case aL => have := LMc4.out; omega); intro v298 w10 ho hb hg hat; rw [← Ny297.out] at ho; have n0_ := Aside0.mk (hb); have n1_ := Aside0.mk (ho); clear HB; clear HO296; have HB := n0_; have HO299 := n1_; clear n0_ n1_; clear ho hb hg hat) | ((with_reducible refine gate_builtin (b := .append) (xs := #[.tmp 10, .tmp 13]) rfl ?_); at_builtin; refine Kd.R_append (Kd.int .i64) (w0 := w) w.heap.size rfl (.tmp 10) (.tmp 13) 25 3 (.int .i64 0) 8 rfl Try.underlying25 info3 rfl (by decide) (by omega) v298 y297 (wrap64 (-a1)) [.int .i64 (wrap64 (-a1))] (fun _ => True) (fun _ => False) rfl rfl ?aP (fun _ hk => hk.elim) ?aF ?aO ?aB ?aS ?aL ?_; (case aP => exact rfl); (case aB => exact (Sqz.auHB)); (case aF => exact (fun _ _ => trivial)); (case aO => exact ((Sqz.mvR HO299.out))); (case aS => exact (below_size (Sqz.auHB))); (case aL => have := LMc5.out; omega); intro v301 w11 ho hb hg hat; rw [← Ny300.out] at ho; have n0_ := Aside0.mk (hb); have n1_ := Aside0.mk (ho); clear HB; clear HO299; have HB := n0_; have HO302 := n1_; clear n0_ n1_; clear ho hb hg hat; obtain ⟨Ao12, co12, eo12⟩ := Kd.R_slice HO302.out; subst eo12) | ((with_reducible refine gate_callee (f := 133) rfl ?_); refine goesL_ (some 20) rfl rfl Try.func133 (by kernel_rfl) rfl #[.slice Ao12 y300.length co12, .int .i64 a2] rfl Sqz.auM ?_; (with_reducible refine (spec_l4Vanishes.calls k _ _ y300 a2 t303 _ ?side1 ?side2 A7.out).mono ?_); (case side1 => exact Sqz.mvC ((Kd.R_reads' HO302.out).2.2)); (case side2 => exact (Kd.R_reads' HO302.out).2.1); rintro e w' ⟨rfl, ⟨nd, rfl⟩⟩; refine ⟨_, rfl, ?_⟩))
        go_ret
        exact ⟨Sqz.auR, Sqz.auHB⟩
      · rw [if_neg c6] at H
        have c6b0 : decide ((l0.length : Int) < 4) = false := decide_eq_false c6
        have c6b1 : decide (l0.length < 4) = false := decide_eq_false (by omega)
        clear c6
        by_cases c13 : a2 > 0
        · rw [if_pos c13] at H
          have c13b0 : decide (0 < a2) = true := decide_eq_true c13
          clear c13
          obtain rfl := Option.some.inj H
          go_enter Try.func88, Try.ntmps88
          go_wp2_with (first | ((with_reducible refine gate_dst (N := 8) rfl ?_); refine Kd.R_lit (Kd.int .i64) _ 3 ?hg (N := 8) ?hd (xs := ([] : List Int)) (inner := []) (ok := fun _ => True) (okp := fun _ => True) ?hr ?hp (fun _ hk => hk) trivial (Below.refl _ _) (Nat.le_refl _) (by simp) ?_; (case hd => rfl); (case hg => rfl); (case hr => first | (go_simp; done) | (go_simp; rfl)); (case hp => exact (Reps.none _ _)); intro v295 w14 ho15 hb hg_ hnew_; clear hg_ hnew_; (first | rw [← Ny294.out] at ho15 | (simp only [Int.reduceToNat] at ho15; rw [← Ny294.out] at ho15)); have n0_ := Aside0.mk (Kd.R_lower ho15 (below_size (Sqz.auHB))); have n1_ := Aside0.mk (below_step (Sqz.auHB) hb); clear HB; have HO296 := n0_; have HB := n1_; clear n0_ n1_; clear hb ho15) | ((with_reducible refine gate_builtin (b := .append) (xs := #[.tmp 8, .tmp 9]) rfl ?_); at_builtin; refine Kd.R_append_rows (Kd.int .i64) (w0 := w) w.heap.size rfl (.tmp 8) (.tmp 9) 25 3 (.int .i64 0) 8 rfl Try.underlying25 info3 rfl (by decide) (by omega) v295 y294 l0 _ _ _ (fun _ => True) (fun _ => False) rfl rfl ?aO ?aR (fun _ _ h => h) (fun _ h => h.elim) ?aF ?aB ?aS ?aL ?_; (case aR => exact Sqz.mvC ((Kd.C_below HR0.out HB.out))); (case aB => exact (Sqz.auHB)); (case aF => exact (fun _ _ => trivial)); (case aO => exact ((Sqz.mvR HO296.out))); (case aS => exact (below_size (Sqz.auHB))); (case aL => have := LMc4.out; omega); intro v298 w16 ho hb hg hat; rw [← Ny297.out] at ho; have n0_ := Aside0.mk (hb); have n1_ := Aside0.mk (ho); clear HB; clear HO296; have HB := n0_; have HO299 := n1_; clear n0_ n1_; clear ho hb hg hat) | ((with_reducible refine gate_builtin (b := .append) (xs := #[.tmp 10, .tmp 13]) rfl ?_); at_builtin; refine Kd.R_append (Kd.int .i64) (w0 := w) w.heap.size rfl (.tmp 10) (.tmp 13) 25 3 (.int .i64 0) 8 rfl Try.underlying25 info3 rfl (by decide) (by omega) v298 y297 (wrap64 (-a1)) [.int .i64 (wrap64 (-a1))] (fun _ => True) (fun _ => False) rfl rfl ?aP (fun _ hk => hk.elim) ?aF ?aO ?aB ?aS ?aL ?_; (case aP => exact rfl); (case aB => exact (Sqz.auHB)); (case aF => exact (fun _ _ => trivial)); (case aO => exact ((Sqz.mvR HO299.out))); (case aS => exact (below_size (Sqz.auHB))); (case aL => have := LMc5.out; omega); intro v301 w17 ho hb hg hat; rw [← Ny300.out] at ho; have n0_ := Aside0.mk (hb); have n1_ := Aside0.mk (ho); clear HB; clear HO299; have HB := n0_; have HO302 := n1_; clear n0_ n1_; clear ho hb hg hat))
          go_ret
          exact ⟨Sqz.auR, Sqz.auHB⟩
        · rw [if_neg c13] at H
          have c13b0 : decide (0 < a2) = false := decide_eq_false c13
          clear c13
          replace H := Option.bind_eq_some_iff.mp H
          obtain ⟨t304, A180, H⟩ := H
          replace H : (if t304 > 0 then ((spec_l4Less.f k y300).bind fun t305 => (some (decide (t305 < 5)))) else (some false)) = some r := H
          have A18 := Aside0.mk A180
          clear A180
          by_cases c19 : t304 > 0
          · rw [if_pos c19] at H
            have c19b0 : decide (0 < t304) = true := decide_eq_true c19
            clear c19
            replace H := Option.bind_eq_some_iff.mp H
            obtain ⟨t305, A200, H⟩ := H
            replace H : (some (decide (t305 < 5))) = some r := H
            have A20 := Aside0.mk A200
            obtain rfl : t304 = t305 := Option.some.inj (A18.out.symm.trans A20.out)
            clear A200
            obtain rfl := Option.some.inj H
            go_enter Try.func88, Try.ntmps88
            go_wp2_with (first | ((with_reducible refine gate_dst (N := 8) rfl ?_); refine Kd.R_lit (Kd.int .i64) _ 3 ?hg (N := 8) ?hd (xs := ([] : List Int)) (inner := []) (ok := fun _ => True) (okp := fun _ => True) ?hr ?hp (fun _ hk => hk) trivial (Below.refl _ _) (Nat.le_refl _) (by simp) ?_; (case hd => rfl); (case hg => rfl); (case hr => first | (go_simp; done) | (go_simp; rfl)); (case hp => exact (Reps.none _ _)); intro v295 w21 ho22 hb hg_ hnew_; clear hg_ hnew_; (first | rw [← Ny294.out] at ho22 | (simp only [Int.reduceToNat] at ho22; rw [← Ny294.out] at ho22)); have n0_ := Aside0.mk (Kd.R_lower ho22 (below_size (Sqz.auHB))); have n1_ := Aside0.mk (below_step (Sqz.auHB) hb); clear HB; have HO296 := n0_; have HB := n1_; clear n0_ n1_; clear hb ho22) | ((with_reducible refine gate_builtin (b := .append) (xs := #[.tmp 8, .tmp 9]) rfl ?_); at_builtin; refine Kd.R_append_rows (Kd.int .i64) (w0 := w) w.heap.size rfl (.tmp 8) (.tmp 9) 25 3 (.int .i64 0) 8 rfl Try.underlying25 info3 rfl (by decide) (by omega) v295 y294 l0 _ _ _ (fun _ => True) (fun _ => False) rfl rfl ?aO ?aR (fun _ _ h => h) (fun _ h => h.elim) ?aF ?aB ?aS ?aL ?_; (case aR => exact Sqz.mvC ((Kd.C_below HR0.out HB.out))); (case aB => exact (Sqz.auHB)); (case aF => exact (fun _ _ => trivial)); (case aO => exact ((Sqz.mvR HO296.out))); (case aS => exact (below_size (Sqz.auHB))); (case aL => have := LMc4.out; omega); intro v298 w23 ho hb hg hat; rw [← Ny297.out] at ho; have n0_ := Aside0.mk (hb); have n1_ := Aside0.mk (ho); clear HB; clear HO296; have HB := n0_; have HO299 := n1_; clear n0_ n1_; clear ho hb hg hat) | ((with_reducible refine gate_builtin (b := .append) (xs := #[.tmp 10, .tmp 13]) rfl ?_); at_builtin; refine Kd.R_append (Kd.int .i64) (w0 := w) w.heap.size rfl (.tmp 10) (.tmp 13) 25 3 (.int .i64 0) 8 rfl Try.underlying25 info3 rfl (by decide) (by omega) v298 y297 (wrap64 (-a1)) [.int .i64 (wrap64 (-a1))] (fun _ => True) (fun _ => False) rfl rfl ?aP (fun _ hk => hk.elim) ?aF ?aO ?aB ?aS ?aL ?_; (case aP => exact rfl); (case aB => exact (Sqz.auHB)); (case aF => exact (fun _ _ => trivial)); (case aO => exact ((Sqz.mvR HO299.out))); (case aS => exact (below_size (Sqz.auHB))); (case aL => have := LMc5.out; omega); intro v301 w24 ho hb hg hat; rw [← Ny300.out] at ho; have n0_ := Aside0.mk (hb); have n1_ := Aside0.mk (ho); clear HB; clear HO299; have HB := n0_; have HO302 := n1_; clear n0_ n1_; clear ho hb hg hat; obtain ⟨Ao25, co25, eo25⟩ := Kd.R_slice HO302.out; subst eo25) | (go_at_call 130; (with_reducible refine (spec_l4Less.calls k _ _ y300 t304 _ ?side1 ?side2 A18.out).mono ?_); (case side1 => exact Sqz.mvC ((Kd.R_reads' HO302.out).2.2)); (case side2 => exact (Kd.R_reads' HO302.out).2.1); rintro e w' ⟨rfl, ⟨nd, rfl⟩⟩) | (go_at_call 130; (with_reducible refine (spec_l4Less.calls k _ _ y300 t305 _ ?side1 ?side2 A20.out).mono ?_); (case side1 => exact Sqz.mvC ((Kd.R_reads' HO302.out).2.2)); (case side2 => exact (Kd.R_reads' HO302.out).2.1); rintro e w' ⟨rfl, ⟨nd, rfl⟩⟩))
            go_ret
            exact ⟨Sqz.auR, Sqz.auHB⟩
          · rw [if_neg c19] at H
            have c19b0 : decide (0 < t304) = false := decide_eq_false c19
            clear c19
            obtain rfl := Option.some.inj H
            go_enter Try.func88, Try.ntmps88
            go_wp2_with (first | ((with_reducible refine gate_dst (N := 8) rfl ?_); refine Kd.R_lit (Kd.int .i64) _ 3 ?hg (N := 8) ?hd (xs := ([] : List Int)) (inner := []) (ok := fun _ => True) (okp := fun _ => True) ?hr ?hp (fun _ hk => hk) trivial (Below.refl _ _) (Nat.le_refl _) (by simp) ?_; (case hd => rfl); (case hg => rfl); (case hr => first | (go_simp; done) | (go_simp; rfl)); (case hp => exact (Reps.none _ _)); intro v295 w26 ho27 hb hg_ hnew_; clear hg_ hnew_; (first | rw [← Ny294.out] at ho27 | (simp only [Int.reduceToNat] at ho27; rw [← Ny294.out] at ho27)); have n0_ := Aside0.mk (Kd.R_lower ho27 (below_size (Sqz.auHB))); have n1_ := Aside0.mk (below_step (Sqz.auHB) hb); clear HB; have HO296 := n0_; have HB := n1_; clear n0_ n1_; clear hb ho27) | ((with_reducible refine gate_builtin (b := .append) (xs := #[.tmp 8, .tmp 9]) rfl ?_); at_builtin; refine Kd.R_append_rows (Kd.int .i64) (w0 := w) w.heap.size rfl (.tmp 8) (.tmp 9) 25 3 (.int .i64 0) 8 rfl Try.underlying25 info3 rfl (by decide) (by omega) v295 y294 l0 _ _ _ (fun _ => True) (fun _ => False) rfl rfl ?aO ?aR (fun _ _ h => h) (fun _ h => h.elim) ?aF ?aB ?aS ?aL ?_; (case aR => exact Sqz.mvC ((Kd.C_below HR0.out HB.out))); (case aB => exact (Sqz.auHB)); (case aF => exact (fun _ _ => trivial)); (case aO => exact ((Sqz.mvR HO296.out))); (case aS => exact (below_size (Sqz.auHB))); (case aL => have := LMc4.out; omega); intro v298 w28 ho hb hg hat; rw [← Ny297.out] at ho; have n0_ := Aside0.mk (hb); have n1_ := Aside0.mk (ho); clear HB; clear HO296; have HB := n0_; have HO299 := n1_; clear n0_ n1_; clear ho hb hg hat) | ((with_reducible refine gate_builtin (b := .append) (xs := #[.tmp 10, .tmp 13]) rfl ?_); at_builtin; refine Kd.R_append (Kd.int .i64) (w0 := w) w.heap.size rfl (.tmp 10) (.tmp 13) 25 3 (.int .i64 0) 8 rfl Try.underlying25 info3 rfl (by decide) (by omega) v298 y297 (wrap64 (-a1)) [.int .i64 (wrap64 (-a1))] (fun _ => True) (fun _ => False) rfl rfl ?aP (fun _ hk => hk.elim) ?aF ?aO ?aB ?aS ?aL ?_; (case aP => exact rfl); (case aB => exact (Sqz.auHB)); (case aF => exact (fun _ _ => trivial)); (case aO => exact ((Sqz.mvR HO299.out))); (case aS => exact (below_size (Sqz.auHB))); (case aL => have := LMc5.out; omega); intro v301 w29 ho hb hg hat; rw [← Ny300.out] at ho; have n0_ := Aside0.mk (hb); have n1_ := Aside0.mk (ho); clear HB; clear HO299; have HB := n0_; have HO302 := n1_; clear n0_ n1_; clear ho hb hg hat; obtain ⟨Ao30, co30, eo30⟩ := Kd.R_slice HO302.out; subst eo30) | (go_at_call 130; (with_reducible refine (spec_l4Less.calls k _ _ y300 t304 _ ?side1 ?side2 A18.out).mono ?_); (case side1 => exact Sqz.mvC ((Kd.R_reads' HO302.out).2.2)); (case side2 => exact (Kd.R_reads' HO302.out).2.1); rintro e w' ⟨rfl, ⟨nd, rfl⟩⟩))
            go_ret
            exact ⟨Sqz.auR, Sqz.auHB⟩
    · rw [if_neg c5] at H
      exact absurd H (by simp)
  · rw [if_neg c4] at H
    exact absurd H (by simp)

/-! ### spec_l1Size: function 144 -/
def spec_l1Size.f (a0 : Int) : Option (Int) := some (mx a0 (wrap64 (-a0)))
set_option maxHeartbeats 8000000 in
set_option maxRecDepth 100000 in
theorem spec_l1Size.calls (a0 : Int) (r : Int) (w : World) (h : spec_l1Size.f a0 = some r) :
    Calls Try.prog 144 #[.int .i64 a0] w fun e w' => e = .returned (.int .i64 r) ∧ Below w.heap.size w w' := by
  have HB := Aside0.mk (Below.refl w.heap.size w)
  have H : (some (mx a0 (wrap64 (-a0)))) = some r := h
  clear h
  obtain ⟨ji2, hji2⟩ : ∃ j_ : Int, (mx a0 (wrap64 (-a0))) = j_ := ⟨_, rfl⟩
  replace H : (some ji2) = some r := by first | (rw [hji2] at H; exact H) | (simp only [hji2] at H ⊢; exact H)
  have hji2_ : (if a0 < (wrap64 (-a0)) then (wrap64 (-a0)) else a0) = ji2 := hji2
  obtain rfl := Option.some.inj H
  go_enter Try.func144, Try.ntmps144
  go_wp2
  go_ret
  exact ⟨by first | rfl | (simp [errW_none, errW_some] <;> rfl) | (simp only [← hji2]; first | rfl | (simp [errW_none, errW_some] <;> rfl)) | (simp [*, errW_none, errW_some] <;> rfl), Sqz.auHB⟩

/-! ### spec_l1Primes: function 142 -/
mutual
def spec_l1Primes.l0 : Nat → Int → List Int → Int → Option (List Int)
  | 0, _, _, _ => none
  | k + 1, x0, x3, x4 => if (wrap64 (x4 * x4)) ≤ x0 then (if x4 = 0 then (none) else (if (Int.tmod x0 x4) = 0 then (if x3.length < 17592186044416 then (spec_l1Primes.j1 k x0 (x3 ++ [x4]) x4) else (none)) else (spec_l1Primes.j1 k x0 x3 x4))) else (if x0 > 1 then (if x3.length < 17592186044416 then (some (x3 ++ [x0])) else (none)) else (some x3))
def spec_l1Primes.j1 : Nat → Int → List Int → Int → Option (List Int)
  | 0, _, _, _ => none
  | k + 1, x0, x3, x4 => spec_l1Primes.l1 k x0 x3 x4
def spec_l1Primes.l1 : Nat → Int → List Int → Int → Option (List Int)
  | 0, _, _, _ => none
  | k + 1, x0, x3, x4 => if x4 = 0 then (none) else (if (Int.tmod x0 x4) = 0 then (spec_l1Primes.l1 k (wrap64 (Int.tdiv x0 x4)) x3 x4) else (spec_l1Primes.l0 k x0 x3 (wrap64 (x4 + 1))))
end
def spec_l1Primes.f (k : Nat) (a0 : Int) : Option (List Int) := (spec_l1Size.f a0).bind fun t309 => (spec_l1Primes.l0 k t309 (([] : List Int)) 2)
set_option maxHeartbeats 8000000 in
set_option maxRecDepth 100000 in
theorem spec_l1Primes.calls (k : Nat) (a0 : Int) (r : List Int) (w : World) (h : spec_l1Primes.f k a0 = some r) :
    Calls Try.prog 142 #[.int .i64 a0] w fun e w' => ∃ v0_ : Value, e = .returned (v0_) ∧ Kd.R (Kd.int .i64) 3 w' w.heap.size (fun _ => True) v0_ r ∧ Below w.heap.size w w' := by
  have HB := Aside0.mk (Below.refl w.heap.size w)
  have H : ((spec_l1Size.f a0).bind fun t309 => (spec_l1Primes.l0 k t309 (([] : List Int)) 2)) = some r := h
  clear h
  obtain ⟨y306, hy306⟩ : ∃ y_ : List Int, y_ = (([] : List Int)) := ⟨_, rfl⟩
  replace H : ((spec_l1Size.f a0).bind fun t309 => (spec_l1Primes.l0 k t309 y306 2)) = some r := by first | (rw [hy306]; with_reducible exact H) | (have H2_ := (Option.bind_some _ _).symm.trans H; rw [hy306]; with_reducible exact H2_) | (have H2_ := (Option.bind_some _ _).symm.trans H; with_reducible exact H2_) | with_reducible exact H | (rw [hy306]; exact H) | exact H
  have Ny306 := Aside0.mk hy306
  clear hy306
  replace H := Option.bind_eq_some_iff.mp H
  obtain ⟨t309, A20, H⟩ := H
  replace H : (spec_l1Primes.l0 k t309 y306 2) = some r := H
  have A2 := Aside0.mk A20
  clear A20
  have H' := Aside0.mk H
  clear H
  go_enter Try.func142, Try.ntmps142
  go_wp2_with (first | ((with_reducible refine gate_dst (N := 5) rfl ?_); refine Kd.R_lit (Kd.int .i64) _ 3 ?hg (N := 5) ?hd (xs := ([] : List Int)) (inner := []) (ok := fun _ => True) (okp := fun _ => True) ?hr ?hp (fun _ hk => hk) trivial (Below.refl _ _) (Nat.le_refl _) (by simp) ?_; (case hd => rfl); (case hg => rfl); (case hr => first | (go_simp; done) | (go_simp; rfl)); (case hp => exact (Reps.none _ _)); intro v307 w3 ho4 hb hg_ hnew_; clear hg_ hnew_; (first | rw [← Ny306.out] at ho4 | (simp only [Int.reduceToNat] at ho4; rw [← Ny306.out] at ho4)); have n0_ := Aside0.mk (Kd.R_lower ho4 (below_size (Sqz.auHB))); have n1_ := Aside0.mk (below_step (Sqz.auHB) hb); clear HB; have HO308 := n0_; have HB := n1_; clear n0_ n1_; clear hb ho4) | ((with_reducible refine gate_callee (f := 144) rfl ?_); refine goesL_ (some 7) rfl rfl Try.func144 (by kernel_rfl) rfl #[.int .i64 a0] rfl Sqz.auM ?_; (with_reducible refine (spec_l1Size.calls a0 t309 _ A2.out).mono ?_); rintro e w5 ⟨rfl, hb⟩; refine ⟨_, rfl, ?_⟩; have n0_ := Aside0.mk (Kd.R_below ((Sqz.mvR HO308.out)) hb); have n1_ := Aside0.mk (below_step (Sqz.auHB) hb); clear HO308; clear HB; have HO308 := n0_; have HB := n1_; clear n0_ n1_; (try clear hb); (try clear hb2); (try clear hk); (try clear hi)))
  go_loopg [0, 3, 4] k (fun kq v0 v3 v4 w' => ∃ (x0_1 : Int) (x3_1 : List Int) (x4_1 : Int), v0 = .int .i64 x0_1 ∧ v4 = .int .i64 x4_1 ∧ Aside0 (spec_l1Primes.l0 kq x0_1 x3_1 x4_1 = some r) ∧ Aside0 (kq ≤ k) ∧ Aside0 (Kd.R (Kd.int .i64) 3 w' w.heap.size (fun _ => True) v3 x3_1) ∧ Aside0 (Below w.heap.size w w'))
  case atStart => exact ⟨(t309), (y306), (2), Sqz.auS, Sqz.auS, H', ⟨Nat.le_refl _⟩, ⟨(Sqz.mvR HO308.out)⟩, ⟨Sqz.auHB⟩⟩
  case round =>
    clear H'
    try clear c1
    try clear p2
    obtain ⟨x0_1, x3_1, x4_1, rfl, rfl, HA, HK1, HO_3, HB⟩ := hrel
    cases gk with
    | zero => exact absurd HA.out (by simp [spec_l1Primes.l0])
    | succ k1 =>
      have H := HA.out
      clear HA
      simp only [spec_l1Primes.l0] at H
      by_cases c6 : (wrap64 (x4_1 * x4_1)) ≤ x0_1
      · rw [if_pos c6] at H
        have c6b0 : decide ((wrap64 (x4_1 * x4_1)) ≤ x0_1) = true := decide_eq_true c6
        clear c6
        by_cases c7 : x4_1 = 0
        · rw [if_pos c7] at H
          exact absurd H (by simp)
        · rw [if_neg c7] at H
          have c7b0 : (x4_1 == 0) = false := beq_eq_false_iff_ne.mpr c7
          have c7b1 : (x4_1 != 0) = true := bne_iff_ne.mpr c7
          have HC8 := Aside0.mk H
          clear H
          go_upto_if 18 with (fail)
          go_cut [3] (fun v3 wc => ∃ (kq : Nat) (x3_7 : List Int), Aside0 (spec_l1Primes.j1 kq x0_1 x3_7 x4_1 = some r) ∧ Aside0 (kq ≤ k1) ∧ Aside0 (Kd.R (Kd.int .i64) 3 wc w.heap.size (fun _ => True) v3 x3_7) ∧ Aside0 (Below w.heap.size w wc))
          case first =>
            have H := HC8.out
            clear HC8
            by_cases c9 : (Int.tmod x0_1 x4_1) = 0
            · rw [if_pos c9] at H
              have c9b0 : ((Int.tmod x0_1 x4_1) == 0) = true := beq_iff_eq.mpr c9
              have c9b1 : ((Int.tmod x0_1 x4_1) != 0) = false := bne_eq_false_iff_eq.mpr c9
              clear c9
              (first | rw [c9b0] | (simp only [i64_w, i32_w]; rw [c9b0]) | skip)
              by_cases c10 : x3_1.length < 17592186044416
              · rw [if_pos c10] at H
                have LMc10 := Aside0.mk c10
                clear c10
                obtain ⟨y313, hy313⟩ : ∃ y_ : List Int, y_ = (x3_1 ++ [x4_1]) := ⟨_, rfl⟩
                replace H : (spec_l1Primes.j1 k1 x0_1 y313 x4_1) = some r := by first | (rw [hy313]; with_reducible exact H) | (have H2_ := (Option.bind_some _ _).symm.trans H; rw [hy313]; with_reducible exact H2_) | (have H2_ := (Option.bind_some _ _).symm.trans H; with_reducible exact H2_) | with_reducible exact H | (rw [hy313]; exact H) | exact H
                have Ny313 := Aside0.mk hy313
                clear hy313
                have H' := Aside0.mk H
                clear H
                go_wp2_with (first | ((with_reducible refine gate_builtin (b := .append) (xs := #[.tmp 19, .tmp 21]) rfl ?_); at_builtin; refine Kd.R_append (Kd.int .i64) (w0 := w) w.heap.size rfl (.tmp 19) (.tmp 21) 25 3 (.int .i64 0) 8 rfl Try.underlying25 info3 rfl (by decide) (by omega) u3 x3_1 x4_1 [.int .i64 x4_1] (fun _ => True) (fun _ => False) rfl rfl ?aP (fun _ hk => hk.elim) ?aF ?aO ?aB ?aS ?aL ?_; (case aP => exact rfl); (case aB => exact (Sqz.auHB)); (case aF => exact (fun _ _ => trivial)); (case aO => exact ((Sqz.mvR HO_3.out))); (case aS => exact (below_size (Sqz.auHB))); (case aL => have := LMc10.out; omega); intro v314 w11 ho hb hg hat; rw [← Ny313.out] at ho; have n0_ := Aside0.mk (hb); have n1_ := Aside0.mk (ho); clear HB; clear HO_3; have HB := n0_; have HO315 := n1_; clear n0_ n1_; clear ho hb hg hat))
                go_meet
                case rel => exact ⟨_, (y313), H', ⟨by have := HK1.out; first | omega | exact Nat.le_refl _⟩, ⟨(Sqz.mvR HO315.out)⟩, ⟨Sqz.auHB⟩⟩
              · rw [if_neg c10] at H
                exact absurd H (by simp)
            · rw [if_neg c9] at H
              have c9b0 : ((Int.tmod x0_1 x4_1) == 0) = false := beq_eq_false_iff_ne.mpr c9
              have c9b1 : ((Int.tmod x0_1 x4_1) != 0) = true := bne_iff_ne.mpr c9
              (first | rw [c9b0] | (simp only [i64_w, i32_w]; rw [c9b0]) | skip)
              have H' := Aside0.mk H
              clear H
              go_wp2
              go_meet
              case rel => exact ⟨_, (x3_1), H', ⟨by have := HK1.out; first | omega | exact Nat.le_refl _⟩, ⟨(Sqz.mvR HO_3.out)⟩, ⟨Sqz.auHB⟩⟩
          case rest =>
            clear HC8
            try clear c1
            try clear p2
            try clear c6
            try clear c6b0
            try clear p6
            try clear c7
            try clear c7b0
            try clear c7b1
            try clear c9
            try clear c9b0
            try clear c9b1
            try clear c10
            try clear p2
            obtain ⟨kq, x3_7, HA, HJ7, HO_3, HB⟩ := hcut
            cases kq with
            | zero => exact absurd HA.out (by simp [spec_l1Primes.j1])
            | succ kj7 =>
              have H := HA.out
              clear HA
              simp only [spec_l1Primes.j1] at H
              have H' := Aside0.mk H
              clear H
              go_wp2
              go_loopg [0] kj7 (fun kq v0 w' => ∃ (x0_3 : Int), v0 = .int .i64 x0_3 ∧ Aside0 (spec_l1Primes.l1 kq x0_3 x3_7 x4_1 = some r) ∧ Aside0 (kq ≤ kj7) ∧ Aside0 (Kd.R (Kd.int .i64) 3 w' w.heap.size (fun _ => True) u3 x3_7) ∧ Aside0 (Below w.heap.size w w'))
              case atStart => exact ⟨(x0_1), Sqz.auS, H', ⟨Nat.le_refl _⟩, ⟨(Sqz.mvR HO_3.out)⟩, ⟨Sqz.auHB⟩⟩
              case round =>
                clear H'
                try clear c1
                try clear p2
                try clear c6
                try clear c6b0
                try clear p6
                try clear c7
                try clear c7b0
                try clear c7b1
                try clear c9
                try clear c9b0
                try clear c9b1
                try clear c10
                try clear p2
                try clear p6
                obtain ⟨x0_3, rfl, HA, HK3, HO_3, HB⟩ := hrel
                cases gk with
                | zero => exact absurd HA.out (by simp [spec_l1Primes.l1])
                | succ k3 =>
                  have H := HA.out
                  clear HA
                  simp only [spec_l1Primes.l1] at H
                  by_cases c12 : x4_1 = 0
                  · rw [if_pos c12] at H
                    exact absurd H (by simp)
                  · rw [if_neg c12] at H
                    have c12b0 : (x4_1 == 0) = false := beq_eq_false_iff_ne.mpr c12
                    have c12b1 : (x4_1 != 0) = true := bne_iff_ne.mpr c12
                    by_cases c13 : (Int.tmod x0_3 x4_1) = 0
                    · rw [if_pos c13] at H
                      have c13b0 : ((Int.tmod x0_3 x4_1) == 0) = true := beq_iff_eq.mpr c13
                      have c13b1 : ((Int.tmod x0_3 x4_1) != 0) = false := bne_eq_false_iff_eq.mpr c13
                      clear c13
                      have H' := Aside0.mk H
                      clear H
                      go_wp2
                      go_roundg k3
                      case measure => have := HK1.out; have := HJ7.out; have := HK3.out; omega
                      case rel => exact ⟨(wrap64 (Int.tdiv x0_3 x4_1)), Sqz.auS, H', ⟨by have := HK1.out; have := HJ7.out; have := HK3.out; omega⟩, ⟨(Sqz.mvR HO_3.out)⟩, ⟨Sqz.auHB⟩⟩
                    · rw [if_neg c13] at H
                      have c13b0 : ((Int.tmod x0_3 x4_1) == 0) = false := beq_eq_false_iff_ne.mpr c13
                      have c13b1 : ((Int.tmod x0_3 x4_1) != 0) = true := bne_iff_ne.mpr c13
                      have H' := Aside0.mk H
                      clear H
                      go_wp2
                      go_roundg k3
                      case measure => have := HK1.out; have := HJ7.out; have := HK3.out; omega
                      case rel => exact ⟨(x0_3), (x3_7), (wrap64 (x4_1 + 1)), Sqz.auS, Sqz.auS, H', ⟨by have := HK1.out; have := HJ7.out; have := HK3.out; omega⟩, ⟨(Sqz.mvR HO_3.out)⟩, ⟨Sqz.auHB⟩⟩
      · rw [if_neg c6] at H
        have c6b0 : decide ((wrap64 (x4_1 * x4_1)) ≤ x0_1) = false := decide_eq_false c6
        clear c6
        by_cases c14 : x0_1 > 1
        · rw [if_pos c14] at H
          have c14b0 : decide (1 < x0_1) = true := decide_eq_true c14
          clear c14
          by_cases c15 : x3_1.length < 17592186044416
          · rw [if_pos c15] at H
            have LMc15 := Aside0.mk c15
            clear c15
            obtain ⟨y310, hy310⟩ : ∃ y_ : List Int, y_ = (x3_1 ++ [x0_1]) := ⟨_, rfl⟩
            replace H : (some y310) = some r := by first | (rw [hy310]; with_reducible exact H) | (have H2_ := (Option.bind_some _ _).symm.trans H; rw [hy310]; with_reducible exact H2_) | (have H2_ := (Option.bind_some _ _).symm.trans H; with_reducible exact H2_) | with_reducible exact H | (rw [hy310]; exact H) | exact H
            have Ny310 := Aside0.mk hy310
            clear hy310
            obtain rfl := Option.some.inj H
            go_wp2_with (first | ((with_reducible refine gate_builtin (b := .append) (xs := #[.tmp 32, .tmp 34]) rfl ?_); at_builtin; refine Kd.R_append (Kd.int .i64) (w0 := w) w.heap.size rfl (.tmp 32) (.tmp 34) 25 3 (.int .i64 0) 8 rfl Try.underlying25 info3 rfl (by decide) (by omega) u3 x3_1 x0_1 [.int .i64 x0_1] (fun _ => True) (fun _ => False) rfl rfl ?aP (fun _ hk => hk.elim) ?aF ?aO ?aB ?aS ?aL ?_; (case aP => exact rfl); (case aB => exact (Sqz.auHB)); (case aF => exact (fun _ _ => trivial)); (case aO => exact ((Sqz.mvR HO_3.out))); (case aS => exact (below_size (Sqz.auHB))); (case aL => have := LMc15.out; omega); intro v311 w16 ho hb hg hat; rw [← Ny310.out] at ho; have n0_ := Aside0.mk (hb); have n1_ := Aside0.mk (ho); clear HB; clear HO_3; have HB := n0_; have HO312 := n1_; clear n0_ n1_; clear ho hb hg hat))
            go_ret
            exact ⟨_, Sqz.auR, (Sqz.mvR HO312.out), Sqz.auHB⟩
          · rw [if_neg c15] at H
            exact absurd H (by simp)
        · rw [if_neg c14] at H
          have c14b0 : decide (1 < x0_1) = false := decide_eq_false c14
          clear c14
          obtain rfl := Option.some.inj H
          go_wp2
          go_ret
          exact ⟨_, Sqz.auR, (Sqz.mvR HO_3.out), Sqz.auHB⟩

/-! ### spec_l2Places: function 102 -/
def spec_l2Places.l0 : Nat → List Int → List Int → Int → Option (List Int)
  | 0, _, _, _ => none
  | k + 1, x3, x4, x5 => if x5 < (x4.length : Int) then (if 0 ≤ x5 then (if (rd x4 x5) > 2 then (if x3.length < 17592186044416 then (spec_l2Places.l0 k (x3 ++ [rd x4 x5]) x4 (wrap64 (x5 + 1))) else (none)) else (spec_l2Places.l0 k x3 x4 (wrap64 (x5 + 1)))) else (none)) else (some x3)
def spec_l2Places.f (k : Nat) (a0 : Int) : Option (List Int) := (spec_l1Primes.f k a0).bind fun t319 => (spec_l2Places.l0 k (([0, 2] : List Int)) t319 0)
set_option maxHeartbeats 8000000 in
set_option maxRecDepth 100000 in
theorem spec_l2Places.calls (k : Nat) (a0 : Int) (r : List Int) (w : World) (h : spec_l2Places.f k a0 = some r) :
    Calls Try.prog 102 #[.int .i64 a0] w fun e w' => ∃ v0_ : Value, e = .returned (v0_) ∧ Kd.R (Kd.int .i64) 3 w' w.heap.size (fun _ => True) v0_ r ∧ Below w.heap.size w w' := by
  have HB := Aside0.mk (Below.refl w.heap.size w)
  have H : ((spec_l1Primes.f k a0).bind fun t319 => (spec_l2Places.l0 k (([0, 2] : List Int)) t319 0)) = some r := h
  clear h
  obtain ⟨y316, hy316⟩ : ∃ y_ : List Int, y_ = (([0, 2] : List Int)) := ⟨_, rfl⟩
  replace H : ((spec_l1Primes.f k a0).bind fun t319 => (spec_l2Places.l0 k y316 t319 0)) = some r := by first | (rw [hy316]; with_reducible exact H) | (have H2_ := (Option.bind_some _ _).symm.trans H; rw [hy316]; with_reducible exact H2_) | (have H2_ := (Option.bind_some _ _).symm.trans H; with_reducible exact H2_) | with_reducible exact H | (rw [hy316]; exact H) | exact H
  have Ny316 := Aside0.mk hy316
  clear hy316
  replace H := Option.bind_eq_some_iff.mp H
  obtain ⟨t319, A20, H⟩ := H
  replace H : (spec_l2Places.l0 k y316 t319 0) = some r := H
  have A2 := Aside0.mk A20
  clear A20
  have H' := Aside0.mk H
  clear H
  go_enter Try.func102, Try.ntmps102
  go_wp2_with (first | ((with_reducible refine gate_dst (N := 6) rfl ?_); refine Kd.R_lit (Kd.int .i64) _ 3 ?hg (N := 6) ?hd (xs := ([0, 2] : List Int)) (inner := [.int .i64 0, .int .i64 2]) (ok := fun _ => True) (okp := fun _ => True) ?hr ?hp (fun _ hk => hk) trivial (Below.refl _ _) (Nat.le_refl _) (by simp) ?_; (case hd => rfl); (case hg => rfl); (case hr => first | (go_simp; done) | (go_simp; rfl)); (case hp => exact (Reps.one (show Kd.M (Kd.int .i64) _ _ _ 0 [.int .i64 0] from rfl) (Reps.one (show Kd.M (Kd.int .i64) _ _ _ 2 [.int .i64 2] from rfl) (Reps.none _ _)))); intro v317 w3 ho4 hb hg_ hnew_; clear hg_ hnew_; (first | rw [← Ny316.out] at ho4 | (simp only [Int.reduceToNat] at ho4; rw [← Ny316.out] at ho4)); have n0_ := Aside0.mk (Kd.R_lower ho4 (below_size (Sqz.auHB))); have n1_ := Aside0.mk (below_step (Sqz.auHB) hb); clear HB; have HO318 := n0_; have HB := n1_; clear n0_ n1_; clear hb ho4) | ((with_reducible refine gate_callee (f := 142) rfl ?_); refine goesL_ (some 8) rfl rfl Try.func142 (by kernel_rfl) rfl #[.int .i64 a0] rfl Sqz.auM ?_; (with_reducible refine (spec_l1Primes.calls k a0 t319 _ A2.out).mono ?_); rintro e w5 ⟨v320, rfl, ho0, hb⟩; refine ⟨_, rfl, ?_⟩; have n0_ := Aside0.mk (Kd.R_elder' ((Sqz.mvR HO318.out)) (Kd.R_base ho0) hb); have n1_ := Aside0.mk (Kd.R_lower (Kd.R_new' ho0 (Kd.R_lt ((Sqz.mvR HO318.out)))) (below_size (Sqz.auHB))); have n2_ := Aside0.mk (below_step (Sqz.auHB) hb); clear HO318; clear HB; have HO318 := n0_; have HO321 := n1_; have HB := n2_; clear n0_ n1_ n2_; (try clear hb); (try clear hb2); (try clear hk); (try clear hi); (try clear ho0)))
  go_loopg [3, 5] k (fun kq v3 v5 w' => ∃ (x3_1 : List Int) (x5_1 : Int), v5 = .int .i64 x5_1 ∧ Aside0 (spec_l2Places.l0 kq x3_1 t319 x5_1 = some r) ∧ Aside0 (kq ≤ k) ∧ Aside0 (Kd.R (Kd.int .i64) 3 w' w.heap.size (fun k_ => some k_ ≠ (v320 : Value).ownBlock) v3 x3_1) ∧ Aside0 (Kd.R (Kd.int .i64) 3 w' w.heap.size (fun k_ => some k_ ≠ (v3 : Value).ownBlock) v320 t319) ∧ Aside0 (Below w.heap.size w w'))
  case atStart => exact ⟨(y316), (0), Sqz.auS, H', ⟨Nat.le_refl _⟩, ⟨(Sqz.mvR (Kd.R_mono HO318.out (fun _ hk => hk.2)))⟩, ⟨(Sqz.mvR (Kd.R_mono HO321.out (fun _ hk => hk.2)))⟩, ⟨Sqz.auHB⟩⟩
  case round =>
    clear H'
    try clear c1
    try clear p2
    obtain ⟨x3_1, x5_1, rfl, HA, HK1, HO_3, HO_4, HB⟩ := hrel
    cases gk with
    | zero => exact absurd HA.out (by simp [spec_l2Places.l0])
    | succ k1 =>
      have H := HA.out
      clear HA
      simp only [spec_l2Places.l0] at H
      by_cases c6 : x5_1 < (t319.length : Int)
      · rw [if_pos c6] at H
        have c6b0 : decide (x5_1 < (t319.length : Int)) = true := decide_eq_true c6
        clear c6
        by_cases c7 : 0 ≤ x5_1
        · rw [if_pos c7] at H
          have c7b0 : decide (0 ≤ x5_1) = true := decide_eq_true c7
          clear c7
          by_cases c8 : (rd t319 x5_1) > 2
          · rw [if_pos c8] at H
            have c8b0 : decide (2 < (rd t319 x5_1)) = true := decide_eq_true c8
            clear c8
            by_cases c9 : x3_1.length < 17592186044416
            · rw [if_pos c9] at H
              have LMc9 := Aside0.mk c9
              clear c9
              obtain ⟨y324, hy324⟩ : ∃ y_ : List Int, y_ = (x3_1 ++ [rd t319 x5_1]) := ⟨_, rfl⟩
              replace H : (spec_l2Places.l0 k1 y324 t319 (wrap64 (x5_1 + 1))) = some r := by first | (rw [hy324]; with_reducible exact H) | (have H2_ := (Option.bind_some _ _).symm.trans H; rw [hy324]; with_reducible exact H2_) | (have H2_ := (Option.bind_some _ _).symm.trans H; with_reducible exact H2_) | with_reducible exact H | (rw [hy324]; exact H) | exact H
              have Ny324 := Aside0.mk hy324
              clear hy324
              have H' := Aside0.mk H
              clear H
              obtain ⟨Ao10, co10, eo10⟩ := Kd.R_slice HO_4.out
              subst eo10
              have p322 : 0 ≤ (x5_1 : Int) := of_decide_eq_true (by first | (with_reducible assumption) | assumption)
              have q322 : x5_1 < (t319.length : Int) := of_decide_eq_true (by first | (with_reducible assumption) | assumption)
              obtain ⟨ad322, e322, hx322_0⟩ := Kd.at_int (Kd.R_reads' HO_4.out).2.2 x5_1 p322 q322
              cases e322
              replace p322 := eq_true p322
              replace q322 := eq_true q322
              have p323 : 0 ≤ (x5_1 : Int) := of_decide_eq_true (by first | (with_reducible assumption) | assumption)
              have q323 : x5_1 < (t319.length : Int) := of_decide_eq_true (by first | (with_reducible assumption) | assumption)
              obtain ⟨ad323, e323, hx323_0⟩ := Kd.at_int (Kd.R_reads' HO_4.out).2.2 x5_1 p323 q323
              obtain rfl : ad322 = ad323 := (by injection e323)
              replace p323 := eq_true p323
              replace q323 := eq_true q323
              go_wp2_with (first | ((with_reducible refine gate_builtin (b := .append) (xs := #[.tmp 20, .tmp 25]) rfl ?_); at_builtin; refine Kd.R_append (Kd.int .i64) (w0 := w) w.heap.size rfl (.tmp 20) (.tmp 25) 25 3 (.int .i64 0) 8 rfl Try.underlying25 info3 rfl (by decide) (by omega) u3 x3_1 (rd t319 x5_1) [.int .i64 (rd t319 x5_1)] (fun k_ => some k_ ≠ (.slice (some ad322) t319.length co10 : Value).ownBlock) (fun _ => False) rfl rfl ?aP (fun _ hk => hk.elim) ?aF ?aO ?aB ?aS ?aL ?_; (case aP => exact rfl); (case aB => exact (Sqz.auHB)); (case aF => exact (fun k_ hk => Kd.fresh' (Kd.R_lt ((Sqz.mvR HO_4.out))) k_ hk)); (case aO => exact ((Sqz.mvR HO_3.out))); (case aS => exact (below_size (Sqz.auHB))); (case aL => have := LMc9.out; omega); intro v325 w11 ho hb hg hat; rw [← Ny324.out] at ho; have n0_ := Aside0.mk (Kd.R_after (ok := (fun _ => True)) ((Sqz.mvR (Kd.R_mono HO_4.out (fun _ hk => ⟨trivial, hk⟩)))) hg hat); have n1_ := Aside0.mk (hb); have n2_ := Aside0.mk (ho); clear HO_4; clear HB; clear HO_3; have HO_4 := n0_; have HB := n1_; have HO326 := n2_; clear n0_ n1_ n2_; clear ho hb hg hat))
              go_roundg k1
              case measure => have := HK1.out; omega
              case rel => exact ⟨(y324), (wrap64 (x5_1 + 1)), Sqz.auS, H', ⟨by have := HK1.out; omega⟩, ⟨(Sqz.mvR HO326.out)⟩, ⟨(Sqz.mvR (Kd.R_mono HO_4.out (fun _ hk => hk.2)))⟩, ⟨Sqz.auHB⟩⟩
            · rw [if_neg c9] at H
              exact absurd H (by simp)
          · rw [if_neg c8] at H
            have c8b0 : decide (2 < (rd t319 x5_1)) = false := decide_eq_false c8
            clear c8
            have H' := Aside0.mk H
            clear H
            obtain ⟨Ao12, co12, eo12⟩ := Kd.R_slice HO_4.out
            subst eo12
            have p322 : 0 ≤ (x5_1 : Int) := of_decide_eq_true (by first | (with_reducible assumption) | assumption)
            have q322 : x5_1 < (t319.length : Int) := of_decide_eq_true (by first | (with_reducible assumption) | assumption)
            obtain ⟨ad322, e322, hx322_0⟩ := Kd.at_int (Kd.R_reads' HO_4.out).2.2 x5_1 p322 q322
            cases e322
            replace p322 := eq_true p322
            replace q322 := eq_true q322
            go_wp2
            go_roundg k1
            case measure => have := HK1.out; omega
            case rel => exact ⟨(x3_1), (wrap64 (x5_1 + 1)), Sqz.auS, H', ⟨by have := HK1.out; omega⟩, ⟨(Sqz.mvR HO_3.out)⟩, ⟨(Sqz.mvR HO_4.out)⟩, ⟨Sqz.auHB⟩⟩
        · rw [if_neg c7] at H
          exact absurd H (by simp)
      · rw [if_neg c6] at H
        have c6b0 : decide (x5_1 < (t319.length : Int)) = false := decide_eq_false c6
        clear c6
        obtain rfl := Option.some.inj H
        obtain ⟨Ao13, co13, eo13⟩ := Kd.R_slice HO_4.out
        subst eo13
        go_wp2
        go_ret
        exact ⟨_, Sqz.auR, (Sqz.mvR (Kd.R_mono HO_3.out (fun _ hk => trivial))), Sqz.auHB⟩

end Go.Proofs.Ytihadpckmcebgaa.PFnValueBad
