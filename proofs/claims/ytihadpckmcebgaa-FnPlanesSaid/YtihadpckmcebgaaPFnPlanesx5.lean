/- A function's Lean twin and its walk, written by a program of this session. -/
import Derived.Test.YtihadpckmcebgaaPFnPlanesx0
import Derived.Test.YtihadpckmcebgaaPFnPlanesx2
import Derived.Test.YtihadpckmcebgaaPFnPlanesx3
import Derived.Test.YtihadpckmcebgaaPFnPlanesx4
namespace Go.Proofs.Ytihadpckmcebgaa.PFnPlanes
open Go.RowKit Go.Proofs.YtihadpckmcebgaaW.PrintWords Go.Proofs.YtihadpckmcebgaaW.PrintLast Go.Proofs.YtihadpckmcebgaaW.PrintMore
attribute [local go_sem] max2_int min2_int max_two min_two max_three min_three max_four min_four   -- for this text's walks alone
set_option linter.unusedVariables false
set_option linter.unusedSimpArgs false

/-! ### spec_l2Square: function 131 -/
def spec_l2Square.f (k : Nat) (a0 : Int) (a1 : Int) : Option (Bool) := if a1 = 0 then (some (decide (a0 > 0))) else ((spec_l1Valuation.f k a0 a1).bind fun bt280 => (if a1 = 2 then (if (Int.tmod bt280.1 2) = 0 then ((spec_l1Mod.f bt280.2 8).bind fun t282 => (some (t282 == 1))) else (some false)) else (if (Int.tmod bt280.1 2) = 0 then ((spec_l1Residue.f k bt280.2 a1).bind fun t283 => (some (t283 == 1))) else (some false))))
set_option maxHeartbeats 8000000 in
set_option maxRecDepth 100000 in
theorem spec_l2Square.calls (k : Nat) (a0 : Int) (a1 : Int) (r : Bool) (w : World) (h : spec_l2Square.f k a0 a1 = some r) :
    Calls Try.prog 131 #[.int .i64 a0, .int .i64 a1] w fun e w' => e = .returned (.bool r) ∧ Drawn0 w w' := by
  have H : (if a1 = 0 then (some (decide (a0 > 0))) else ((spec_l1Valuation.f k a0 a1).bind fun bt280 => (if a1 = 2 then (if (Int.tmod bt280.1 2) = 0 then ((spec_l1Mod.f bt280.2 8).bind fun t282 => (some (t282 == 1))) else (some false)) else (if (Int.tmod bt280.1 2) = 0 then ((spec_l1Residue.f k bt280.2 a1).bind fun t283 => (some (t283 == 1))) else (some false))))) = some r := h
  clear h
  by_cases c3 : a1 = 0
  · rw [if_pos c3] at H
    have c3b0 : (a1 == 0) = true := beq_iff_eq.mpr c3
    have c3b1 : (a1 != 0) = false := bne_eq_false_iff_eq.mpr c3
    clear c3
    obtain rfl := Option.some.inj H
    go_enter Try.func131, Try.ntmps131
    go_wp2
    go_ret
    exact ⟨Sqz.auS, by repeat (first | exact Drawn0.refl _ | apply Drawn0.step)⟩
  · rw [if_neg c3] at H
    have c3b0 : (a1 == 0) = false := beq_eq_false_iff_ne.mpr c3
    have c3b1 : (a1 != 0) = true := bne_iff_ne.mpr c3
    replace H := Option.bind_eq_some_iff.mp H
    obtain ⟨⟨t280, t281⟩, A40, H⟩ := H
    replace H : (if a1 = 2 then (if (Int.tmod t280 2) = 0 then ((spec_l1Mod.f t281 8).bind fun t282 => (some (t282 == 1))) else (some false)) else (if (Int.tmod t280 2) = 0 then ((spec_l1Residue.f k t281 a1).bind fun t283 => (some (t283 == 1))) else (some false))) = some r := H
    have A4 := Aside0.mk A40
    clear A40
    by_cases c5 : a1 = 2
    · rw [if_pos c5] at H
      have c5b0 : (a1 == 2) = true := beq_iff_eq.mpr c5
      have c5b1 : (a1 != 2) = false := bne_eq_false_iff_eq.mpr c5
      clear c5
      by_cases c6 : (Int.tmod t280 2) = 0
      · rw [if_pos c6] at H
        have c6b0 : ((Int.tmod t280 2) == 0) = true := beq_iff_eq.mpr c6
        have c6b1 : ((Int.tmod t280 2) != 0) = false := bne_eq_false_iff_eq.mpr c6
        clear c6
        replace H := Option.bind_eq_some_iff.mp H
        obtain ⟨t282, A70, H⟩ := H
        replace H : (some (t282 == 1)) = some r := H
        have A7 := Aside0.mk A70
        clear A70
        obtain rfl := Option.some.inj H
        go_enter Try.func131, Try.ntmps131
        go_wp2_with (first | ((with_reducible refine gate_callee (f := 114) rfl ?_); refine goesL_ (some 14) rfl rfl Try.func114 (by kernel_rfl) rfl #[.int .i64 a0, .int .i64 a1] rfl Sqz.auM ?_; (with_reducible refine (spec_l1Valuation.calls k a0 a1 t280 t281 _ A4.out).mono ?_); rintro e w' ⟨rfl, ⟨nd, rfl⟩⟩; refine ⟨_, rfl, ?_⟩) | (go_at_call 148; (with_reducible refine (spec_l1Mod.calls t281 8 t282 _ A7.out).mono ?_); rintro e w' ⟨rfl, ⟨nd, rfl⟩⟩))
        go_ret
        exact ⟨Sqz.auS, by repeat (first | exact Drawn0.refl _ | apply Drawn0.step)⟩
      · rw [if_neg c6] at H
        have c6b0 : ((Int.tmod t280 2) == 0) = false := beq_eq_false_iff_ne.mpr c6
        have c6b1 : ((Int.tmod t280 2) != 0) = true := bne_iff_ne.mpr c6
        obtain rfl := Option.some.inj H
        go_enter Try.func131, Try.ntmps131
        go_wp2_with (first | ((with_reducible refine gate_callee (f := 114) rfl ?_); refine goesL_ (some 14) rfl rfl Try.func114 (by kernel_rfl) rfl #[.int .i64 a0, .int .i64 a1] rfl Sqz.auM ?_; (with_reducible refine (spec_l1Valuation.calls k a0 a1 t280 t281 _ A4.out).mono ?_); rintro e w' ⟨rfl, ⟨nd, rfl⟩⟩; refine ⟨_, rfl, ?_⟩))
        go_ret
        exact ⟨Sqz.auS, by repeat (first | exact Drawn0.refl _ | apply Drawn0.step)⟩
    · rw [if_neg c5] at H
      have c5b0 : (a1 == 2) = false := beq_eq_false_iff_ne.mpr c5
      have c5b1 : (a1 != 2) = true := bne_iff_ne.mpr c5
      by_cases c8 : (Int.tmod t280 2) = 0
      · rw [if_pos c8] at H
        have c8b0 : ((Int.tmod t280 2) == 0) = true := beq_iff_eq.mpr c8
        have c8b1 : ((Int.tmod t280 2) != 0) = false := bne_eq_false_iff_eq.mpr c8
        clear c8
        replace H := Option.bind_eq_some_iff.mp H
        obtain ⟨t283, A90, H⟩ := H
        replace H : (some (t283 == 1)) = some r := H
        have A9 := Aside0.mk A90
        clear A90
        obtain rfl := Option.some.inj H
        go_enter Try.func131, Try.ntmps131
        go_wp2_with (first | ((with_reducible refine gate_callee (f := 114) rfl ?_); refine goesL_ (some 14) rfl rfl Try.func114 (by kernel_rfl) rfl #[.int .i64 a0, .int .i64 a1] rfl Sqz.auM ?_; (with_reducible refine (spec_l1Valuation.calls k a0 a1 t280 t281 _ A4.out).mono ?_); rintro e w' ⟨rfl, ⟨nd, rfl⟩⟩; refine ⟨_, rfl, ?_⟩) | (go_at_call 149; (with_reducible refine (spec_l1Residue.calls k t281 a1 t283 _ A9.out).mono ?_); rintro e w' ⟨rfl, ⟨nd, rfl⟩⟩))
        go_ret
        exact ⟨Sqz.auS, by repeat (first | exact Drawn0.refl _ | apply Drawn0.step)⟩
      · rw [if_neg c8] at H
        have c8b0 : ((Int.tmod t280 2) == 0) = false := beq_eq_false_iff_ne.mpr c8
        have c8b1 : ((Int.tmod t280 2) != 0) = true := bne_iff_ne.mpr c8
        obtain rfl := Option.some.inj H
        go_enter Try.func131, Try.ntmps131
        go_wp2_with (first | ((with_reducible refine gate_callee (f := 114) rfl ?_); refine goesL_ (some 14) rfl rfl Try.func114 (by kernel_rfl) rfl #[.int .i64 a0, .int .i64 a1] rfl Sqz.auM ?_; (with_reducible refine (spec_l1Valuation.calls k a0 a1 t280 t281 _ A4.out).mono ?_); rintro e w' ⟨rfl, ⟨nd, rfl⟩⟩; refine ⟨_, rfl, ?_⟩))
        go_ret
        exact ⟨Sqz.auS, by repeat (first | exact Drawn0.refl _ | apply Drawn0.step)⟩

/-! ### spec_l3Half: function 155 -/
def spec_l3Half.f (a0 : Int) : Option (Int) := if (Int.tmod a0 2) = 0 then (some 1) else (some (-1))
set_option maxHeartbeats 8000000 in
set_option maxRecDepth 100000 in
theorem spec_l3Half.calls (a0 : Int) (r : Int) (w : World) (h : spec_l3Half.f a0 = some r) :
    Calls Try.prog 155 #[.int .i64 a0] w fun e w' => e = .returned (.int .i64 r) ∧ Drawn0 w w' := by
  have H : (if (Int.tmod a0 2) = 0 then (some 1) else (some (-1))) = some r := h
  clear h
  by_cases c2 : (Int.tmod a0 2) = 0
  · rw [if_pos c2] at H
    have c2b0 : ((Int.tmod a0 2) == 0) = true := beq_iff_eq.mpr c2
    have c2b1 : ((Int.tmod a0 2) != 0) = false := bne_eq_false_iff_eq.mpr c2
    clear c2
    obtain rfl := Option.some.inj H
    go_enter Try.func155, Try.ntmps155
    go_wp2
    go_ret
    exact ⟨Sqz.auS, by repeat (first | exact Drawn0.refl _ | apply Drawn0.step)⟩
  · rw [if_neg c2] at H
    have c2b0 : ((Int.tmod a0 2) == 0) = false := beq_eq_false_iff_ne.mpr c2
    have c2b1 : ((Int.tmod a0 2) != 0) = true := bne_iff_ne.mpr c2
    obtain rfl := Option.some.inj H
    go_enter Try.func155, Try.ntmps155
    go_wp2
    go_ret
    exact ⟨Sqz.auS, by repeat (first | exact Drawn0.refl _ | apply Drawn0.step)⟩

/-! ### spec_l3Symbol: function 150 -/
def spec_l3Symbol.f (k : Nat) (a0 : Int) (a1 : Int) (a2 : Int) : Option (Int) := if a2 = 0 then (if a0 < 0 then (if a1 < 0 then (some (-1)) else (some 1)) else (some 1)) else ((spec_l1Valuation.f k a0 a2).bind fun bt284 => ((spec_l1Valuation.f k a1 a2).bind fun bt286 => (if a2 = 2 then ((spec_l1Mod.f bt284.2 16).bind fun t288 => ((spec_l1Mod.f bt286.2 16).bind fun t289 => ((spec_l3Half.f (wrap64 ((wrap64 ((wrap64 ((wrap64 (Int.tdiv (wrap64 (t288 - 1)) 2)) * (wrap64 (Int.tdiv (wrap64 (t289 - 1)) 2)))) + (wrap64 (bt284.1 * (wrap64 (Int.tdiv (wrap64 ((wrap64 (t289 * t289)) - 1)) 8)))))) + (wrap64 (bt286.1 * (wrap64 (Int.tdiv (wrap64 ((wrap64 (t288 * t288)) - 1)) 8))))))).bind fun t290 => (some t290)))) else ((spec_l3Half.f (wrap64 ((wrap64 (bt284.1 * bt286.1)) * (wrap64 (Int.tdiv (wrap64 (a2 - 1)) 2))))).bind fun t291 => (if (Int.tmod bt286.1 2) = 1 then ((spec_l1Residue.f k bt284.2 a2).bind fun t292 => (if (Int.tmod bt284.1 2) = 1 then ((spec_l1Residue.f k bt286.2 a2).bind fun t293 => (some (wrap64 ((wrap64 (t291 * t292)) * t293)))) else (some (wrap64 (t291 * t292))))) else (if (Int.tmod bt284.1 2) = 1 then ((spec_l1Residue.f k bt286.2 a2).bind fun t294 => (some (wrap64 (t291 * t294)))) else (some t291)))))))
set_option maxHeartbeats 8000000 in
set_option maxRecDepth 100000 in
theorem spec_l3Symbol.calls (k : Nat) (a0 : Int) (a1 : Int) (a2 : Int) (r : Int) (w : World) (h : spec_l3Symbol.f k a0 a1 a2 = some r) :
    Calls Try.prog 150 #[.int .i64 a0, .int .i64 a1, .int .i64 a2] w fun e w' => e = .returned (.int .i64 r) ∧ Drawn0 w w' := by
  have H : (if a2 = 0 then (if a0 < 0 then (if a1 < 0 then (some (-1)) else (some 1)) else (some 1)) else ((spec_l1Valuation.f k a0 a2).bind fun bt284 => ((spec_l1Valuation.f k a1 a2).bind fun bt286 => (if a2 = 2 then ((spec_l1Mod.f bt284.2 16).bind fun t288 => ((spec_l1Mod.f bt286.2 16).bind fun t289 => ((spec_l3Half.f (wrap64 ((wrap64 ((wrap64 ((wrap64 (Int.tdiv (wrap64 (t288 - 1)) 2)) * (wrap64 (Int.tdiv (wrap64 (t289 - 1)) 2)))) + (wrap64 (bt284.1 * (wrap64 (Int.tdiv (wrap64 ((wrap64 (t289 * t289)) - 1)) 8)))))) + (wrap64 (bt286.1 * (wrap64 (Int.tdiv (wrap64 ((wrap64 (t288 * t288)) - 1)) 8))))))).bind fun t290 => (some t290)))) else ((spec_l3Half.f (wrap64 ((wrap64 (bt284.1 * bt286.1)) * (wrap64 (Int.tdiv (wrap64 (a2 - 1)) 2))))).bind fun t291 => (if (Int.tmod bt286.1 2) = 1 then ((spec_l1Residue.f k bt284.2 a2).bind fun t292 => (if (Int.tmod bt284.1 2) = 1 then ((spec_l1Residue.f k bt286.2 a2).bind fun t293 => (some (wrap64 ((wrap64 (t291 * t292)) * t293)))) else (some (wrap64 (t291 * t292))))) else (if (Int.tmod bt284.1 2) = 1 then ((spec_l1Residue.f k bt286.2 a2).bind fun t294 => (some (wrap64 (t291 * t294)))) else (some t291)))))))) = some r := h
  clear h
  by_cases c4 : a2 = 0
  · rw [if_pos c4] at H
    have c4b0 : (a2 == 0) = true := beq_iff_eq.mpr c4
    have c4b1 : (a2 != 0) = false := bne_eq_false_iff_eq.mpr c4
    clear c4
    by_cases c5 : a0 < 0
    · rw [if_pos c5] at H
      have c5b0 : decide (a0 < 0) = true := decide_eq_true c5
      clear c5
      by_cases c6 : a1 < 0
      · rw [if_pos c6] at H
        have c6b0 : decide (a1 < 0) = true := decide_eq_true c6
        clear c6
        obtain rfl := Option.some.inj H
        go_enter Try.func150, Try.ntmps150
        go_wp2
        go_ret
        exact ⟨Sqz.auS, by repeat (first | exact Drawn0.refl _ | apply Drawn0.step)⟩
      · rw [if_neg c6] at H
        have c6b0 : decide (a1 < 0) = false := decide_eq_false c6
        clear c6
        obtain rfl := Option.some.inj H
        go_enter Try.func150, Try.ntmps150
        go_wp2
        go_ret
        exact ⟨Sqz.auS, by repeat (first | exact Drawn0.refl _ | apply Drawn0.step)⟩
    · rw [if_neg c5] at H
      have c5b0 : decide (a0 < 0) = false := decide_eq_false c5
      clear c5
      obtain rfl := Option.some.inj H
      go_enter Try.func150, Try.ntmps150
      go_wp2
      go_ret
      exact ⟨Sqz.auS, by repeat (first | exact Drawn0.refl _ | apply Drawn0.step)⟩
  · rw [if_neg c4] at H
    have c4b0 : (a2 == 0) = false := beq_eq_false_iff_ne.mpr c4
    have c4b1 : (a2 != 0) = true := bne_iff_ne.mpr c4
    replace H := Option.bind_eq_some_iff.mp H
    obtain ⟨⟨t284, t285⟩, A70, H⟩ := H
    replace H : ((spec_l1Valuation.f k a1 a2).bind fun bt286 => (if a2 = 2 then ((spec_l1Mod.f t285 16).bind fun t288 => ((spec_l1Mod.f bt286.2 16).bind fun t289 => ((spec_l3Half.f (wrap64 ((wrap64 ((wrap64 ((wrap64 (Int.tdiv (wrap64 (t288 - 1)) 2)) * (wrap64 (Int.tdiv (wrap64 (t289 - 1)) 2)))) + (wrap64 (t284 * (wrap64 (Int.tdiv (wrap64 ((wrap64 (t289 * t289)) - 1)) 8)))))) + (wrap64 (bt286.1 * (wrap64 (Int.tdiv (wrap64 ((wrap64 (t288 * t288)) - 1)) 8))))))).bind fun t290 => (some t290)))) else ((spec_l3Half.f (wrap64 ((wrap64 (t284 * bt286.1)) * (wrap64 (Int.tdiv (wrap64 (a2 - 1)) 2))))).bind fun t291 => (if (Int.tmod bt286.1 2) = 1 then ((spec_l1Residue.f k t285 a2).bind fun t292 => (if (Int.tmod t284 2) = 1 then ((spec_l1Residue.f k bt286.2 a2).bind fun t293 => (some (wrap64 ((wrap64 (t291 * t292)) * t293)))) else (some (wrap64 (t291 * t292))))) else (if (Int.tmod t284 2) = 1 then ((spec_l1Residue.f k bt286.2 a2).bind fun t294 => (some (wrap64 (t291 * t294)))) else (some t291)))))) = some r := H
    have A7 := Aside0.mk A70
    clear A70
    replace H := Option.bind_eq_some_iff.mp H
    obtain ⟨⟨t286, t287⟩, A80, H⟩ := H
    replace H : (if a2 = 2 then ((spec_l1Mod.f t285 16).bind fun t288 => ((spec_l1Mod.f t287 16).bind fun t289 => ((spec_l3Half.f (wrap64 ((wrap64 ((wrap64 ((wrap64 (Int.tdiv (wrap64 (t288 - 1)) 2)) * (wrap64 (Int.tdiv (wrap64 (t289 - 1)) 2)))) + (wrap64 (t284 * (wrap64 (Int.tdiv (wrap64 ((wrap64 (t289 * t289)) - 1)) 8)))))) + (wrap64 (t286 * (wrap64 (Int.tdiv (wrap64 ((wrap64 (t288 * t288)) - 1)) 8))))))).bind fun t290 => (some t290)))) else ((spec_l3Half.f (wrap64 ((wrap64 (t284 * t286)) * (wrap64 (Int.tdiv (wrap64 (a2 - 1)) 2))))).bind fun t291 => (if (Int.tmod t286 2) = 1 then ((spec_l1Residue.f k t285 a2).bind fun t292 => (if (Int.tmod t284 2) = 1 then ((spec_l1Residue.f k t287 a2).bind fun t293 => (some (wrap64 ((wrap64 (t291 * t292)) * t293)))) else (some (wrap64 (t291 * t292))))) else (if (Int.tmod t284 2) = 1 then ((spec_l1Residue.f k t287 a2).bind fun t294 => (some (wrap64 (t291 * t294)))) else (some t291))))) = some r := H
    have A8 := Aside0.mk A80
    clear A80
    by_cases c9 : a2 = 2
    · rw [if_pos c9] at H
      have c9b0 : (a2 == 2) = true := beq_iff_eq.mpr c9
      have c9b1 : (a2 != 2) = false := bne_eq_false_iff_eq.mpr c9
      clear c9
      replace H := Option.bind_eq_some_iff.mp H
      obtain ⟨t288, A100, H⟩ := H
      replace H : ((spec_l1Mod.f t287 16).bind fun t289 => ((spec_l3Half.f (wrap64 ((wrap64 ((wrap64 ((wrap64 (Int.tdiv (wrap64 (t288 - 1)) 2)) * (wrap64 (Int.tdiv (wrap64 (t289 - 1)) 2)))) + (wrap64 (t284 * (wrap64 (Int.tdiv (wrap64 ((wrap64 (t289 * t289)) - 1)) 8)))))) + (wrap64 (t286 * (wrap64 (Int.tdiv (wrap64 ((wrap64 (t288 * t288)) - 1)) 8))))))).bind fun t290 => (some t290))) = some r := H
      have A10 := Aside0.mk A100
      clear A100
      replace H := Option.bind_eq_some_iff.mp H
      obtain ⟨t289, A110, H⟩ := H
      replace H : ((spec_l3Half.f (wrap64 ((wrap64 ((wrap64 ((wrap64 (Int.tdiv (wrap64 (t288 - 1)) 2)) * (wrap64 (Int.tdiv (wrap64 (t289 - 1)) 2)))) + (wrap64 (t284 * (wrap64 (Int.tdiv (wrap64 ((wrap64 (t289 * t289)) - 1)) 8)))))) + (wrap64 (t286 * (wrap64 (Int.tdiv (wrap64 ((wrap64 (t288 * t288)) - 1)) 8))))))).bind fun t290 => (some t290)) = some r := H
      have A11 := Aside0.mk A110
      clear A110
      replace H := Option.bind_eq_some_iff.mp H
      obtain ⟨t290, A120, H⟩ := H
      replace H : (some t290) = some r := H
      have A12 := Aside0.mk A120
      clear A120
      obtain rfl := Option.some.inj H
      go_enter Try.func150, Try.ntmps150
      go_wp2_with (first | ((with_reducible refine gate_callee (f := 114) rfl ?_); refine goesL_ (some 23) rfl rfl Try.func114 (by kernel_rfl) rfl #[.int .i64 a0, .int .i64 a2] rfl Sqz.auM ?_; (with_reducible refine (spec_l1Valuation.calls k a0 a2 t284 t285 _ A7.out).mono ?_); rintro e w' ⟨rfl, ⟨nd, rfl⟩⟩; refine ⟨_, rfl, ?_⟩) | ((with_reducible refine gate_callee (f := 114) rfl ?_); refine goesL_ (some 29) rfl rfl Try.func114 (by kernel_rfl) rfl #[.int .i64 a1, .int .i64 a2] rfl Sqz.auM ?_; (with_reducible refine (spec_l1Valuation.calls k a1 a2 t286 t287 _ A8.out).mono ?_); rintro e w' ⟨rfl, ⟨nd, rfl⟩⟩; refine ⟨_, rfl, ?_⟩) | ((with_reducible refine gate_callee (f := 148) rfl ?_); refine goesL_ (some 35) rfl rfl Try.func148 (by kernel_rfl) rfl #[.int .i64 t285, .int .i64 16] rfl Sqz.auM ?_; (with_reducible refine (spec_l1Mod.calls t285 16 t288 _ A10.out).mono ?_); rintro e w' ⟨rfl, ⟨nd, rfl⟩⟩; refine ⟨_, rfl, ?_⟩) | ((with_reducible refine gate_callee (f := 148) rfl ?_); refine goesL_ (some 37) rfl rfl Try.func148 (by kernel_rfl) rfl #[.int .i64 t287, .int .i64 16] rfl Sqz.auM ?_; (with_reducible refine (spec_l1Mod.calls t287 16 t289 _ A11.out).mono ?_); rintro e w' ⟨rfl, ⟨nd, rfl⟩⟩; refine ⟨_, rfl, ?_⟩) | ((with_reducible refine gate_callee (f := 155) rfl ?_); refine goesL_ (some 61) rfl rfl Try.func155 (by kernel_rfl) rfl #[.int .i64 (wrap64 ((wrap64 ((wrap64 ((wrap64 (Int.tdiv (wrap64 (t288 - 1)) 2)) * (wrap64 (Int.tdiv (wrap64 (t289 - 1)) 2)))) + (wrap64 (t284 * (wrap64 (Int.tdiv (wrap64 ((wrap64 (t289 * t289)) - 1)) 8)))))) + (wrap64 (t286 * (wrap64 (Int.tdiv (wrap64 ((wrap64 (t288 * t288)) - 1)) 8))))))] rfl Sqz.auM ?_; (with_reducible refine (spec_l3Half.calls (wrap64 ((wrap64 ((wrap64 ((wrap64 (Int.tdiv (wrap64 (t288 - 1)) 2)) * (wrap64 (Int.tdiv (wrap64 (t289 - 1)) 2)))) + (wrap64 (t284 * (wrap64 (Int.tdiv (wrap64 ((wrap64 (t289 * t289)) - 1)) 8)))))) + (wrap64 (t286 * (wrap64 (Int.tdiv (wrap64 ((wrap64 (t288 * t288)) - 1)) 8)))))) t290 _ A12.out).mono ?_); rintro e w' ⟨rfl, ⟨nd, rfl⟩⟩; refine ⟨_, rfl, ?_⟩))
      go_ret
      exact ⟨Sqz.auS, by repeat (first | exact Drawn0.refl _ | apply Drawn0.step)⟩
    · rw [if_neg c9] at H
      have c9b0 : (a2 == 2) = false := beq_eq_false_iff_ne.mpr c9
      have c9b1 : (a2 != 2) = true := bne_iff_ne.mpr c9
      replace H := Option.bind_eq_some_iff.mp H
      obtain ⟨t291, A130, H⟩ := H
      replace H : (if (Int.tmod t286 2) = 1 then ((spec_l1Residue.f k t285 a2).bind fun t292 => (if (Int.tmod t284 2) = 1 then ((spec_l1Residue.f k t287 a2).bind fun t293 => (some (wrap64 ((wrap64 (t291 * t292)) * t293)))) else (some (wrap64 (t291 * t292))))) else (if (Int.tmod t284 2) = 1 then ((spec_l1Residue.f k t287 a2).bind fun t294 => (some (wrap64 (t291 * t294)))) else (some t291))) = some r := H
      have A13 := Aside0.mk A130
      clear A130
      by_cases c14 : (Int.tmod t286 2) = 1
      · rw [if_pos c14] at H
        have c14b0 : ((Int.tmod t286 2) == 1) = true := beq_iff_eq.mpr c14
        have c14b1 : ((Int.tmod t286 2) != 1) = false := bne_eq_false_iff_eq.mpr c14
        clear c14
        replace H := Option.bind_eq_some_iff.mp H
        obtain ⟨t292, A150, H⟩ := H
        replace H : (if (Int.tmod t284 2) = 1 then ((spec_l1Residue.f k t287 a2).bind fun t293 => (some (wrap64 ((wrap64 (t291 * t292)) * t293)))) else (some (wrap64 (t291 * t292)))) = some r := H
        have A15 := Aside0.mk A150
        clear A150
        by_cases c16 : (Int.tmod t284 2) = 1
        · rw [if_pos c16] at H
          have c16b0 : ((Int.tmod t284 2) == 1) = true := beq_iff_eq.mpr c16
          have c16b1 : ((Int.tmod t284 2) != 1) = false := bne_eq_false_iff_eq.mpr c16
          clear c16
          replace H := Option.bind_eq_some_iff.mp H
          obtain ⟨t293, A170, H⟩ := H
          replace H : (some (wrap64 ((wrap64 (t291 * t292)) * t293))) = some r := H
          have A17 := Aside0.mk A170
          clear A170
          obtain rfl := Option.some.inj H
          go_enter Try.func150, Try.ntmps150
          go_wp2_with (first | ((with_reducible refine gate_callee (f := 114) rfl ?_); refine goesL_ (some 23) rfl rfl Try.func114 (by kernel_rfl) rfl #[.int .i64 a0, .int .i64 a2] rfl Sqz.auM ?_; (with_reducible refine (spec_l1Valuation.calls k a0 a2 t284 t285 _ A7.out).mono ?_); rintro e w' ⟨rfl, ⟨nd, rfl⟩⟩; refine ⟨_, rfl, ?_⟩) | ((with_reducible refine gate_callee (f := 114) rfl ?_); refine goesL_ (some 29) rfl rfl Try.func114 (by kernel_rfl) rfl #[.int .i64 a1, .int .i64 a2] rfl Sqz.auM ?_; (with_reducible refine (spec_l1Valuation.calls k a1 a2 t286 t287 _ A8.out).mono ?_); rintro e w' ⟨rfl, ⟨nd, rfl⟩⟩; refine ⟨_, rfl, ?_⟩) | ((with_reducible refine gate_callee (f := 155) rfl ?_); refine goesL_ (some 69) rfl rfl Try.func155 (by kernel_rfl) rfl #[.int .i64 (wrap64 ((wrap64 (t284 * t286)) * (wrap64 (Int.tdiv (wrap64 (a2 - 1)) 2))))] rfl Sqz.auM ?_; (with_reducible refine (spec_l3Half.calls (wrap64 ((wrap64 (t284 * t286)) * (wrap64 (Int.tdiv (wrap64 (a2 - 1)) 2)))) t291 _ A13.out).mono ?_); rintro e w' ⟨rfl, ⟨nd, rfl⟩⟩; refine ⟨_, rfl, ?_⟩) | ((with_reducible refine gate_callee (f := 149) rfl ?_); refine goesL_ (some 76) rfl rfl Try.func149 (by kernel_rfl) rfl #[.int .i64 t285, .int .i64 a2] rfl Sqz.auM ?_; (with_reducible refine (spec_l1Residue.calls k t285 a2 t292 _ A15.out).mono ?_); rintro e w' ⟨rfl, ⟨nd, rfl⟩⟩; refine ⟨_, rfl, ?_⟩) | ((with_reducible refine gate_callee (f := 149) rfl ?_); refine goesL_ (some 84) rfl rfl Try.func149 (by kernel_rfl) rfl #[.int .i64 t287, .int .i64 a2] rfl Sqz.auM ?_; (with_reducible refine (spec_l1Residue.calls k t287 a2 t293 _ A17.out).mono ?_); rintro e w' ⟨rfl, ⟨nd, rfl⟩⟩; refine ⟨_, rfl, ?_⟩))
          go_ret
          exact ⟨Sqz.auS, by repeat (first | exact Drawn0.refl _ | apply Drawn0.step)⟩
        · rw [if_neg c16] at H
          have c16b0 : ((Int.tmod t284 2) == 1) = false := beq_eq_false_iff_ne.mpr c16
          have c16b1 : ((Int.tmod t284 2) != 1) = true := bne_iff_ne.mpr c16
          obtain rfl := Option.some.inj H
          go_enter Try.func150, Try.ntmps150
          go_wp2_with (first | ((with_reducible refine gate_callee (f := 114) rfl ?_); refine goesL_ (some 23) rfl rfl Try.func114 (by kernel_rfl) rfl #[.int .i64 a0, .int .i64 a2] rfl Sqz.auM ?_; (with_reducible refine (spec_l1Valuation.calls k a0 a2 t284 t285 _ A7.out).mono ?_); rintro e w' ⟨rfl, ⟨nd, rfl⟩⟩; refine ⟨_, rfl, ?_⟩) | ((with_reducible refine gate_callee (f := 114) rfl ?_); refine goesL_ (some 29) rfl rfl Try.func114 (by kernel_rfl) rfl #[.int .i64 a1, .int .i64 a2] rfl Sqz.auM ?_; (with_reducible refine (spec_l1Valuation.calls k a1 a2 t286 t287 _ A8.out).mono ?_); rintro e w' ⟨rfl, ⟨nd, rfl⟩⟩; refine ⟨_, rfl, ?_⟩) | ((with_reducible refine gate_callee (f := 155) rfl ?_); refine goesL_ (some 69) rfl rfl Try.func155 (by kernel_rfl) rfl #[.int .i64 (wrap64 ((wrap64 (t284 * t286)) * (wrap64 (Int.tdiv (wrap64 (a2 - 1)) 2))))] rfl Sqz.auM ?_; (with_reducible refine (spec_l3Half.calls (wrap64 ((wrap64 (t284 * t286)) * (wrap64 (Int.tdiv (wrap64 (a2 - 1)) 2)))) t291 _ A13.out).mono ?_); rintro e w' ⟨rfl, ⟨nd, rfl⟩⟩; refine ⟨_, rfl, ?_⟩) | ((with_reducible refine gate_callee (f := 149) rfl ?_); refine goesL_ (some 76) rfl rfl Try.func149 (by kernel_rfl) rfl #[.int .i64 t285, .int .i64 a2] rfl Sqz.auM ?_; (with_reducible refine (spec_l1Residue.calls k t285 a2 t292 _ A15.out).mono ?_); rintro e w' ⟨rfl, ⟨nd, rfl⟩⟩; refine ⟨_, rfl, ?_⟩))
          go_ret
          exact ⟨Sqz.auS, by repeat (first | exact Drawn0.refl _ | apply Drawn0.step)⟩
      · rw [if_neg c14] at H
        have c14b0 : ((Int.tmod t286 2) == 1) = false := beq_eq_false_iff_ne.mpr c14
        have c14b1 : ((Int.tmod t286 2) != 1) = true := bne_iff_ne.mpr c14
        by_cases c18 : (Int.tmod t284 2) = 1
        · rw [if_pos c18] at H
          have c18b0 : ((Int.tmod t284 2) == 1) = true := beq_iff_eq.mpr c18
          have c18b1 : ((Int.tmod t284 2) != 1) = false := bne_eq_false_iff_eq.mpr c18
          clear c18
          replace H := Option.bind_eq_some_iff.mp H
          obtain ⟨t294, A190, H⟩ := H
          replace H : (some (wrap64 (t291 * t294))) = some r := H
          have A19 := Aside0.mk A190
          clear A190
          obtain rfl := Option.some.inj H
          go_enter Try.func150, Try.ntmps150
          go_wp2_with (first | ((with_reducible refine gate_callee (f := 114) rfl ?_); refine goesL_ (some 23) rfl rfl Try.func114 (by kernel_rfl) rfl #[.int .i64 a0, .int .i64 a2] rfl Sqz.auM ?_; (with_reducible refine (spec_l1Valuation.calls k a0 a2 t284 t285 _ A7.out).mono ?_); rintro e w' ⟨rfl, ⟨nd, rfl⟩⟩; refine ⟨_, rfl, ?_⟩) | ((with_reducible refine gate_callee (f := 114) rfl ?_); refine goesL_ (some 29) rfl rfl Try.func114 (by kernel_rfl) rfl #[.int .i64 a1, .int .i64 a2] rfl Sqz.auM ?_; (with_reducible refine (spec_l1Valuation.calls k a1 a2 t286 t287 _ A8.out).mono ?_); rintro e w' ⟨rfl, ⟨nd, rfl⟩⟩; refine ⟨_, rfl, ?_⟩) | ((with_reducible refine gate_callee (f := 155) rfl ?_); refine goesL_ (some 69) rfl rfl Try.func155 (by kernel_rfl) rfl #[.int .i64 (wrap64 ((wrap64 (t284 * t286)) * (wrap64 (Int.tdiv (wrap64 (a2 - 1)) 2))))] rfl Sqz.auM ?_; (with_reducible refine (spec_l3Half.calls (wrap64 ((wrap64 (t284 * t286)) * (wrap64 (Int.tdiv (wrap64 (a2 - 1)) 2)))) t291 _ A13.out).mono ?_); rintro e w' ⟨rfl, ⟨nd, rfl⟩⟩; refine ⟨_, rfl, ?_⟩) | ((with_reducible refine gate_callee (f := 149) rfl ?_); refine goesL_ (some 84) rfl rfl Try.func149 (by kernel_rfl) rfl #[.int .i64 t287, .int .i64 a2] rfl Sqz.auM ?_; (with_reducible refine (spec_l1Residue.calls k t287 a2 t294 _ A19.out).mono ?_); rintro e w' ⟨rfl, ⟨nd, rfl⟩⟩; refine ⟨_, rfl, ?_⟩))
          go_ret
          exact ⟨Sqz.auS, by repeat (first | exact Drawn0.refl _ | apply Drawn0.step)⟩
        · rw [if_neg c18] at H
          have c18b0 : ((Int.tmod t284 2) == 1) = false := beq_eq_false_iff_ne.mpr c18
          have c18b1 : ((Int.tmod t284 2) != 1) = true := bne_iff_ne.mpr c18
          obtain rfl := Option.some.inj H
          go_enter Try.func150, Try.ntmps150
          go_wp2_with (first | ((with_reducible refine gate_callee (f := 114) rfl ?_); refine goesL_ (some 23) rfl rfl Try.func114 (by kernel_rfl) rfl #[.int .i64 a0, .int .i64 a2] rfl Sqz.auM ?_; (with_reducible refine (spec_l1Valuation.calls k a0 a2 t284 t285 _ A7.out).mono ?_); rintro e w' ⟨rfl, ⟨nd, rfl⟩⟩; refine ⟨_, rfl, ?_⟩) | ((with_reducible refine gate_callee (f := 114) rfl ?_); refine goesL_ (some 29) rfl rfl Try.func114 (by kernel_rfl) rfl #[.int .i64 a1, .int .i64 a2] rfl Sqz.auM ?_; (with_reducible refine (spec_l1Valuation.calls k a1 a2 t286 t287 _ A8.out).mono ?_); rintro e w' ⟨rfl, ⟨nd, rfl⟩⟩; refine ⟨_, rfl, ?_⟩) | ((with_reducible refine gate_callee (f := 155) rfl ?_); refine goesL_ (some 69) rfl rfl Try.func155 (by kernel_rfl) rfl #[.int .i64 (wrap64 ((wrap64 (t284 * t286)) * (wrap64 (Int.tdiv (wrap64 (a2 - 1)) 2))))] rfl Sqz.auM ?_; (with_reducible refine (spec_l3Half.calls (wrap64 ((wrap64 (t284 * t286)) * (wrap64 (Int.tdiv (wrap64 (a2 - 1)) 2)))) t291 _ A13.out).mono ?_); rintro e w' ⟨rfl, ⟨nd, rfl⟩⟩; refine ⟨_, rfl, ?_⟩))
          go_ret
          exact ⟨Sqz.auS, by repeat (first | exact Drawn0.refl _ | apply Drawn0.step)⟩

/-! ### spec_l4Invariant: function 132 -/
mutual
def spec_l4Invariant.l0 : Nat → List Int → Int → Int → Int → Option (Int)
  | 0, _, _, _, _ => none
  | k + 1, x0, x1, x5, x6 => if x6 < (x0.length : Int) then (spec_l4Invariant.l1 k x0 x1 x5 x6 0) else (some x5)
def spec_l4Invariant.l1 : Nat → List Int → Int → Int → Int → Int → Option (Int)
  | 0, _, _, _, _, _ => none
  | k + 1, x0, x1, x5, x6, x7 => if x7 < x6 then (if 0 ≤ x7 then (if x7 < (x0.length : Int) then (if 0 ≤ x6 then (if x6 < (x0.length : Int) then ((spec_l3Symbol.f k (rd x0 x7) (rd x0 x6) x1).bind fun t297 => (spec_l4Invariant.l1 k x0 x1 (wrap64 (x5 * t297)) x6 (wrap64 (x7 + 1)))) else (none)) else (none)) else (none)) else (none)) else (spec_l4Invariant.l0 k x0 x1 x5 (wrap64 (x6 + 1)))
end
def spec_l4Invariant.f (k : Nat) (l0 : List Int) (a1 : Int) : Option (Int) := spec_l4Invariant.l0 k l0 a1 1 0
set_option maxHeartbeats 8000000 in
set_option maxRecDepth 100000 in
theorem spec_l4Invariant.calls (k : Nat) (A0 : Option Addr) (c0 : Nat) (l0 : List Int) (a1 : Int) (r : Int) (w : World) (hr0 : Kd.C (Kd.int .i64) w A0 l0.length l0) (hc0 : l0.length ≤ c0) (h : spec_l4Invariant.f k l0 a1 = some r) :
    Calls Try.prog 132 #[.slice A0 l0.length c0, .int .i64 a1] w fun e w' => e = .returned (.int .i64 r) ∧ Drawn0 w w' := by
  have HR0 := Aside0.mk hr0
  have HC0 := Aside0.mk hc0
  clear hr0 hc0
  have H : (spec_l4Invariant.l0 k l0 a1 1 0) = some r := h
  clear h
  have H' := Aside0.mk H
  clear H
  go_enter Try.func132, Try.ntmps132
  go_wp2
  repeat (go_quiet (fail); try go_wp2)
  go_loopg [5, 6] k (fun kq v5 v6 w' => ∃ (x5_1 : Int) (x6_1 : Int), v5 = .int .i64 x5_1 ∧ v6 = .int .i64 x6_1 ∧ Aside0 (spec_l4Invariant.l0 kq l0 a1 x5_1 x6_1 = some r) ∧ Aside0 (kq ≤ k) ∧ Drawn0 w w')
  case atStart => exact ⟨(1), (0), Sqz.auS, Sqz.auS, H', ⟨Nat.le_refl _⟩, by repeat (first | exact Drawn0.refl _ | apply Drawn0.step)⟩
  case round =>
    clear H'
    try clear c1
    try clear p2
    obtain ⟨x5_1, x6_1, rfl, rfl, HA, HK1, ⟨m1, rfl⟩⟩ := hrel
    cases gk with
    | zero => exact absurd HA.out (by simp [spec_l4Invariant.l0])
    | succ k1 =>
      have H := HA.out
      clear HA
      simp only [spec_l4Invariant.l0] at H
      by_cases c3 : x6_1 < (l0.length : Int)
      · rw [if_pos c3] at H
        have c3b0 : decide (x6_1 < (l0.length : Int)) = true := decide_eq_true c3
        clear c3
        have H' := Aside0.mk H
        clear H
        go_wp2
        repeat (go_quiet (fail); try go_wp2)
        go_loopg [5, 7] k1 (fun kq v5 v7 w' => ∃ (x5_2 : Int) (x7_2 : Int), v5 = .int .i64 x5_2 ∧ v7 = .int .i64 x7_2 ∧ Aside0 (spec_l4Invariant.l1 kq l0 a1 x5_2 x6_1 x7_2 = some r) ∧ Aside0 (kq ≤ k1) ∧ Drawn0 w w')
        case atStart => exact ⟨(x5_1), (0), Sqz.auS, Sqz.auS, H', ⟨Nat.le_refl _⟩, by repeat (first | exact Drawn0.refl _ | apply Drawn0.step)⟩
        case round =>
          clear H'
          try clear c1
          try clear p2
          try clear c3
          try clear c3b0
          try clear p2
          obtain ⟨x5_2, x7_2, rfl, rfl, HA, HK2, ⟨m2, rfl⟩⟩ := hrel
          cases gk with
          | zero => exact absurd HA.out (by simp [spec_l4Invariant.l1])
          | succ k2 =>
            have H := HA.out
            clear HA
            simp only [spec_l4Invariant.l1] at H
            by_cases c4 : x7_2 < x6_1
            · rw [if_pos c4] at H
              have c4b0 : decide (x7_2 < x6_1) = true := decide_eq_true c4
              clear c4
              by_cases c5 : 0 ≤ x7_2
              · rw [if_pos c5] at H
                have c5b0 : decide (0 ≤ x7_2) = true := decide_eq_true c5
                clear c5
                by_cases c6 : x7_2 < (l0.length : Int)
                · rw [if_pos c6] at H
                  have c6b0 : decide (x7_2 < (l0.length : Int)) = true := decide_eq_true c6
                  clear c6
                  by_cases c7 : 0 ≤ x6_1
                  · rw [if_pos c7] at H
                    have c7b0 : decide (0 ≤ x6_1) = true := decide_eq_true c7
                    clear c7
                    by_cases c8 : x6_1 < (l0.length : Int)
                    · rw [if_pos c8] at H
                      have c8b0 : decide (x6_1 < (l0.length : Int)) = true := decide_eq_true c8
                      clear c8
                      replace H := Option.bind_eq_some_iff.mp H
                      obtain ⟨t297, A90, H⟩ := H
                      replace H : (spec_l4Invariant.l1 k2 l0 a1 (wrap64 (x5_2 * t297)) x6_1 (wrap64 (x7_2 + 1))) = some r := H
                      have A9 := Aside0.mk A90
                      clear A90
                      have H' := Aside0.mk H
                      clear H
                      have p295 : 0 ≤ (x7_2 : Int) := of_decide_eq_true (by first | (with_reducible assumption) | assumption)
                      have q295 : x7_2 < (l0.length : Int) := of_decide_eq_true (by first | (with_reducible assumption) | assumption)
                      obtain ⟨ad295, e295, hx295_0⟩ := Kd.at_int HR0.out x7_2 p295 q295
                      cases e295
                      replace p295 := eq_true p295
                      replace q295 := eq_true q295
                      have p296 : 0 ≤ (x6_1 : Int) := of_decide_eq_true (by first | (with_reducible assumption) | assumption)
                      have q296 : x6_1 < (l0.length : Int) := of_decide_eq_true (by first | (with_reducible assumption) | assumption)
                      obtain ⟨ad296, e296, hx296_0⟩ := Kd.at_int HR0.out x6_1 p296 q296
                      obtain rfl : ad295 = ad296 := (by injection e296)
                      replace p296 := eq_true p296
                      replace q296 := eq_true q296
                      go_wp2_with (first | (go_at_call 150; (with_reducible refine (spec_l3Symbol.calls k2 (rd l0 x7_2) (rd l0 x6_1) a1 t297 _ A9.out).mono ?_); rintro e w' ⟨rfl, ⟨nd, rfl⟩⟩; (try first | exact ⟨rfl, _, World.drewN_drewN _ _ _⟩ | exact ⟨rfl, _, Eq.trans (World.drewN_drewN _ _ _) (congrArg (World.drewN _) (Nat.add_assoc _ _ _))⟩)))
                      repeat (go_quiet (first | (go_at_call 150; (with_reducible refine (spec_l3Symbol.calls k2 (rd l0 x7_2) (rd l0 x6_1) a1 t297 _ A9.out).mono ?_); rintro e w' ⟨rfl, ⟨nd, rfl⟩⟩; (try first | exact ⟨rfl, _, World.drewN_drewN _ _ _⟩ | exact ⟨rfl, _, Eq.trans (World.drewN_drewN _ _ _) (congrArg (World.drewN _) (Nat.add_assoc _ _ _))⟩))); try go_wp2_with (first | (go_at_call 150; (with_reducible refine (spec_l3Symbol.calls k2 (rd l0 x7_2) (rd l0 x6_1) a1 t297 _ A9.out).mono ?_); rintro e w' ⟨rfl, ⟨nd, rfl⟩⟩; (try first | exact ⟨rfl, _, World.drewN_drewN _ _ _⟩ | exact ⟨rfl, _, Eq.trans (World.drewN_drewN _ _ _) (congrArg (World.drewN _) (Nat.add_assoc _ _ _))⟩))))
                      go_roundg k2
                      case measure => have := HK1.out; have := HK2.out; omega
                      case rel => exact ⟨(wrap64 (x5_2 * t297)), (wrap64 (x7_2 + 1)), Sqz.auS, Sqz.auS, H', ⟨by have := HK1.out; have := HK2.out; omega⟩, by repeat (first | exact Drawn0.refl _ | apply Drawn0.step)⟩
                    · rw [if_neg c8] at H
                      exact absurd H (by simp)
                  · rw [if_neg c7] at H
                    exact absurd H (by simp)
                · rw [if_neg c6] at H
                  exact absurd H (by simp)
              · rw [if_neg c5] at H
                exact absurd H (by simp)
            · rw [if_neg c4] at H
              have c4b0 : decide (x7_2 < x6_1) = false := decide_eq_false c4
              clear c4
              have H' := Aside0.mk H
              clear H
              go_wp2
              repeat (go_quiet (fail); try go_wp2)
              go_roundg k2
              case measure => have := HK1.out; have := HK2.out; omega
              case rel => exact ⟨(x5_2), (wrap64 (x6_1 + 1)), Sqz.auS, Sqz.auS, H', ⟨by have := HK1.out; have := HK2.out; omega⟩, by repeat (first | exact Drawn0.refl _ | apply Drawn0.step)⟩
      · rw [if_neg c3] at H
        have c3b0 : decide (x6_1 < (l0.length : Int)) = false := decide_eq_false c3
        clear c3
        obtain rfl := Option.some.inj H
        go_wp2
        repeat (go_quiet (fail); try go_wp2)
        go_ret
        exact ⟨Sqz.auS, by repeat (first | exact Drawn0.refl _ | apply Drawn0.step)⟩

/-! ### spec_l4Vanishes: function 133 -/
def spec_l4Vanishes.f (k : Nat) (l0 : List Int) (a1 : Int) : Option (Bool) := if a1 = 0 then ((spec_l4Less.f k l0).bind fun t298 => (if t298 > 0 then ((spec_l4Less.f k l0).bind fun t299 => (some (decide (t299 < (l0.length : Int))))) else (some false))) else ((spec_l4Product.f k l0).bind fun t300 => (if (l0.length : Int) = 1 then (some false) else (if (l0.length : Int) = 2 then ((spec_l2Square.f k (wrap64 (-t300)) a1).bind fun t301 => (some t301)) else (if (l0.length : Int) = 3 then ((spec_l4Invariant.f k l0 a1).bind fun t302 => ((spec_l3Symbol.f k (-1) (wrap64 (-t300)) a1).bind fun t303 => (some (t302 == t303)))) else ((spec_l2Square.f k t300 a1).bind fun t304 => (if t304 = true then ((spec_l4Invariant.f k l0 a1).bind fun t305 => ((spec_l3Symbol.f k (-1) (-1) a1).bind fun t306 => (some (t305 == t306)))) else (some true)))))))
set_option maxHeartbeats 8000000 in
set_option maxRecDepth 100000 in
theorem spec_l4Vanishes.calls (k : Nat) (A0 : Option Addr) (c0 : Nat) (l0 : List Int) (a1 : Int) (r : Bool) (w : World) (hr0 : Kd.C (Kd.int .i64) w A0 l0.length l0) (hc0 : l0.length ≤ c0) (h : spec_l4Vanishes.f k l0 a1 = some r) :
    Calls Try.prog 133 #[.slice A0 l0.length c0, .int .i64 a1] w fun e w' => e = .returned (.bool r) ∧ Drawn0 w w' := by
  have HR0 := Aside0.mk hr0
  have HC0 := Aside0.mk hc0
  clear hr0 hc0
  have H : (if a1 = 0 then ((spec_l4Less.f k l0).bind fun t298 => (if t298 > 0 then ((spec_l4Less.f k l0).bind fun t299 => (some (decide (t299 < (l0.length : Int))))) else (some false))) else ((spec_l4Product.f k l0).bind fun t300 => (if (l0.length : Int) = 1 then (some false) else (if (l0.length : Int) = 2 then ((spec_l2Square.f k (wrap64 (-t300)) a1).bind fun t301 => (some t301)) else (if (l0.length : Int) = 3 then ((spec_l4Invariant.f k l0 a1).bind fun t302 => ((spec_l3Symbol.f k (-1) (wrap64 (-t300)) a1).bind fun t303 => (some (t302 == t303)))) else ((spec_l2Square.f k t300 a1).bind fun t304 => (if t304 = true then ((spec_l4Invariant.f k l0 a1).bind fun t305 => ((spec_l3Symbol.f k (-1) (-1) a1).bind fun t306 => (some (t305 == t306)))) else (some true)))))))) = some r := h
  clear h
  by_cases c3 : a1 = 0
  · rw [if_pos c3] at H
    have c3b0 : (a1 == 0) = true := beq_iff_eq.mpr c3
    have c3b1 : (a1 != 0) = false := bne_eq_false_iff_eq.mpr c3
    clear c3
    replace H := Option.bind_eq_some_iff.mp H
    obtain ⟨t298, A40, H⟩ := H
    replace H : (if t298 > 0 then ((spec_l4Less.f k l0).bind fun t299 => (some (decide (t299 < (l0.length : Int))))) else (some false)) = some r := H
    have A4 := Aside0.mk A40
    clear A40
    by_cases c5 : t298 > 0
    · rw [if_pos c5] at H
      have c5b0 : decide (0 < t298) = true := decide_eq_true c5
      clear c5
      replace H := Option.bind_eq_some_iff.mp H
      obtain ⟨t299, A60, H⟩ := H
      replace H : (some (decide (t299 < (l0.length : Int)))) = some r := H
      have A6 := Aside0.mk A60
      clear A60
      obtain rfl := Option.some.inj H
      go_enter Try.func133, Try.ntmps133
      go_wp2_with (first | ((with_reducible refine gate_callee (f := 130) rfl ?_); refine goesL_ (some 9) rfl rfl Try.func130 (by kernel_rfl) rfl #[.slice A0 l0.length c0] rfl Sqz.auM ?_; (with_reducible refine (spec_l4Less.calls k _ _ l0 t298 _ ?side1 ?side2 A4.out).mono ?_); (case side1 => exact Sqz.mvC (HR0.out)); (case side2 => exact HC0.out); rintro e w' ⟨rfl, ⟨nd, rfl⟩⟩; refine ⟨_, rfl, ?_⟩) | (go_at_call 130; (with_reducible refine (spec_l4Less.calls k _ _ l0 t299 _ ?side1 ?side2 A6.out).mono ?_); (case side1 => exact Sqz.mvC (HR0.out)); (case side2 => exact HC0.out); rintro e w' ⟨rfl, ⟨nd, rfl⟩⟩))
      go_ret
      exact ⟨Sqz.auS, by repeat (first | exact Drawn0.refl _ | apply Drawn0.step)⟩
    · rw [if_neg c5] at H
      have c5b0 : decide (0 < t298) = false := decide_eq_false c5
      clear c5
      obtain rfl := Option.some.inj H
      go_enter Try.func133, Try.ntmps133
      go_wp2_with (first | ((with_reducible refine gate_callee (f := 130) rfl ?_); refine goesL_ (some 9) rfl rfl Try.func130 (by kernel_rfl) rfl #[.slice A0 l0.length c0] rfl Sqz.auM ?_; (with_reducible refine (spec_l4Less.calls k _ _ l0 t298 _ ?side1 ?side2 A4.out).mono ?_); (case side1 => exact Sqz.mvC (HR0.out)); (case side2 => exact HC0.out); rintro e w' ⟨rfl, ⟨nd, rfl⟩⟩; refine ⟨_, rfl, ?_⟩))
      go_ret
      exact ⟨Sqz.auS, by repeat (first | exact Drawn0.refl _ | apply Drawn0.step)⟩
  · rw [if_neg c3] at H
    have c3b0 : (a1 == 0) = false := beq_eq_false_iff_ne.mpr c3
    have c3b1 : (a1 != 0) = true := bne_iff_ne.mpr c3
    replace H := Option.bind_eq_some_iff.mp H
    obtain ⟨t300, A70, H⟩ := H
    replace H : (if (l0.length : Int) = 1 then (some false) else (if (l0.length : Int) = 2 then ((spec_l2Square.f k (wrap64 (-t300)) a1).bind fun t301 => (some t301)) else (if (l0.length : Int) = 3 then ((spec_l4Invariant.f k l0 a1).bind fun t302 => ((spec_l3Symbol.f k (-1) (wrap64 (-t300)) a1).bind fun t303 => (some (t302 == t303)))) else ((spec_l2Square.f k t300 a1).bind fun t304 => (if t304 = true then ((spec_l4Invariant.f k l0 a1).bind fun t305 => ((spec_l3Symbol.f k (-1) (-1) a1).bind fun t306 => (some (t305 == t306)))) else (some true)))))) = some r := H
    have A7 := Aside0.mk A70
    clear A70
    by_cases c8 : (l0.length : Int) = 1
    · rw [if_pos c8] at H
      have c8b0 : ((l0.length : Int) == 1) = true := beq_iff_eq.mpr c8
      have c8b1 : ((l0.length : Int) != 1) = false := bne_eq_false_iff_eq.mpr c8
      clear c8
      obtain rfl := Option.some.inj H
      go_enter Try.func133, Try.ntmps133
      go_wp2_with (first | ((with_reducible refine gate_callee (f := 103) rfl ?_); refine goesL_ (some 19) rfl rfl Try.func103 (by kernel_rfl) rfl #[.slice A0 l0.length c0] rfl Sqz.auM ?_; (with_reducible refine (spec_l4Product.calls k _ _ l0 t300 _ ?side1 ?side2 A7.out).mono ?_); (case side1 => exact Sqz.mvC (HR0.out)); (case side2 => exact HC0.out); rintro e w' ⟨rfl, ⟨nd, rfl⟩⟩; refine ⟨_, rfl, ?_⟩))
      go_ret
      exact ⟨Sqz.auS, by repeat (first | exact Drawn0.refl _ | apply Drawn0.step)⟩
    · rw [if_neg c8] at H
      have c8b0 : ((l0.length : Int) == 1) = false := beq_eq_false_iff_ne.mpr c8
      have c8b1 : ((l0.length : Int) != 1) = true := bne_iff_ne.mpr c8
      by_cases c9 : (l0.length : Int) = 2
      · rw [if_pos c9] at H
        have c9b0 : ((l0.length : Int) == 2) = true := beq_iff_eq.mpr c9
        have c9b1 : ((l0.length : Int) != 2) = false := bne_eq_false_iff_eq.mpr c9
        clear c9
        replace H := Option.bind_eq_some_iff.mp H
        obtain ⟨t301, A100, H⟩ := H
        replace H : (some t301) = some r := H
        have A10 := Aside0.mk A100
        clear A100
        obtain rfl := Option.some.inj H
        go_enter Try.func133, Try.ntmps133
        go_wp2_with (first | ((with_reducible refine gate_callee (f := 103) rfl ?_); refine goesL_ (some 19) rfl rfl Try.func103 (by kernel_rfl) rfl #[.slice A0 l0.length c0] rfl Sqz.auM ?_; (with_reducible refine (spec_l4Product.calls k _ _ l0 t300 _ ?side1 ?side2 A7.out).mono ?_); (case side1 => exact Sqz.mvC (HR0.out)); (case side2 => exact HC0.out); rintro e w' ⟨rfl, ⟨nd, rfl⟩⟩; refine ⟨_, rfl, ?_⟩) | ((with_reducible refine gate_callee (f := 131) rfl ?_); refine goesL_ (some 29) rfl rfl Try.func131 (by kernel_rfl) rfl #[.int .i64 (wrap64 (-t300)), .int .i64 a1] rfl Sqz.auM ?_; (with_reducible refine (spec_l2Square.calls k (wrap64 (-t300)) a1 t301 _ A10.out).mono ?_); rintro e w' ⟨rfl, ⟨nd, rfl⟩⟩; refine ⟨_, rfl, ?_⟩))
        go_ret
        exact ⟨Sqz.auS, by repeat (first | exact Drawn0.refl _ | apply Drawn0.step)⟩
      · rw [if_neg c9] at H
        have c9b0 : ((l0.length : Int) == 2) = false := beq_eq_false_iff_ne.mpr c9
        have c9b1 : ((l0.length : Int) != 2) = true := bne_iff_ne.mpr c9
        by_cases c11 : (l0.length : Int) = 3
        · rw [if_pos c11] at H
          have c11b0 : ((l0.length : Int) == 3) = true := beq_iff_eq.mpr c11
          have c11b1 : ((l0.length : Int) != 3) = false := bne_eq_false_iff_eq.mpr c11
          clear c11
          replace H := Option.bind_eq_some_iff.mp H
          obtain ⟨t302, A120, H⟩ := H
          replace H : ((spec_l3Symbol.f k (-1) (wrap64 (-t300)) a1).bind fun t303 => (some (t302 == t303))) = some r := H
          have A12 := Aside0.mk A120
          clear A120
          replace H := Option.bind_eq_some_iff.mp H
          obtain ⟨t303, A130, H⟩ := H
          replace H : (some (t302 == t303)) = some r := H
          have A13 := Aside0.mk A130
          clear A130
          obtain rfl := Option.some.inj H
          go_enter Try.func133, Try.ntmps133
          go_wp2_with (first | ((with_reducible refine gate_callee (f := 103) rfl ?_); refine goesL_ (some 19) rfl rfl Try.func103 (by kernel_rfl) rfl #[.slice A0 l0.length c0] rfl Sqz.auM ?_; (with_reducible refine (spec_l4Product.calls k _ _ l0 t300 _ ?side1 ?side2 A7.out).mono ?_); (case side1 => exact Sqz.mvC (HR0.out)); (case side2 => exact HC0.out); rintro e w' ⟨rfl, ⟨nd, rfl⟩⟩; refine ⟨_, rfl, ?_⟩) | ((with_reducible refine gate_callee (f := 132) rfl ?_); refine goesL_ (some 34) rfl rfl Try.func132 (by kernel_rfl) rfl #[.slice A0 l0.length c0, .int .i64 a1] rfl Sqz.auM ?_; (with_reducible refine (spec_l4Invariant.calls k _ _ l0 a1 t302 _ ?side1 ?side2 A12.out).mono ?_); (case side1 => exact Sqz.mvC (HR0.out)); (case side2 => exact HC0.out); rintro e w' ⟨rfl, ⟨nd, rfl⟩⟩; refine ⟨_, rfl, ?_⟩) | ((with_reducible refine gate_callee (f := 150) rfl ?_); refine goesL_ (some 38) rfl rfl Try.func150 (by kernel_rfl) rfl #[.int .i64 (-1), .int .i64 (wrap64 (-t300)), .int .i64 a1] rfl Sqz.auM ?_; (with_reducible refine (spec_l3Symbol.calls k (-1) (wrap64 (-t300)) a1 t303 _ A13.out).mono ?_); rintro e w' ⟨rfl, ⟨nd, rfl⟩⟩; refine ⟨_, rfl, ?_⟩))
          go_ret
          exact ⟨Sqz.auS, by repeat (first | exact Drawn0.refl _ | apply Drawn0.step)⟩
        · rw [if_neg c11] at H
          have c11b0 : ((l0.length : Int) == 3) = false := beq_eq_false_iff_ne.mpr c11
          have c11b1 : ((l0.length : Int) != 3) = true := bne_iff_ne.mpr c11
          replace H := Option.bind_eq_some_iff.mp H
          obtain ⟨t304, A140, H⟩ := H
          replace H : (if t304 = true then ((spec_l4Invariant.f k l0 a1).bind fun t305 => ((spec_l3Symbol.f k (-1) (-1) a1).bind fun t306 => (some (t305 == t306)))) else (some true)) = some r := H
          have A14 := Aside0.mk A140
          clear A140
          by_cases c15 : t304 = true
          · subst c15
            have H1 : ((spec_l4Invariant.f k l0 a1).bind fun t305 => ((spec_l3Symbol.f k (-1) (-1) a1).bind fun t306 => (some (t305 == t306)))) = some r := by rw [if_pos rfl] at H; exact H
            clear H
            have H := H1
            clear H1
            replace H := Option.bind_eq_some_iff.mp H
            obtain ⟨t305, A160, H⟩ := H
            replace H : ((spec_l3Symbol.f k (-1) (-1) a1).bind fun t306 => (some (t305 == t306))) = some r := H
            have A16 := Aside0.mk A160
            clear A160
            replace H := Option.bind_eq_some_iff.mp H
            obtain ⟨t306, A170, H⟩ := H
            replace H : (some (t305 == t306)) = some r := H
            have A17 := Aside0.mk A170
            clear A170
            obtain rfl := Option.some.inj H
            go_enter Try.func133, Try.ntmps133
            go_wp2_with (first | ((with_reducible refine gate_callee (f := 103) rfl ?_); refine goesL_ (some 19) rfl rfl Try.func103 (by kernel_rfl) rfl #[.slice A0 l0.length c0] rfl Sqz.auM ?_; (with_reducible refine (spec_l4Product.calls k _ _ l0 t300 _ ?side1 ?side2 A7.out).mono ?_); (case side1 => exact Sqz.mvC (HR0.out)); (case side2 => exact HC0.out); rintro e w' ⟨rfl, ⟨nd, rfl⟩⟩; refine ⟨_, rfl, ?_⟩) | ((with_reducible refine gate_callee (f := 131) rfl ?_); refine goesL_ (some 42) rfl rfl Try.func131 (by kernel_rfl) rfl #[.int .i64 t300, .int .i64 a1] rfl Sqz.auM ?_; (with_reducible refine (spec_l2Square.calls k t300 a1 true _ A14.out).mono ?_); rintro e w' ⟨rfl, ⟨nd, rfl⟩⟩; refine ⟨_, rfl, ?_⟩) | (go_at_call 132; (with_reducible refine (spec_l4Invariant.calls k _ _ l0 a1 t305 _ ?side1 ?side2 A16.out).mono ?_); (case side1 => exact Sqz.mvC (HR0.out)); (case side2 => exact HC0.out); rintro e w' ⟨rfl, ⟨nd, rfl⟩⟩) | (go_at_call 150; (with_reducible refine (spec_l3Symbol.calls k (-1) (-1) a1 t306 _ A17.out).mono ?_); rintro e w' ⟨rfl, ⟨nd, rfl⟩⟩))
            go_ret
            exact ⟨Sqz.auS, by repeat (first | exact Drawn0.refl _ | apply Drawn0.step)⟩
          · replace c15 := Bool.eq_false_iff.mpr c15
            subst c15
            have H1 : (some true) = some r := by rw [if_neg (show ¬ (false = true) by decide)] at H; exact H
            clear H
            have H := H1
            clear H1
            obtain rfl := Option.some.inj H
            go_enter Try.func133, Try.ntmps133
            go_wp2_with (first | ((with_reducible refine gate_callee (f := 103) rfl ?_); refine goesL_ (some 19) rfl rfl Try.func103 (by kernel_rfl) rfl #[.slice A0 l0.length c0] rfl Sqz.auM ?_; (with_reducible refine (spec_l4Product.calls k _ _ l0 t300 _ ?side1 ?side2 A7.out).mono ?_); (case side1 => exact Sqz.mvC (HR0.out)); (case side2 => exact HC0.out); rintro e w' ⟨rfl, ⟨nd, rfl⟩⟩; refine ⟨_, rfl, ?_⟩) | ((with_reducible refine gate_callee (f := 131) rfl ?_); refine goesL_ (some 42) rfl rfl Try.func131 (by kernel_rfl) rfl #[.int .i64 t300, .int .i64 a1] rfl Sqz.auM ?_; (with_reducible refine (spec_l2Square.calls k t300 a1 false _ A14.out).mono ?_); rintro e w' ⟨rfl, ⟨nd, rfl⟩⟩; refine ⟨_, rfl, ?_⟩))
            go_ret
            exact ⟨Sqz.auS, by repeat (first | exact Drawn0.refl _ | apply Drawn0.step)⟩

/-! ### spec_l9Planes: function 92 -/
def spec_l9Planes.f (k : Nat) (l0 : List Int) (a1 : Int) : Option (Int) := if a1 = 0 then ((spec_l4Less.f k l0).bind fun t307 => ((spec_l4Less.f k l0).bind fun t308 => (some (mn t307 (wrap64 ((l0.length : Int) - t308)))))) else ((spec_l4Vanishes.f k l0 a1).bind fun t309 => (if t309 = true then (if (l0.length : Int) = 4 then ((spec_l4Product.f k l0).bind fun t310 => ((spec_l2Square.f k t310 a1).bind fun t311 => (if t311 = true then (some 2) else (some 1)))) else (some 1)) else (some 0)))
set_option maxHeartbeats 8000000 in
set_option maxRecDepth 100000 in
theorem spec_l9Planes.calls (k : Nat) (A0 : Option Addr) (c0 : Nat) (l0 : List Int) (a1 : Int) (r : Int) (w : World) (hr0 : Kd.C (Kd.int .i64) w A0 l0.length l0) (hc0 : l0.length ≤ c0) (h : spec_l9Planes.f k l0 a1 = some r) :
    Calls Try.prog 92 #[.slice A0 l0.length c0, .int .i64 a1] w fun e w' => e = .returned (.int .i64 r) ∧ Below w.heap.size w w' := by
  have HR0 := Aside0.mk hr0
  have HC0 := Aside0.mk hc0
  clear hr0 hc0
  have HB := Aside0.mk (Below.refl w.heap.size w)
  have H : (if a1 = 0 then ((spec_l4Less.f k l0).bind fun t307 => ((spec_l4Less.f k l0).bind fun t308 => (some (mn t307 (wrap64 ((l0.length : Int) - t308)))))) else ((spec_l4Vanishes.f k l0 a1).bind fun t309 => (if t309 = true then (if (l0.length : Int) = 4 then ((spec_l4Product.f k l0).bind fun t310 => ((spec_l2Square.f k t310 a1).bind fun t311 => (if t311 = true then (some 2) else (some 1)))) else (some 1)) else (some 0)))) = some r := h
  clear h
  by_cases c3 : a1 = 0
  · rw [if_pos c3] at H
    have c3b0 : (a1 == 0) = true := beq_iff_eq.mpr c3
    have c3b1 : (a1 != 0) = false := bne_eq_false_iff_eq.mpr c3
    clear c3
    replace H := Option.bind_eq_some_iff.mp H
    obtain ⟨t307, A40, H⟩ := H
    replace H : ((spec_l4Less.f k l0).bind fun t308 => (some (mn t307 (wrap64 ((l0.length : Int) - t308))))) = some r := H
    have A4 := Aside0.mk A40
    clear A40
    replace H := Option.bind_eq_some_iff.mp H
    obtain ⟨t308, A50, H⟩ := H
    replace H : (some (mn t307 (wrap64 ((l0.length : Int) - t308)))) = some r := H
    have A5 := Aside0.mk A50
    clear A50
    obtain ⟨ji6, hji6⟩ : ∃ j_ : Int, (mn t307 (wrap64 ((l0.length : Int) - t308))) = j_ := ⟨_, rfl⟩
    replace H : (some ji6) = some r := by first | (rw [hji6] at H; exact H) | (simp only [hji6] at H ⊢; exact H)
    (try rw [hji6] at A4)
    (try rw [hji6] at A5)
    have hji6_ : (if (wrap64 ((l0.length : Int) - t308)) < t307 then (wrap64 ((l0.length : Int) - t308)) else t307) = ji6 := hji6
    obtain rfl := Option.some.inj H
    go_enter Try.func92, Try.ntmps92
    go_wp2_with (first | ((with_reducible refine gate_callee (f := 130) rfl ?_); refine goesL_ (some 8) rfl rfl Try.func130 (by kernel_rfl) rfl #[.slice A0 l0.length c0] rfl Sqz.auM ?_; (with_reducible refine (spec_l4Less.calls k _ _ l0 t307 _ ?side1 ?side2 A4.out).mono ?_); (case side1 => exact Sqz.mvC (HR0.out)); (case side2 => exact HC0.out); rintro e w' ⟨rfl, ⟨nd, rfl⟩⟩; refine ⟨_, rfl, ?_⟩) | ((with_reducible refine gate_callee (f := 130) rfl ?_); refine goesL_ (some 12) rfl rfl Try.func130 (by kernel_rfl) rfl #[.slice A0 l0.length c0] rfl Sqz.auM ?_; (with_reducible refine (spec_l4Less.calls k _ _ l0 t308 _ ?side1 ?side2 A5.out).mono ?_); (case side1 => exact Sqz.mvC (HR0.out)); (case side2 => exact HC0.out); rintro e w' ⟨rfl, ⟨nd, rfl⟩⟩; refine ⟨_, rfl, ?_⟩))
    go_ret
    exact ⟨by first | rfl | (simp [errW_none, errW_some] <;> rfl) | (simp only [← hji6]; first | rfl | (simp [errW_none, errW_some] <;> rfl)) | (simp [*, errW_none, errW_some] <;> rfl), Sqz.auHB⟩
  · rw [if_neg c3] at H
    have c3b0 : (a1 == 0) = false := beq_eq_false_iff_ne.mpr c3
    have c3b1 : (a1 != 0) = true := bne_iff_ne.mpr c3
    replace H := Option.bind_eq_some_iff.mp H
    obtain ⟨t309, A70, H⟩ := H
    replace H : (if t309 = true then (if (l0.length : Int) = 4 then ((spec_l4Product.f k l0).bind fun t310 => ((spec_l2Square.f k t310 a1).bind fun t311 => (if t311 = true then (some 2) else (some 1)))) else (some 1)) else (some 0)) = some r := H
    have A7 := Aside0.mk A70
    clear A70
    by_cases c8 : t309 = true
    · subst c8
      have H1 : (if (l0.length : Int) = 4 then ((spec_l4Product.f k l0).bind fun t310 => ((spec_l2Square.f k t310 a1).bind fun t311 => (if t311 = true then (some 2) else (some 1)))) else (some 1)) = some r := by rw [if_pos rfl] at H; exact H
      clear H
      have H := H1
      clear H1
      by_cases c9 : (l0.length : Int) = 4
      · rw [if_pos c9] at H
        have c9b0 : ((l0.length : Int) == 4) = true := beq_iff_eq.mpr c9
        have c9b1 : ((l0.length : Int) != 4) = false := bne_eq_false_iff_eq.mpr c9
        clear c9
        replace H := Option.bind_eq_some_iff.mp H
        obtain ⟨t310, A100, H⟩ := H
        replace H : ((spec_l2Square.f k t310 a1).bind fun t311 => (if t311 = true then (some 2) else (some 1))) = some r := H
        have A10 := Aside0.mk A100
        clear A100
        replace H := Option.bind_eq_some_iff.mp H
        obtain ⟨t311, A110, H⟩ := H
        replace H : (if t311 = true then (some 2) else (some 1)) = some r := H
        have A11 := Aside0.mk A110
        clear A110
        by_cases c12 : t311 = true
        · subst c12
          have H1 : (some 2) = some r := by rw [if_pos rfl] at H; exact H
          clear H
          have H := H1
          clear H1
          obtain rfl := Option.some.inj H
          go_enter Try.func92, Try.ntmps92
          go_wp2_with (first | ((with_reducible refine gate_callee (f := 133) rfl ?_); refine goesL_ (some 17) rfl rfl Try.func133 (by kernel_rfl) rfl #[.slice A0 l0.length c0, .int .i64 a1] rfl Sqz.auM ?_; (with_reducible refine (spec_l4Vanishes.calls k _ _ l0 a1 true _ ?side1 ?side2 A7.out).mono ?_); (case side1 => exact Sqz.mvC (HR0.out)); (case side2 => exact HC0.out); rintro e w' ⟨rfl, ⟨nd, rfl⟩⟩; refine ⟨_, rfl, ?_⟩) | (go_at_call 103; (with_reducible refine (spec_l4Product.calls k _ _ l0 t310 _ ?side1 ?side2 A10.out).mono ?_); (case side1 => exact Sqz.mvC (HR0.out)); (case side2 => exact HC0.out); rintro e w' ⟨rfl, ⟨nd, rfl⟩⟩) | (go_at_call 131; (with_reducible refine (spec_l2Square.calls k t310 a1 true _ A11.out).mono ?_); rintro e w' ⟨rfl, ⟨nd, rfl⟩⟩))
          go_ret
          exact ⟨Sqz.auR, Sqz.auHB⟩
        · replace c12 := Bool.eq_false_iff.mpr c12
          subst c12
          have H1 : (some 1) = some r := by rw [if_neg (show ¬ (false = true) by decide)] at H; exact H
          clear H
          have H := H1
          clear H1
          obtain rfl := Option.some.inj H
          go_enter Try.func92, Try.ntmps92
          go_wp2_with (first | ((with_reducible refine gate_callee (f := 133) rfl ?_); refine goesL_ (some 17) rfl rfl Try.func133 (by kernel_rfl) rfl #[.slice A0 l0.length c0, .int .i64 a1] rfl Sqz.auM ?_; (with_reducible refine (spec_l4Vanishes.calls k _ _ l0 a1 true _ ?side1 ?side2 A7.out).mono ?_); (case side1 => exact Sqz.mvC (HR0.out)); (case side2 => exact HC0.out); rintro e w' ⟨rfl, ⟨nd, rfl⟩⟩; refine ⟨_, rfl, ?_⟩) | (go_at_call 103; (with_reducible refine (spec_l4Product.calls k _ _ l0 t310 _ ?side1 ?side2 A10.out).mono ?_); (case side1 => exact Sqz.mvC (HR0.out)); (case side2 => exact HC0.out); rintro e w' ⟨rfl, ⟨nd, rfl⟩⟩) | (go_at_call 131; (with_reducible refine (spec_l2Square.calls k t310 a1 false _ A11.out).mono ?_); rintro e w' ⟨rfl, ⟨nd, rfl⟩⟩))
          go_ret
          exact ⟨Sqz.auR, Sqz.auHB⟩
      · rw [if_neg c9] at H
        have c9b0 : ((l0.length : Int) == 4) = false := beq_eq_false_iff_ne.mpr c9
        have c9b1 : ((l0.length : Int) != 4) = true := bne_iff_ne.mpr c9
        obtain rfl := Option.some.inj H
        go_enter Try.func92, Try.ntmps92
        go_wp2_with (first | ((with_reducible refine gate_callee (f := 133) rfl ?_); refine goesL_ (some 17) rfl rfl Try.func133 (by kernel_rfl) rfl #[.slice A0 l0.length c0, .int .i64 a1] rfl Sqz.auM ?_; (with_reducible refine (spec_l4Vanishes.calls k _ _ l0 a1 true _ ?side1 ?side2 A7.out).mono ?_); (case side1 => exact Sqz.mvC (HR0.out)); (case side2 => exact HC0.out); rintro e w' ⟨rfl, ⟨nd, rfl⟩⟩; refine ⟨_, rfl, ?_⟩))
        go_ret
        exact ⟨Sqz.auR, Sqz.auHB⟩
    · replace c8 := Bool.eq_false_iff.mpr c8
      subst c8
      have H1 : (some 0) = some r := by rw [if_neg (show ¬ (false = true) by decide)] at H; exact H
      clear H
      have H := H1
      clear H1
      obtain rfl := Option.some.inj H
      go_enter Try.func92, Try.ntmps92
      go_wp2_with (first | ((with_reducible refine gate_callee (f := 133) rfl ?_); refine goesL_ (some 17) rfl rfl Try.func133 (by kernel_rfl) rfl #[.slice A0 l0.length c0, .int .i64 a1] rfl Sqz.auM ?_; (with_reducible refine (spec_l4Vanishes.calls k _ _ l0 a1 false _ ?side1 ?side2 A7.out).mono ?_); (case side1 => exact Sqz.mvC (HR0.out)); (case side2 => exact HC0.out); rintro e w' ⟨rfl, ⟨nd, rfl⟩⟩; refine ⟨_, rfl, ?_⟩))
      go_ret
      exact ⟨Sqz.auR, Sqz.auHB⟩

/-! ### spec_PlanesAt: function 33 -/
def spec_PlanesAt.f (k : Nat) (l0 : List Int) (a1 : Int) : Option (Int) := (spec_FormValid.f k l0).bind fun t312 => (if t312 = true then ((spec_PlaceValid.f k a1).bind fun t313 => (if t313 = true then ((spec_l9Planes.f k l0 a1).bind fun t314 => (some t314)) else (some (-1)))) else (some (-1)))
set_option maxHeartbeats 8000000 in
set_option maxRecDepth 100000 in
theorem spec_PlanesAt.calls (k : Nat) (A0 : Option Addr) (c0 : Nat) (l0 : List Int) (a1 : Int) (r : Int) (w : World) (hr0 : Kd.C (Kd.int .i64) w A0 l0.length l0) (hc0 : l0.length ≤ c0) (h : spec_PlanesAt.f k l0 a1 = some r) :
    Calls Try.prog 33 #[.slice A0 l0.length c0, .int .i64 a1] w fun e w' => e = .returned (.int .i64 r) ∧ Below w.heap.size w w' := by
  have HR0 := Aside0.mk hr0
  have HC0 := Aside0.mk hc0
  clear hr0 hc0
  have HB := Aside0.mk (Below.refl w.heap.size w)
  have H : ((spec_FormValid.f k l0).bind fun t312 => (if t312 = true then ((spec_PlaceValid.f k a1).bind fun t313 => (if t313 = true then ((spec_l9Planes.f k l0 a1).bind fun t314 => (some t314)) else (some (-1)))) else (some (-1)))) = some r := h
  clear h
  replace H := Option.bind_eq_some_iff.mp H
  obtain ⟨t312, A30, H⟩ := H
  replace H : (if t312 = true then ((spec_PlaceValid.f k a1).bind fun t313 => (if t313 = true then ((spec_l9Planes.f k l0 a1).bind fun t314 => (some t314)) else (some (-1)))) else (some (-1))) = some r := H
  have A3 := Aside0.mk A30
  clear A30
  by_cases c4 : t312 = true
  · subst c4
    have H1 : ((spec_PlaceValid.f k a1).bind fun t313 => (if t313 = true then ((spec_l9Planes.f k l0 a1).bind fun t314 => (some t314)) else (some (-1)))) = some r := by rw [if_pos rfl] at H; exact H
    clear H
    have H := H1
    clear H1
    replace H := Option.bind_eq_some_iff.mp H
    obtain ⟨t313, A50, H⟩ := H
    replace H : (if t313 = true then ((spec_l9Planes.f k l0 a1).bind fun t314 => (some t314)) else (some (-1))) = some r := H
    have A5 := Aside0.mk A50
    clear A50
    by_cases c6 : t313 = true
    · subst c6
      have H1 : ((spec_l9Planes.f k l0 a1).bind fun t314 => (some t314)) = some r := by rw [if_pos rfl] at H; exact H
      clear H
      have H := H1
      clear H1
      replace H := Option.bind_eq_some_iff.mp H
      obtain ⟨t314, A70, H⟩ := H
      replace H : (some t314) = some r := H
      have A7 := Aside0.mk A70
      clear A70
      obtain rfl := Option.some.inj H
      go_enter Try.func33, Try.ntmps33
      go_wp2_with (first | ((with_reducible refine gate_callee (f := 86) rfl ?_); refine goesL_ (some 6) rfl rfl Try.func86 (by kernel_rfl) rfl #[.slice A0 l0.length c0] rfl Sqz.auM ?_; (with_reducible refine (spec_FormValid.calls k _ _ l0 true _ ?side1 ?side2 A3.out).mono ?_); (case side1 => exact Sqz.mvC (HR0.out)); (case side2 => exact HC0.out); rintro e w' ⟨rfl, ⟨nd, rfl⟩⟩; refine ⟨_, rfl, ?_⟩) | (go_at_call 79; (with_reducible refine (spec_PlaceValid.calls k a1 true _ A5.out).mono ?_); rintro e w' ⟨rfl, ⟨nd, rfl⟩⟩) | ((with_reducible refine gate_callee (f := 92) rfl ?_); refine goesL_ (some 15) rfl rfl Try.func92 (by kernel_rfl) rfl #[.slice A0 l0.length c0, .int .i64 a1] rfl Sqz.auM ?_; (with_reducible refine (spec_l9Planes.calls k _ _ l0 a1 t314 _ ?side1 ?side2 A7.out).mono ?_); (case side1 => exact Sqz.mvC (HR0.out)); (case side2 => exact HC0.out); rintro e w8 ⟨rfl, hb⟩; refine ⟨_, rfl, ?_⟩; have n0_ := Aside0.mk (below_step (Sqz.auHB) hb); clear HB; have HB := n0_; clear n0_; (try clear hb); (try clear hb2); (try clear hk); (try clear hi)))
      go_ret
      exact ⟨Sqz.auR, Sqz.auHB⟩
    · replace c6 := Bool.eq_false_iff.mpr c6
      subst c6
      have H1 : (some (-1)) = some r := by rw [if_neg (show ¬ (false = true) by decide)] at H; exact H
      clear H
      have H := H1
      clear H1
      obtain rfl := Option.some.inj H
      go_enter Try.func33, Try.ntmps33
      go_wp2_with (first | ((with_reducible refine gate_callee (f := 86) rfl ?_); refine goesL_ (some 6) rfl rfl Try.func86 (by kernel_rfl) rfl #[.slice A0 l0.length c0] rfl Sqz.auM ?_; (with_reducible refine (spec_FormValid.calls k _ _ l0 true _ ?side1 ?side2 A3.out).mono ?_); (case side1 => exact Sqz.mvC (HR0.out)); (case side2 => exact HC0.out); rintro e w' ⟨rfl, ⟨nd, rfl⟩⟩; refine ⟨_, rfl, ?_⟩) | (go_at_call 79; (with_reducible refine (spec_PlaceValid.calls k a1 false _ A5.out).mono ?_); rintro e w' ⟨rfl, ⟨nd, rfl⟩⟩))
      go_ret
      exact ⟨Sqz.auR, Sqz.auHB⟩
  · replace c4 := Bool.eq_false_iff.mpr c4
    subst c4
    have H1 : (some (-1)) = some r := by rw [if_neg (show ¬ (false = true) by decide)] at H; exact H
    clear H
    have H := H1
    clear H1
    obtain rfl := Option.some.inj H
    go_enter Try.func33, Try.ntmps33
    go_wp2_with (first | ((with_reducible refine gate_callee (f := 86) rfl ?_); refine goesL_ (some 6) rfl rfl Try.func86 (by kernel_rfl) rfl #[.slice A0 l0.length c0] rfl Sqz.auM ?_; (with_reducible refine (spec_FormValid.calls k _ _ l0 false _ ?side1 ?side2 A3.out).mono ?_); (case side1 => exact Sqz.mvC (HR0.out)); (case side2 => exact HC0.out); rintro e w' ⟨rfl, ⟨nd, rfl⟩⟩; refine ⟨_, rfl, ?_⟩))
    go_ret
    exact ⟨Sqz.auR, Sqz.auHB⟩

/-! ### laws_FnPlanes: function 6 -/
def laws_FnPlanes.j0 : Nat → List Int → Int → Int → Int → Bool → Option (Bool)
  | 0, _, _, _, _, _ => none
  | k + 1, x3, x4, x5, x6, x29 => if x29 = true then (some (x5 == x6)) else ((impl_FormJoin.f k x3 (([1, (-1)] : List Int))).bind fun bt324 => ((impl_FormVanishes.f k x3 x4).bind fun t328 => (if ((decide (x5 > 0)) == t328) = true then (if (wrap64 (2 * x5)) ≤ (x3.length : Int) then (if bt324.2 = true then ((impl_PlanesAt.f k bt324.1 x4).bind fun t329 => (some (t329 == (wrap64 (x5 + 1))))) else (some true)) else (some false)) else (some false))))
def laws_FnPlanes.f (k : Nat) (l0 : List Int) : Option (Bool) := if (l0.length : Int) > 1048576 then (some true) else ((spec_DrawPlanesAt.f k l0).bind fun bt315 => ((impl_PlanesAt.f k bt315.1 bt315.2).bind fun t319 => ((spec_PlanesAt.f k bt315.1 bt315.2).bind fun t320 => (if t319 = t320 then (laws_FnPlanes.j0 k bt315.1 bt315.2 t319 t320 (decide (t319 < 0))) else (laws_FnPlanes.j0 k bt315.1 bt315.2 t319 t320 true)))))
set_option maxHeartbeats 8000000 in
set_option maxRecDepth 100000 in
theorem laws_FnPlanes.calls (k : Nat) (A0 : Option Addr) (c0 : Nat) (l0 : List Int) (r : Bool) (w : World) (hr0 : Kd.C (Kd.int .u8) w A0 l0.length l0) (hc0 : l0.length ≤ c0) (h : laws_FnPlanes.f k l0 = some r) :
    Calls Try.prog 6 #[.slice A0 l0.length c0] w fun e w' => e = .returned (.bool r) ∧ Below w.heap.size w w' := by
  have HR0 := Aside0.mk hr0
  have HC0 := Aside0.mk hc0
  clear hr0 hc0
  have HB := Aside0.mk (Below.refl w.heap.size w)
  have H : (if (l0.length : Int) > 1048576 then (some true) else ((spec_DrawPlanesAt.f k l0).bind fun bt315 => ((impl_PlanesAt.f k bt315.1 bt315.2).bind fun t319 => ((spec_PlanesAt.f k bt315.1 bt315.2).bind fun t320 => (if t319 = t320 then (laws_FnPlanes.j0 k bt315.1 bt315.2 t319 t320 (decide (t319 < 0))) else (laws_FnPlanes.j0 k bt315.1 bt315.2 t319 t320 true)))))) = some r := h
  clear h
  by_cases c2 : (l0.length : Int) > 1048576
  · rw [if_pos c2] at H
    have c2b0 : decide (1048576 < (l0.length : Int)) = true := decide_eq_true c2
    have c2b1 : decide (1048576 < l0.length) = true := decide_eq_true (by omega)
    clear c2
    obtain rfl := Option.some.inj H
    go_enter Try.func6, Try.ntmps6
    go_wp2
    go_ret
    exact ⟨Sqz.auR, Sqz.auHB⟩
  · rw [if_neg c2] at H
    have c2b0 : decide (1048576 < (l0.length : Int)) = false := decide_eq_false c2
    have c2b1 : decide (1048576 < l0.length) = false := decide_eq_false (by omega)
    clear c2
    replace H := Option.bind_eq_some_iff.mp H
    obtain ⟨⟨t315, t316⟩, A30, H⟩ := H
    replace H : ((impl_PlanesAt.f k t315 t316).bind fun t319 => ((spec_PlanesAt.f k t315 t316).bind fun t320 => (if t319 = t320 then (laws_FnPlanes.j0 k t315 t316 t319 t320 (decide (t319 < 0))) else (laws_FnPlanes.j0 k t315 t316 t319 t320 true)))) = some r := H
    have A3 := Aside0.mk A30
    clear A30
    replace H := Option.bind_eq_some_iff.mp H
    obtain ⟨t319, A40, H⟩ := H
    replace H : ((spec_PlanesAt.f k t315 t316).bind fun t320 => (if t319 = t320 then (laws_FnPlanes.j0 k t315 t316 t319 t320 (decide (t319 < 0))) else (laws_FnPlanes.j0 k t315 t316 t319 t320 true))) = some r := H
    have A4 := Aside0.mk A40
    clear A40
    replace H := Option.bind_eq_some_iff.mp H
    obtain ⟨t320, A50, H⟩ := H
    replace H : (if t319 = t320 then (laws_FnPlanes.j0 k t315 t316 t319 t320 (decide (t319 < 0))) else (laws_FnPlanes.j0 k t315 t316 t319 t320 true)) = some r := H
    have A5 := Aside0.mk A50
    clear A50
    have HC6 := Aside0.mk H
    clear H
    go_enter Try.func6, Try.ntmps6
    go_upto_region 6 with (first | ((with_reducible refine gate_callee (f := 31) rfl ?_); refine goesL_ (some 14) rfl rfl Try.func31 (by kernel_rfl) rfl #[.slice A0 l0.length c0] rfl Sqz.auM ?_; (with_reducible refine (spec_DrawPlanesAt.calls k _ _ l0 t315 t316 _ ?side1 ?side2 A3.out).mono ?_); (case side1 => exact Sqz.mvC (HR0.out)); (case side2 => exact HC0.out); rintro e w7 ⟨v317, rfl, ho0, hb⟩; refine ⟨_, rfl, ?_⟩; have n0_ := Aside0.mk (Kd.R_lower ho0 (below_size (Sqz.auHB))); have n1_ := Aside0.mk (below_step (Sqz.auHB) hb); clear HB; have HO318 := n0_; have HB := n1_; clear n0_ n1_; (try clear hb); (try clear hb2); (try clear hk); (try clear hi); (try clear ho0); obtain ⟨Ao8, co8, eo8⟩ := Kd.R_slice HO318.out; subst eo8) | ((with_reducible refine gate_callee (f := 32) rfl ?_); refine goesL_ (some 19) rfl rfl Try.func32 (by kernel_rfl) rfl #[.slice Ao8 t315.length co8, .int .i64 t316] rfl Sqz.auM ?_; (with_reducible refine (impl_PlanesAt.calls k _ _ t315 t316 t319 _ ?side1 ?side2 A4.out).mono ?_); (case side1 => exact Sqz.mvC ((Kd.R_reads' HO318.out).2.2)); (case side2 => exact (Kd.R_reads' HO318.out).2.1); rintro e w9 ⟨rfl, hb⟩; refine ⟨_, rfl, ?_⟩; have n0_ := Aside0.mk (Kd.R_below ((Sqz.mvR HO318.out)) hb); have n1_ := Aside0.mk (below_step (Sqz.auHB) hb); clear HO318; clear HB; have HO318 := n0_; have HB := n1_; clear n0_ n1_; (try clear hb); (try clear hb2); (try clear hk); (try clear hi)) | ((with_reducible refine gate_callee (f := 33) rfl ?_); refine goesL_ (some 22) rfl rfl Try.func33 (by kernel_rfl) rfl #[.slice Ao8 t315.length co8, .int .i64 t316] rfl Sqz.auM ?_; (with_reducible refine (spec_PlanesAt.calls k _ _ t315 t316 t320 _ ?side1 ?side2 A5.out).mono ?_); (case side1 => exact Sqz.mvC ((Kd.R_reads' HO318.out).2.2)); (case side2 => exact (Kd.R_reads' HO318.out).2.1); rintro e w10 ⟨rfl, hb⟩; refine ⟨_, rfl, ?_⟩; have n0_ := Aside0.mk (Kd.R_below ((Sqz.mvR HO318.out)) hb); have n1_ := Aside0.mk (below_step (Sqz.auHB) hb); clear HO318; clear HB; have HO318 := n0_; have HB := n1_; clear n0_ n1_; (try clear hb); (try clear hb2); (try clear hk); (try clear hi)))
    (try simp only [Act.put, List.setIfInBounds_toArray, List.set_cons_zero, List.set_cons_succ])
    go_cut [29] (fun v29 wc => ∃ (kq : Nat) (x29_5 : Bool), v29 = .bool x29_5 ∧ Aside0 (laws_FnPlanes.j0 kq t315 t316 t319 t320 x29_5 = some r) ∧ Aside0 (kq ≤ k) ∧ Aside0 (Kd.R (Kd.int .i64) 3 wc w.heap.size (fun _ => True) (.slice Ao8 t315.length co8) t315) ∧ Aside0 (Below w.heap.size w wc))
    case first =>
      have H := HC6.out
      clear HC6
      by_cases c11 : t319 = t320
      · rw [if_pos c11] at H
        have c11b0 : (t319 == t320) = true := beq_iff_eq.mpr c11
        have c11b1 : (t319 != t320) = false := bne_eq_false_iff_eq.mpr c11
        clear c11
        (first | rw [c11b0] | (simp only [i64_w, i32_w]; rw [c11b0]) | skip)
        have H' := Aside0.mk H
        clear H
        go_wp2
        go_meet
        case rel => exact ⟨_, (decide (t319 < 0)), Sqz.auS, H', ⟨Sqz.auN⟩, ⟨(Sqz.mvR HO318.out)⟩, ⟨Sqz.auHB⟩⟩
      · rw [if_neg c11] at H
        have c11b0 : (t319 == t320) = false := beq_eq_false_iff_ne.mpr c11
        have c11b1 : (t319 != t320) = true := bne_iff_ne.mpr c11
        (first | rw [c11b0] | (simp only [i64_w, i32_w]; rw [c11b0]) | skip)
        have H' := Aside0.mk H
        clear H
        go_wp2
        go_meet
        case rel => exact ⟨_, (true), Sqz.auS, H', ⟨Sqz.auN⟩, ⟨(Sqz.mvR HO318.out)⟩, ⟨Sqz.auHB⟩⟩
    case rest =>
      clear HC6
      try clear c1
      try clear c2
      try clear c2b0
      try clear c2b1
      try clear p2
      try clear c3
      try clear c6
      try clear c11
      try clear c11b0
      try clear c11b1
      obtain ⟨kq, x29_5, rfl, HA, HJ5, HO_3, HB⟩ := hcut
      cases kq with
      | zero => exact absurd HA.out (by simp [laws_FnPlanes.j0])
      | succ kj5 =>
        have H := HA.out
        clear HA
        simp only [laws_FnPlanes.j0] at H
        by_cases c12 : x29_5 = true
        · subst c12
          have H1 : (some (t319 == t320)) = some r := by rw [if_pos rfl] at H; exact H
          clear H
          have H := H1
          clear H1
          obtain rfl := Option.some.inj H
          go_wp2
          go_ret
          exact ⟨Sqz.auR, Sqz.auHB⟩
        · replace c12 := Bool.eq_false_iff.mpr c12
          subst c12
          have H1 : ((impl_FormJoin.f kj5 t315 (([1, (-1)] : List Int))).bind fun bt324 => ((impl_FormVanishes.f kj5 t315 t316).bind fun t328 => (if ((decide (t319 > 0)) == t328) = true then (if (wrap64 (2 * t319)) ≤ (t315.length : Int) then (if bt324.2 = true then ((impl_PlanesAt.f kj5 bt324.1 t316).bind fun t329 => (some (t329 == (wrap64 (t319 + 1))))) else (some true)) else (some false)) else (some false)))) = some r := by rw [if_neg (show ¬ (false = true) by decide)] at H; exact H
          clear H
          have H := H1
          clear H1
          obtain ⟨y321, hy321⟩ : ∃ y_ : List Int, y_ = (([1, (-1)] : List Int)) := ⟨_, rfl⟩
          replace H : ((impl_FormJoin.f kj5 t315 y321).bind fun bt324 => ((impl_FormVanishes.f kj5 t315 t316).bind fun t328 => (if ((decide (t319 > 0)) == t328) = true then (if (wrap64 (2 * t319)) ≤ (t315.length : Int) then (if bt324.2 = true then ((impl_PlanesAt.f kj5 bt324.1 t316).bind fun t329 => (some (t329 == (wrap64 (t319 + 1))))) else (some true)) else (some false)) else (some false)))) = some r := by first | (rw [hy321]; with_reducible exact H) | (have H2_ := (Option.bind_some _ _).symm.trans H; rw [hy321]; with_reducible exact H2_) | (have H2_ := (Option.bind_some _ _).symm.trans H; with_reducible exact H2_) | with_reducible exact H | (rw [hy321]; exact H) | exact H
          have Ny321 := Aside0.mk hy321
          clear hy321
          replace H := Option.bind_eq_some_iff.mp H
          obtain ⟨⟨t324, t325⟩, A130, H⟩ := H
          replace H : ((impl_FormVanishes.f kj5 t315 t316).bind fun t328 => (if ((decide (t319 > 0)) == t328) = true then (if (wrap64 (2 * t319)) ≤ (t315.length : Int) then (if t325 = true then ((impl_PlanesAt.f kj5 t324 t316).bind fun t329 => (some (t329 == (wrap64 (t319 + 1))))) else (some true)) else (some false)) else (some false))) = some r := H
          have A13 := Aside0.mk A130
          clear A130
          replace H := Option.bind_eq_some_iff.mp H
          obtain ⟨t328, A140, H⟩ := H
          replace H : (if ((decide (t319 > 0)) == t328) = true then (if (wrap64 (2 * t319)) ≤ (t315.length : Int) then (if t325 = true then ((impl_PlanesAt.f kj5 t324 t316).bind fun t329 => (some (t329 == (wrap64 (t319 + 1))))) else (some true)) else (some false)) else (some false)) = some r := H
          have A14 := Aside0.mk A140
          clear A140
          by_cases c15 : ((decide (t319 > 0)) == t328) = true
          · rw [if_pos c15] at H
            have c15b0 : ((decide (t319 > 0)) == t328) = true := c15
            (try (have c15b1 : decide ((decide (t319 > 0)) = t328) = true := by simpa using c15))
            (try (have c15b2 : ((decide (t319 > 0)) == t328) = true := by simpa using c15))
            clear c15
            by_cases c16 : (wrap64 (2 * t319)) ≤ (t315.length : Int)
            · rw [if_pos c16] at H
              have c16b0 : decide ((wrap64 (2 * t319)) ≤ (t315.length : Int)) = true := decide_eq_true c16
              clear c16
              by_cases c17 : t325 = true
              · subst c17
                have H1 : ((impl_PlanesAt.f kj5 t324 t316).bind fun t329 => (some (t329 == (wrap64 (t319 + 1))))) = some r := by rw [if_pos rfl] at H; exact H
                clear H
                have H := H1
                clear H1
                replace H := Option.bind_eq_some_iff.mp H
                obtain ⟨t329, A180, H⟩ := H
                replace H : (some (t329 == (wrap64 (t319 + 1)))) = some r := H
                have A18 := Aside0.mk A180
                clear A180
                obtain rfl := Option.some.inj H
                go_wp2_with (first | ((with_reducible refine gate_dst (N := 35) rfl ?_); (try (refine gate_guard (by rfl) ?_; dsimp only)); refine Kd.R_lit (Kd.int .i64) _ 3 ?hg (N := 35) ?hd (xs := ([1, (-1)] : List Int)) (inner := [.int .i64 1, .int .i64 (-1)]) (ok := fun _ => True) (okp := fun _ => True) ?hr ?hp (fun _ hk => hk) trivial (Below.refl _ _) (Nat.le_refl _) (by simp) ?_; (case hd => rfl); (case hg => rfl); (case hr => first | (go_simp; done) | (go_simp; rfl)); (case hp => exact (Reps.one (show Kd.M (Kd.int .i64) _ _ _ 1 [.int .i64 1] from rfl) (Reps.one (show Kd.M (Kd.int .i64) _ _ _ (-1) [.int .i64 (-1)] from rfl) (Reps.none _ _)))); intro v322 w19 ho20 hb hg_ hnew_; clear hg_ hnew_; (first | rw [← Ny321.out] at ho20 | (simp only [Int.reduceToNat] at ho20; rw [← Ny321.out] at ho20)); have n0_ := Aside0.mk (Kd.R_elder' ((Sqz.mvR HO_3.out)) (Kd.R_base ho20) hb); have n1_ := Aside0.mk (Kd.R_lower (Kd.R_new' ho20 (Kd.R_lt ((Sqz.mvR HO_3.out)))) (below_size (Sqz.auHB))); have n2_ := Aside0.mk (below_step (Sqz.auHB) hb); clear HO_3; clear HB; have HO_3 := n0_; have HO323 := n1_; have HB := n2_; clear n0_ n1_ n2_; clear hb ho20; obtain ⟨Ao21, co21, eo21⟩ := Kd.R_slice HO323.out; subst eo21) | ((with_reducible refine gate_callee (f := 25) rfl ?_); refine goesL_ (some 36) rfl rfl Try.func25 (by kernel_rfl) rfl #[.slice Ao8 t315.length co8, .slice Ao21 y321.length co21] rfl Sqz.auM ?_; (with_reducible refine (impl_FormJoin.calls kj5 _ _ t315 _ _ y321 t324 true _ ?side1 ?side2 ?side3 ?side4 A13.out).mono ?_); (case side1 => exact Sqz.mvC ((Kd.R_reads' HO_3.out).2.2)); (case side2 => exact (Kd.R_reads' HO_3.out).2.1); (case side3 => exact Sqz.mvC ((Kd.R_reads' HO323.out).2.2)); (case side4 => exact (Kd.R_reads' HO323.out).2.1); rintro e w22 ⟨v326, rfl, ho0, hb⟩; refine ⟨_, rfl, ?_⟩; have n0_ := Aside0.mk (Kd.R_elder' ((Sqz.mvR HO_3.out)) (Kd.R_base ho0) hb); have n1_ := Aside0.mk (Kd.R_elder' ((Sqz.mvR HO323.out)) (Kd.R_base ho0) hb); have n2_ := Aside0.mk (Kd.R_lower (Kd.R_new' (Kd.R_new' ho0 (Kd.R_lt ((Sqz.mvR HO_3.out)))) (Kd.R_lt ((Sqz.mvR HO323.out)))) (below_size (Sqz.auHB))); have n3_ := Aside0.mk (below_step (Sqz.auHB) hb); clear HO_3; clear HO323; clear HB; have HO_3 := n0_; have HO323 := n1_; have HO327 := n2_; have HB := n3_; clear n0_ n1_ n2_ n3_; (try clear hb); (try clear hb2); (try clear hk); (try clear hi); (try clear ho0)) | ((with_reducible refine gate_callee (f := 21) rfl ?_); refine goesL_ (some 43) rfl rfl Try.func21 (by kernel_rfl) rfl #[.slice Ao8 t315.length co8, .int .i64 t316] rfl Sqz.auM ?_; (with_reducible refine (impl_FormVanishes.calls kj5 _ _ t315 t316 t328 _ ?side1 ?side2 A14.out).mono ?_); (case side1 => exact Sqz.mvC ((Kd.R_reads' HO_3.out).2.2)); (case side2 => exact (Kd.R_reads' HO_3.out).2.1); rintro e w23 ⟨rfl, hb⟩; refine ⟨_, rfl, ?_⟩; have n0_ := Aside0.mk (Kd.R_below ((Sqz.mvR HO_3.out)) hb); have n1_ := Aside0.mk (Kd.R_below ((Sqz.mvR HO323.out)) hb); have n2_ := Aside0.mk (Kd.R_below ((Sqz.mvR HO327.out)) hb); have n3_ := Aside0.mk (below_step (Sqz.auHB) hb); clear HO_3; clear HO323; clear HO327; clear HB; have HO_3 := n0_; have HO323 := n1_; have HO327 := n2_; have HB := n3_; clear n0_ n1_ n2_ n3_; (try clear hb); (try clear hb2); (try clear hk); (try clear hi); obtain ⟨Ao24, co24, eo24⟩ := Kd.R_slice HO327.out; subst eo24) | (go_at_call 32; (with_reducible refine (impl_PlanesAt.calls kj5 _ _ t324 t316 t329 _ ?side1 ?side2 A18.out).mono ?_); (case side1 => exact Sqz.mvC ((Kd.R_reads' HO327.out).2.2)); (case side2 => exact (Kd.R_reads' HO327.out).2.1); rintro e w25 ⟨rfl, hb⟩; have n0_ := Aside0.mk (Kd.R_below ((Sqz.mvR HO_3.out)) hb); have n1_ := Aside0.mk (Kd.R_below ((Sqz.mvR HO323.out)) hb); have n2_ := Aside0.mk (Kd.R_below ((Sqz.mvR HO327.out)) hb); have n3_ := Aside0.mk (below_step (Sqz.auHB) hb); clear HO_3; clear HO323; clear HO327; clear HB; have HO_3 := n0_; have HO323 := n1_; have HO327 := n2_; have HB := n3_; clear n0_ n1_ n2_ n3_; (try clear hb); (try clear hb2); (try clear hk); (try clear hi)))
                go_ret
                exact ⟨Sqz.auR, Sqz.auHB⟩
              · replace c17 := Bool.eq_false_iff.mpr c17
                subst c17
                have H1 : (some true) = some r := by rw [if_neg (show ¬ (false = true) by decide)] at H; exact H
                clear H
                have H := H1
                clear H1
                obtain rfl := Option.some.inj H
                go_wp2_with (first | ((with_reducible refine gate_dst (N := 35) rfl ?_); (try (refine gate_guard (by rfl) ?_; dsimp only)); refine Kd.R_lit (Kd.int .i64) _ 3 ?hg (N := 35) ?hd (xs := ([1, (-1)] : List Int)) (inner := [.int .i64 1, .int .i64 (-1)]) (ok := fun _ => True) (okp := fun _ => True) ?hr ?hp (fun _ hk => hk) trivial (Below.refl _ _) (Nat.le_refl _) (by simp) ?_; (case hd => rfl); (case hg => rfl); (case hr => first | (go_simp; done) | (go_simp; rfl)); (case hp => exact (Reps.one (show Kd.M (Kd.int .i64) _ _ _ 1 [.int .i64 1] from rfl) (Reps.one (show Kd.M (Kd.int .i64) _ _ _ (-1) [.int .i64 (-1)] from rfl) (Reps.none _ _)))); intro v322 w26 ho27 hb hg_ hnew_; clear hg_ hnew_; (first | rw [← Ny321.out] at ho27 | (simp only [Int.reduceToNat] at ho27; rw [← Ny321.out] at ho27)); have n0_ := Aside0.mk (Kd.R_elder' ((Sqz.mvR HO_3.out)) (Kd.R_base ho27) hb); have n1_ := Aside0.mk (Kd.R_lower (Kd.R_new' ho27 (Kd.R_lt ((Sqz.mvR HO_3.out)))) (below_size (Sqz.auHB))); have n2_ := Aside0.mk (below_step (Sqz.auHB) hb); clear HO_3; clear HB; have HO_3 := n0_; have HO323 := n1_; have HB := n2_; clear n0_ n1_ n2_; clear hb ho27; obtain ⟨Ao28, co28, eo28⟩ := Kd.R_slice HO323.out; subst eo28) | ((with_reducible refine gate_callee (f := 25) rfl ?_); refine goesL_ (some 36) rfl rfl Try.func25 (by kernel_rfl) rfl #[.slice Ao8 t315.length co8, .slice Ao28 y321.length co28] rfl Sqz.auM ?_; (with_reducible refine (impl_FormJoin.calls kj5 _ _ t315 _ _ y321 t324 false _ ?side1 ?side2 ?side3 ?side4 A13.out).mono ?_); (case side1 => exact Sqz.mvC ((Kd.R_reads' HO_3.out).2.2)); (case side2 => exact (Kd.R_reads' HO_3.out).2.1); (case side3 => exact Sqz.mvC ((Kd.R_reads' HO323.out).2.2)); (case side4 => exact (Kd.R_reads' HO323.out).2.1); rintro e w29 ⟨v326, rfl, ho0, hb⟩; refine ⟨_, rfl, ?_⟩; have n0_ := Aside0.mk (Kd.R_elder' ((Sqz.mvR HO_3.out)) (Kd.R_base ho0) hb); have n1_ := Aside0.mk (Kd.R_elder' ((Sqz.mvR HO323.out)) (Kd.R_base ho0) hb); have n2_ := Aside0.mk (Kd.R_lower (Kd.R_new' (Kd.R_new' ho0 (Kd.R_lt ((Sqz.mvR HO_3.out)))) (Kd.R_lt ((Sqz.mvR HO323.out)))) (below_size (Sqz.auHB))); have n3_ := Aside0.mk (below_step (Sqz.auHB) hb); clear HO_3; clear HO323; clear HB; have HO_3 := n0_; have HO323 := n1_; have HO327 := n2_; have HB := n3_; clear n0_ n1_ n2_ n3_; (try clear hb); (try clear hb2); (try clear hk); (try clear hi); (try clear ho0)) | ((with_reducible refine gate_callee (f := 21) rfl ?_); refine goesL_ (some 43) rfl rfl Try.func21 (by kernel_rfl) rfl #[.slice Ao8 t315.length co8, .int .i64 t316] rfl Sqz.auM ?_; (with_reducible refine (impl_FormVanishes.calls kj5 _ _ t315 t316 t328 _ ?side1 ?side2 A14.out).mono ?_); (case side1 => exact Sqz.mvC ((Kd.R_reads' HO_3.out).2.2)); (case side2 => exact (Kd.R_reads' HO_3.out).2.1); rintro e w30 ⟨rfl, hb⟩; refine ⟨_, rfl, ?_⟩; have n0_ := Aside0.mk (Kd.R_below ((Sqz.mvR HO_3.out)) hb); have n1_ := Aside0.mk (Kd.R_below ((Sqz.mvR HO323.out)) hb); have n2_ := Aside0.mk (Kd.R_below ((Sqz.mvR HO327.out)) hb); have n3_ := Aside0.mk (below_step (Sqz.auHB) hb); clear HO_3; clear HO323; clear HO327; clear HB; have HO_3 := n0_; have HO323 := n1_; have HO327 := n2_; have HB := n3_; clear n0_ n1_ n2_ n3_; (try clear hb); (try clear hb2); (try clear hk); (try clear hi)))
                go_ret
                exact ⟨Sqz.auR, Sqz.auHB⟩
            · rw [if_neg c16] at H
              have c16b0 : decide ((wrap64 (2 * t319)) ≤ (t315.length : Int)) = false := decide_eq_false c16
              clear c16
              obtain rfl := Option.some.inj H
              go_wp2_with (first | ((with_reducible refine gate_dst (N := 35) rfl ?_); (try (refine gate_guard (by rfl) ?_; dsimp only)); refine Kd.R_lit (Kd.int .i64) _ 3 ?hg (N := 35) ?hd (xs := ([1, (-1)] : List Int)) (inner := [.int .i64 1, .int .i64 (-1)]) (ok := fun _ => True) (okp := fun _ => True) ?hr ?hp (fun _ hk => hk) trivial (Below.refl _ _) (Nat.le_refl _) (by simp) ?_; (case hd => rfl); (case hg => rfl); (case hr => first | (go_simp; done) | (go_simp; rfl)); (case hp => exact (Reps.one (show Kd.M (Kd.int .i64) _ _ _ 1 [.int .i64 1] from rfl) (Reps.one (show Kd.M (Kd.int .i64) _ _ _ (-1) [.int .i64 (-1)] from rfl) (Reps.none _ _)))); intro v322 w31 ho32 hb hg_ hnew_; clear hg_ hnew_; (first | rw [← Ny321.out] at ho32 | (simp only [Int.reduceToNat] at ho32; rw [← Ny321.out] at ho32)); have n0_ := Aside0.mk (Kd.R_elder' ((Sqz.mvR HO_3.out)) (Kd.R_base ho32) hb); have n1_ := Aside0.mk (Kd.R_lower (Kd.R_new' ho32 (Kd.R_lt ((Sqz.mvR HO_3.out)))) (below_size (Sqz.auHB))); have n2_ := Aside0.mk (below_step (Sqz.auHB) hb); clear HO_3; clear HB; have HO_3 := n0_; have HO323 := n1_; have HB := n2_; clear n0_ n1_ n2_; clear hb ho32; obtain ⟨Ao33, co33, eo33⟩ := Kd.R_slice HO323.out; subst eo33) | ((with_reducible refine gate_callee (f := 25) rfl ?_); refine goesL_ (some 36) rfl rfl Try.func25 (by kernel_rfl) rfl #[.slice Ao8 t315.length co8, .slice Ao33 y321.length co33] rfl Sqz.auM ?_; (with_reducible refine (impl_FormJoin.calls kj5 _ _ t315 _ _ y321 t324 t325 _ ?side1 ?side2 ?side3 ?side4 A13.out).mono ?_); (case side1 => exact Sqz.mvC ((Kd.R_reads' HO_3.out).2.2)); (case side2 => exact (Kd.R_reads' HO_3.out).2.1); (case side3 => exact Sqz.mvC ((Kd.R_reads' HO323.out).2.2)); (case side4 => exact (Kd.R_reads' HO323.out).2.1); rintro e w34 ⟨v326, rfl, ho0, hb⟩; refine ⟨_, rfl, ?_⟩; have n0_ := Aside0.mk (Kd.R_elder' ((Sqz.mvR HO_3.out)) (Kd.R_base ho0) hb); have n1_ := Aside0.mk (Kd.R_elder' ((Sqz.mvR HO323.out)) (Kd.R_base ho0) hb); have n2_ := Aside0.mk (Kd.R_lower (Kd.R_new' (Kd.R_new' ho0 (Kd.R_lt ((Sqz.mvR HO_3.out)))) (Kd.R_lt ((Sqz.mvR HO323.out)))) (below_size (Sqz.auHB))); have n3_ := Aside0.mk (below_step (Sqz.auHB) hb); clear HO_3; clear HO323; clear HB; have HO_3 := n0_; have HO323 := n1_; have HO327 := n2_; have HB := n3_; clear n0_ n1_ n2_ n3_; (try clear hb); (try clear hb2); (try clear hk); (try clear hi); (try clear ho0)) | ((with_reducible refine gate_callee (f := 21) rfl ?_); refine goesL_ (some 43) rfl rfl Try.func21 (by kernel_rfl) rfl #[.slice Ao8 t315.length co8, .int .i64 t316] rfl Sqz.auM ?_; (with_reducible refine (impl_FormVanishes.calls kj5 _ _ t315 t316 t328 _ ?side1 ?side2 A14.out).mono ?_); (case side1 => exact Sqz.mvC ((Kd.R_reads' HO_3.out).2.2)); (case side2 => exact (Kd.R_reads' HO_3.out).2.1); rintro e w35 ⟨rfl, hb⟩; refine ⟨_, rfl, ?_⟩; have n0_ := Aside0.mk (Kd.R_below ((Sqz.mvR HO_3.out)) hb); have n1_ := Aside0.mk (Kd.R_below ((Sqz.mvR HO323.out)) hb); have n2_ := Aside0.mk (Kd.R_below ((Sqz.mvR HO327.out)) hb); have n3_ := Aside0.mk (below_step (Sqz.auHB) hb); clear HO_3; clear HO323; clear HO327; clear HB; have HO_3 := n0_; have HO323 := n1_; have HO327 := n2_; have HB := n3_; clear n0_ n1_ n2_ n3_; (try clear hb); (try clear hb2); (try clear hk); (try clear hi)))
              go_ret
              exact ⟨Sqz.auR, Sqz.auHB⟩
          · rw [if_neg c15] at H
            have c15b0 : ((decide (t319 > 0)) == t328) = false := by simpa using c15
            (try (have c15b1 : decide ((decide (t319 > 0)) = t328) = false := by simpa using c15))
            (try (have c15b2 : ((decide (t319 > 0)) == t328) = false := by simpa using c15))
            (try (have c15b3 : ¬ ((decide (t319 > 0)) = t328) := by simpa using c15))
            clear c15
            obtain rfl := Option.some.inj H
            go_wp2_with (first | ((with_reducible refine gate_dst (N := 35) rfl ?_); (try (refine gate_guard (by rfl) ?_; dsimp only)); refine Kd.R_lit (Kd.int .i64) _ 3 ?hg (N := 35) ?hd (xs := ([1, (-1)] : List Int)) (inner := [.int .i64 1, .int .i64 (-1)]) (ok := fun _ => True) (okp := fun _ => True) ?hr ?hp (fun _ hk => hk) trivial (Below.refl _ _) (Nat.le_refl _) (by simp) ?_; (case hd => rfl); (case hg => rfl); (case hr => first | (go_simp; done) | (go_simp; rfl)); (case hp => exact (Reps.one (show Kd.M (Kd.int .i64) _ _ _ 1 [.int .i64 1] from rfl) (Reps.one (show Kd.M (Kd.int .i64) _ _ _ (-1) [.int .i64 (-1)] from rfl) (Reps.none _ _)))); intro v322 w36 ho37 hb hg_ hnew_; clear hg_ hnew_; (first | rw [← Ny321.out] at ho37 | (simp only [Int.reduceToNat] at ho37; rw [← Ny321.out] at ho37)); have n0_ := Aside0.mk (Kd.R_elder' ((Sqz.mvR HO_3.out)) (Kd.R_base ho37) hb); have n1_ := Aside0.mk (Kd.R_lower (Kd.R_new' ho37 (Kd.R_lt ((Sqz.mvR HO_3.out)))) (below_size (Sqz.auHB))); have n2_ := Aside0.mk (below_step (Sqz.auHB) hb); clear HO_3; clear HB; have HO_3 := n0_; have HO323 := n1_; have HB := n2_; clear n0_ n1_ n2_; clear hb ho37; obtain ⟨Ao38, co38, eo38⟩ := Kd.R_slice HO323.out; subst eo38) | ((with_reducible refine gate_callee (f := 25) rfl ?_); refine goesL_ (some 36) rfl rfl Try.func25 (by kernel_rfl) rfl #[.slice Ao8 t315.length co8, .slice Ao38 y321.length co38] rfl Sqz.auM ?_; (with_reducible refine (impl_FormJoin.calls kj5 _ _ t315 _ _ y321 t324 t325 _ ?side1 ?side2 ?side3 ?side4 A13.out).mono ?_); (case side1 => exact Sqz.mvC ((Kd.R_reads' HO_3.out).2.2)); (case side2 => exact (Kd.R_reads' HO_3.out).2.1); (case side3 => exact Sqz.mvC ((Kd.R_reads' HO323.out).2.2)); (case side4 => exact (Kd.R_reads' HO323.out).2.1); rintro e w39 ⟨v326, rfl, ho0, hb⟩; refine ⟨_, rfl, ?_⟩; have n0_ := Aside0.mk (Kd.R_elder' ((Sqz.mvR HO_3.out)) (Kd.R_base ho0) hb); have n1_ := Aside0.mk (Kd.R_elder' ((Sqz.mvR HO323.out)) (Kd.R_base ho0) hb); have n2_ := Aside0.mk (Kd.R_lower (Kd.R_new' (Kd.R_new' ho0 (Kd.R_lt ((Sqz.mvR HO_3.out)))) (Kd.R_lt ((Sqz.mvR HO323.out)))) (below_size (Sqz.auHB))); have n3_ := Aside0.mk (below_step (Sqz.auHB) hb); clear HO_3; clear HO323; clear HB; have HO_3 := n0_; have HO323 := n1_; have HO327 := n2_; have HB := n3_; clear n0_ n1_ n2_ n3_; (try clear hb); (try clear hb2); (try clear hk); (try clear hi); (try clear ho0)) | ((with_reducible refine gate_callee (f := 21) rfl ?_); refine goesL_ (some 43) rfl rfl Try.func21 (by kernel_rfl) rfl #[.slice Ao8 t315.length co8, .int .i64 t316] rfl Sqz.auM ?_; (with_reducible refine (impl_FormVanishes.calls kj5 _ _ t315 t316 t328 _ ?side1 ?side2 A14.out).mono ?_); (case side1 => exact Sqz.mvC ((Kd.R_reads' HO_3.out).2.2)); (case side2 => exact (Kd.R_reads' HO_3.out).2.1); rintro e w40 ⟨rfl, hb⟩; refine ⟨_, rfl, ?_⟩; have n0_ := Aside0.mk (Kd.R_below ((Sqz.mvR HO_3.out)) hb); have n1_ := Aside0.mk (Kd.R_below ((Sqz.mvR HO323.out)) hb); have n2_ := Aside0.mk (Kd.R_below ((Sqz.mvR HO327.out)) hb); have n3_ := Aside0.mk (below_step (Sqz.auHB) hb); clear HO_3; clear HO323; clear HO327; clear HB; have HO_3 := n0_; have HO323 := n1_; have HO327 := n2_; have HB := n3_; clear n0_ n1_ n2_ n3_; (try clear hb); (try clear hb2); (try clear hk); (try clear hi)))
            go_ret
            exact ⟨Sqz.auR, Sqz.auHB⟩

/-- THE ONE PURE STATEMENT of laws_FnPlanes: yours. -/
def laws_FnPlanes.Pure : Prop := ∀ (l0 : List Int), l0.length ≤ maxLen → l0.length * 1 ≤ 140737488351232 → (∀ x ∈ l0, (Lit.int .u8 x).wf = true) → ∃ k, laws_FnPlanes.f k l0 = some true
theorem laws_FnPlanes.walk (P : laws_FnPlanes.Pure) (a0 : Option Addr) (len0 cap0 : Nat) (z0 : List Int) (w : World) (w0 : (a0 = none ∧ len0 = 0 ∧ cap0 = 0 ∧ z0 = []) ∨ ∃ x, a0 = some x ∧ len0 ≤ cap0 ∧ cap0 ≤ maxLen ∧ z0.length = cap0 ∧ (∀ i, i < z0.length → w.cell? (x.add i) = some (.int .u8 (z0.getD i 0))) ∧ ∀ n ∈ z0, (Lit.int .u8 n).wf = true) (y0 : len0 * 1 ≤ 140737488351232) :
    Calls Try.prog 6 #[.slice a0 len0 cap0] w fun e w' => e = .returned (.bool true) ∧ Below w.heap.size w w' := by
  obtain ⟨l0, rfl, hr0, hm0, hw0, hc0⟩ := ReadsInt.ofRowC w0
  obtain ⟨k, h⟩ := P l0 hm0 y0 hw0
  refine (laws_FnPlanes.calls k _ _ l0 true w (Kd.C_of_reads (d := (0 : Int)) (h1 := fun _ => rfl) hr0) hc0 h).mono ?_
  rintro e w' ⟨rfl, hd⟩
  exact ⟨rfl, hd⟩

end Go.Proofs.Ytihadpckmcebgaa.PFnPlanes
