/- A function's Lean twin and its walk, written by a program of this session. -/
import Derived.Test.YtihadpckmcebgaaPFnTermsValuex0
import Derived.Test.YtihadpckmcebgaaPFnTermsValuex4
namespace Go.Proofs.Ytihadpckmcebgaa.PFnTermsValue
open Go.RowKit Go.Proofs.YtihadpckmcebgaaW.PrintWords Go.Proofs.YtihadpckmcebgaaW.PrintLast Go.Proofs.YtihadpckmcebgaaW.PrintMore
attribute [local go_sem] max2_int min2_int max_two min_two max_three min_three max_four min_four   -- for this text's walks alone
set_option linter.unusedVariables false
set_option linter.unusedSimpArgs false

/-! ### spec_l4Vanishes: function 133 -/
def spec_l4Vanishes.f (k : Nat) (l0 : List Int) (a1 : Int) : Option (Bool) := if a1 = 0 then ((spec_l4Less.f k l0).bind fun t277 => (if t277 > 0 then ((spec_l4Less.f k l0).bind fun t278 => (some (decide (t278 < (l0.length : Int))))) else (some false))) else ((spec_l4Product.f k l0).bind fun t279 => (if (l0.length : Int) = 1 then (some false) else (if (l0.length : Int) = 2 then ((spec_l2Square.f k (wrap64 (-t279)) a1).bind fun t280 => (some t280)) else (if (l0.length : Int) = 3 then ((spec_l4Invariant.f k l0 a1).bind fun t281 => ((spec_l3Symbol.f k (-1) (wrap64 (-t279)) a1).bind fun t282 => (some (t281 == t282)))) else ((spec_l2Square.f k t279 a1).bind fun t283 => (if t283 = true then ((spec_l4Invariant.f k l0 a1).bind fun t284 => ((spec_l3Symbol.f k (-1) (-1) a1).bind fun t285 => (some (t284 == t285)))) else (some true)))))))
set_option maxHeartbeats 8000000 in
set_option maxRecDepth 100000 in
theorem spec_l4Vanishes.calls (k : Nat) (A0 : Option Addr) (c0 : Nat) (l0 : List Int) (a1 : Int) (r : Bool) (w : World) (hr0 : Kd.C (Kd.int .i64) w A0 l0.length l0) (hc0 : l0.length ≤ c0) (h : spec_l4Vanishes.f k l0 a1 = some r) :
    Calls Try.prog 133 #[.slice A0 l0.length c0, .int .i64 a1] w fun e w' => e = .returned (.bool r) ∧ Drawn0 w w' := by
  have HR0 := Aside0.mk hr0
  have HC0 := Aside0.mk hc0
  clear hr0 hc0
  have H : (if a1 = 0 then ((spec_l4Less.f k l0).bind fun t277 => (if t277 > 0 then ((spec_l4Less.f k l0).bind fun t278 => (some (decide (t278 < (l0.length : Int))))) else (some false))) else ((spec_l4Product.f k l0).bind fun t279 => (if (l0.length : Int) = 1 then (some false) else (if (l0.length : Int) = 2 then ((spec_l2Square.f k (wrap64 (-t279)) a1).bind fun t280 => (some t280)) else (if (l0.length : Int) = 3 then ((spec_l4Invariant.f k l0 a1).bind fun t281 => ((spec_l3Symbol.f k (-1) (wrap64 (-t279)) a1).bind fun t282 => (some (t281 == t282)))) else ((spec_l2Square.f k t279 a1).bind fun t283 => (if t283 = true then ((spec_l4Invariant.f k l0 a1).bind fun t284 => ((spec_l3Symbol.f k (-1) (-1) a1).bind fun t285 => (some (t284 == t285)))) else (some true)))))))) = some r := h
  clear h
  by_cases c3 : a1 = 0
  · rw [if_pos c3] at H
    have c3b0 : (a1 == 0) = true := beq_iff_eq.mpr c3
    have c3b1 : (a1 != 0) = false := bne_eq_false_iff_eq.mpr c3
    clear c3
    replace H := Option.bind_eq_some_iff.mp H
    obtain ⟨t277, A40, H⟩ := H
    replace H : (if t277 > 0 then ((spec_l4Less.f k l0).bind fun t278 => (some (decide (t278 < (l0.length : Int))))) else (some false)) = some r := H
    have A4 := Aside0.mk A40
    clear A40
    by_cases c5 : t277 > 0
    · rw [if_pos c5] at H
      have c5b0 : decide (0 < t277) = true := decide_eq_true c5
      clear c5
      replace H := Option.bind_eq_some_iff.mp H
      obtain ⟨t278, A60, H⟩ := H
      replace H : (some (decide (t278 < (l0.length : Int)))) = some r := H
      have A6 := Aside0.mk A60
      clear A60
      obtain rfl := Option.some.inj H
      go_enter Try.func133, Try.ntmps133
      go_wp2_with (first | ((with_reducible refine gate_callee (f := 130) rfl ?_); refine goesL_ (some 9) rfl rfl Try.func130 (by kernel_rfl) rfl #[.slice A0 l0.length c0] rfl Sqz.auM ?_; (with_reducible refine (spec_l4Less.calls k _ _ l0 t277 _ ?side1 ?side2 A4.out).mono ?_); (case side1 => exact Sqz.mvC (HR0.out)); (case side2 => exact HC0.out); rintro e w' ⟨rfl, ⟨nd, rfl⟩⟩; refine ⟨_, rfl, ?_⟩) | (go_at_call 130; (with_reducible refine (spec_l4Less.calls k _ _ l0 t278 _ ?side1 ?side2 A6.out).mono ?_); (case side1 => exact Sqz.mvC (HR0.out)); (case side2 => exact HC0.out); rintro e w' ⟨rfl, ⟨nd, rfl⟩⟩))
      go_ret
      exact ⟨Sqz.auS, by repeat (first | exact Drawn0.refl _ | apply Drawn0.step)⟩
    · rw [if_neg c5] at H
      have c5b0 : decide (0 < t277) = false := decide_eq_false c5
      clear c5
      obtain rfl := Option.some.inj H
      go_enter Try.func133, Try.ntmps133
      go_wp2_with (first | ((with_reducible refine gate_callee (f := 130) rfl ?_); refine goesL_ (some 9) rfl rfl Try.func130 (by kernel_rfl) rfl #[.slice A0 l0.length c0] rfl Sqz.auM ?_; (with_reducible refine (spec_l4Less.calls k _ _ l0 t277 _ ?side1 ?side2 A4.out).mono ?_); (case side1 => exact Sqz.mvC (HR0.out)); (case side2 => exact HC0.out); rintro e w' ⟨rfl, ⟨nd, rfl⟩⟩; refine ⟨_, rfl, ?_⟩))
      go_ret
      exact ⟨Sqz.auS, by repeat (first | exact Drawn0.refl _ | apply Drawn0.step)⟩
  · rw [if_neg c3] at H
    have c3b0 : (a1 == 0) = false := beq_eq_false_iff_ne.mpr c3
    have c3b1 : (a1 != 0) = true := bne_iff_ne.mpr c3
    replace H := Option.bind_eq_some_iff.mp H
    obtain ⟨t279, A70, H⟩ := H
    replace H : (if (l0.length : Int) = 1 then (some false) else (if (l0.length : Int) = 2 then ((spec_l2Square.f k (wrap64 (-t279)) a1).bind fun t280 => (some t280)) else (if (l0.length : Int) = 3 then ((spec_l4Invariant.f k l0 a1).bind fun t281 => ((spec_l3Symbol.f k (-1) (wrap64 (-t279)) a1).bind fun t282 => (some (t281 == t282)))) else ((spec_l2Square.f k t279 a1).bind fun t283 => (if t283 = true then ((spec_l4Invariant.f k l0 a1).bind fun t284 => ((spec_l3Symbol.f k (-1) (-1) a1).bind fun t285 => (some (t284 == t285)))) else (some true)))))) = some r := H
    have A7 := Aside0.mk A70
    clear A70
    by_cases c8 : (l0.length : Int) = 1
    · rw [if_pos c8] at H
      have c8b0 : ((l0.length : Int) == 1) = true := beq_iff_eq.mpr c8
      have c8b1 : ((l0.length : Int) != 1) = false := bne_eq_false_iff_eq.mpr c8
      clear c8
      obtain rfl := Option.some.inj H
      go_enter Try.func133, Try.ntmps133
      go_wp2_with (first | ((with_reducible refine gate_callee (f := 103) rfl ?_); refine goesL_ (some 19) rfl rfl Try.func103 (by kernel_rfl) rfl #[.slice A0 l0.length c0] rfl Sqz.auM ?_; (with_reducible refine (spec_l4Product.calls k _ _ l0 t279 _ ?side1 ?side2 A7.out).mono ?_); (case side1 => exact Sqz.mvC (HR0.out)); (case side2 => exact HC0.out); rintro e w' ⟨rfl, ⟨nd, rfl⟩⟩; refine ⟨_, rfl, ?_⟩))
      go_ret
      exact ⟨Sqz.auS, by repeat (first | exact Drawn0.refl _ | apply Drawn0.step)⟩
    · rw [if_neg c8] at H
      have c8b0 : ((l0.length : Int) == 1) = false := beq_eq_false_iff_ne.mpr c8
      have c8b1 : ((l0.length : Int) != 1) = true := bne_iff_ne.mpr c8
      by_cases c9 : (l0.length : Int) = 2
      · rw [if_pos c9] at H
        have c9b0 : ((l0.length : Int) == 2) = true := beq_iff_eq.mpr c9
        have c9b1 : ((l0.length : Int) != 2) = false := bne_eq_false_iff_eq.mpr c9
        clear c9
        replace H := Option.bind_eq_some_iff.mp H
        obtain ⟨t280, A100, H⟩ := H
        replace H : (some t280) = some r := H
        have A10 := Aside0.mk A100
        clear A100
        obtain rfl := Option.some.inj H
        go_enter Try.func133, Try.ntmps133
        go_wp2_with (first | ((with_reducible refine gate_callee (f := 103) rfl ?_); refine goesL_ (some 19) rfl rfl Try.func103 (by kernel_rfl) rfl #[.slice A0 l0.length c0] rfl Sqz.auM ?_; (with_reducible refine (spec_l4Product.calls k _ _ l0 t279 _ ?side1 ?side2 A7.out).mono ?_); (case side1 => exact Sqz.mvC (HR0.out)); (case side2 => exact HC0.out); rintro e w' ⟨rfl, ⟨nd, rfl⟩⟩; refine ⟨_, rfl, ?_⟩) | ((with_reducible refine gate_callee (f := 131) rfl ?_); refine goesL_ (some 29) rfl rfl Try.func131 (by kernel_rfl) rfl #[.int .i64 (wrap64 (-t279)), .int .i64 a1] rfl Sqz.auM ?_; (with_reducible refine (spec_l2Square.calls k (wrap64 (-t279)) a1 t280 _ A10.out).mono ?_); rintro e w' ⟨rfl, ⟨nd, rfl⟩⟩; refine ⟨_, rfl, ?_⟩))
        go_ret
        exact ⟨Sqz.auS, by repeat (first | exact Drawn0.refl _ | apply Drawn0.step)⟩
      · rw [if_neg c9] at H
        have c9b0 : ((l0.length : Int) == 2) = false := beq_eq_false_iff_ne.mpr c9
        have c9b1 : ((l0.length : Int) != 2) = true := bne_iff_ne.mpr c9
        by_cases c11 : (l0.length : Int) = 3
        · rw [if_pos c11] at H
          have c11b0 : ((l0.length : Int) == 3) = true := beq_iff_eq.mpr c11
          have c11b1 : ((l0.length : Int) != 3) = false := bne_eq_false_iff_eq.mpr c11
          clear c11
          replace H := Option.bind_eq_some_iff.mp H
          obtain ⟨t281, A120, H⟩ := H
          replace H : ((spec_l3Symbol.f k (-1) (wrap64 (-t279)) a1).bind fun t282 => (some (t281 == t282))) = some r := H
          have A12 := Aside0.mk A120
          clear A120
          replace H := Option.bind_eq_some_iff.mp H
          obtain ⟨t282, A130, H⟩ := H
          replace H : (some (t281 == t282)) = some r := H
          have A13 := Aside0.mk A130
          clear A130
          obtain rfl := Option.some.inj H
          go_enter Try.func133, Try.ntmps133
          go_wp2_with (first | ((with_reducible refine gate_callee (f := 103) rfl ?_); refine goesL_ (some 19) rfl rfl Try.func103 (by kernel_rfl) rfl #[.slice A0 l0.length c0] rfl Sqz.auM ?_; (with_reducible refine (spec_l4Product.calls k _ _ l0 t279 _ ?side1 ?side2 A7.out).mono ?_); (case side1 => exact Sqz.mvC (HR0.out)); (case side2 => exact HC0.out); rintro e w' ⟨rfl, ⟨nd, rfl⟩⟩; refine ⟨_, rfl, ?_⟩) | ((with_reducible refine gate_callee (f := 132) rfl ?_); refine goesL_ (some 34) rfl rfl Try.func132 (by kernel_rfl) rfl #[.slice A0 l0.length c0, .int .i64 a1] rfl Sqz.auM ?_; (with_reducible refine (spec_l4Invariant.calls k _ _ l0 a1 t281 _ ?side1 ?side2 A12.out).mono ?_); (case side1 => exact Sqz.mvC (HR0.out)); (case side2 => exact HC0.out); rintro e w' ⟨rfl, ⟨nd, rfl⟩⟩; refine ⟨_, rfl, ?_⟩) | ((with_reducible refine gate_callee (f := 150) rfl ?_); refine goesL_ (some 38) rfl rfl Try.func150 (by kernel_rfl) rfl #[.int .i64 (-1), .int .i64 (wrap64 (-t279)), .int .i64 a1] rfl Sqz.auM ?_; (with_reducible refine (spec_l3Symbol.calls k (-1) (wrap64 (-t279)) a1 t282 _ A13.out).mono ?_); rintro e w' ⟨rfl, ⟨nd, rfl⟩⟩; refine ⟨_, rfl, ?_⟩))
          go_ret
          exact ⟨Sqz.auS, by repeat (first | exact Drawn0.refl _ | apply Drawn0.step)⟩
        · rw [if_neg c11] at H
          have c11b0 : ((l0.length : Int) == 3) = false := beq_eq_false_iff_ne.mpr c11
          have c11b1 : ((l0.length : Int) != 3) = true := bne_iff_ne.mpr c11
          replace H := Option.bind_eq_some_iff.mp H
          obtain ⟨t283, A140, H⟩ := H
          replace H : (if t283 = true then ((spec_l4Invariant.f k l0 a1).bind fun t284 => ((spec_l3Symbol.f k (-1) (-1) a1).bind fun t285 => (some (t284 == t285)))) else (some true)) = some r := H
          have A14 := Aside0.mk A140
          clear A140
          by_cases c15 : t283 = true
          · subst c15
            have H1 : ((spec_l4Invariant.f k l0 a1).bind fun t284 => ((spec_l3Symbol.f k (-1) (-1) a1).bind fun t285 => (some (t284 == t285)))) = some r := by rw [if_pos rfl] at H; exact H
            clear H
            have H := H1
            clear H1
            replace H := Option.bind_eq_some_iff.mp H
            obtain ⟨t284, A160, H⟩ := H
            replace H : ((spec_l3Symbol.f k (-1) (-1) a1).bind fun t285 => (some (t284 == t285))) = some r := H
            have A16 := Aside0.mk A160
            clear A160
            replace H := Option.bind_eq_some_iff.mp H
            obtain ⟨t285, A170, H⟩ := H
            replace H : (some (t284 == t285)) = some r := H
            have A17 := Aside0.mk A170
            clear A170
            obtain rfl := Option.some.inj H
            go_enter Try.func133, Try.ntmps133
            go_wp2_with (first | ((with_reducible refine gate_callee (f := 103) rfl ?_); refine goesL_ (some 19) rfl rfl Try.func103 (by kernel_rfl) rfl #[.slice A0 l0.length c0] rfl Sqz.auM ?_; (with_reducible refine (spec_l4Product.calls k _ _ l0 t279 _ ?side1 ?side2 A7.out).mono ?_); (case side1 => exact Sqz.mvC (HR0.out)); (case side2 => exact HC0.out); rintro e w' ⟨rfl, ⟨nd, rfl⟩⟩; refine ⟨_, rfl, ?_⟩) | ((with_reducible refine gate_callee (f := 131) rfl ?_); refine goesL_ (some 42) rfl rfl Try.func131 (by kernel_rfl) rfl #[.int .i64 t279, .int .i64 a1] rfl Sqz.auM ?_; (with_reducible refine (spec_l2Square.calls k t279 a1 true _ A14.out).mono ?_); rintro e w' ⟨rfl, ⟨nd, rfl⟩⟩; refine ⟨_, rfl, ?_⟩) | (go_at_call 132; (with_reducible refine (spec_l4Invariant.calls k _ _ l0 a1 t284 _ ?side1 ?side2 A16.out).mono ?_); (case side1 => exact Sqz.mvC (HR0.out)); (case side2 => exact HC0.out); rintro e w' ⟨rfl, ⟨nd, rfl⟩⟩) | (go_at_call 150; (with_reducible refine (spec_l3Symbol.calls k (-1) (-1) a1 t285 _ A17.out).mono ?_); rintro e w' ⟨rfl, ⟨nd, rfl⟩⟩))
            go_ret
            exact ⟨Sqz.auS, by repeat (first | exact Drawn0.refl _ | apply Drawn0.step)⟩
          · replace c15 := Bool.eq_false_iff.mpr c15
            subst c15
            have H1 : (some true) = some r := by rw [if_neg (show ¬ (false = true) by decide)] at H; exact H
            clear H
            have H := H1
            clear H1
            obtain rfl := Option.some.inj H
            go_enter Try.func133, Try.ntmps133
            go_wp2_with (first | ((with_reducible refine gate_callee (f := 103) rfl ?_); refine goesL_ (some 19) rfl rfl Try.func103 (by kernel_rfl) rfl #[.slice A0 l0.length c0] rfl Sqz.auM ?_; (with_reducible refine (spec_l4Product.calls k _ _ l0 t279 _ ?side1 ?side2 A7.out).mono ?_); (case side1 => exact Sqz.mvC (HR0.out)); (case side2 => exact HC0.out); rintro e w' ⟨rfl, ⟨nd, rfl⟩⟩; refine ⟨_, rfl, ?_⟩) | ((with_reducible refine gate_callee (f := 131) rfl ?_); refine goesL_ (some 42) rfl rfl Try.func131 (by kernel_rfl) rfl #[.int .i64 t279, .int .i64 a1] rfl Sqz.auM ?_; (with_reducible refine (spec_l2Square.calls k t279 a1 false _ A14.out).mono ?_); rintro e w' ⟨rfl, ⟨nd, rfl⟩⟩; refine ⟨_, rfl, ?_⟩))
            go_ret
            exact ⟨Sqz.auS, by repeat (first | exact Drawn0.refl _ | apply Drawn0.step)⟩

/-! ### spec_l9At: function 88 -/
def spec_l9At.f (k : Nat) (l0 : List Int) (a1 : Int) (a2 : Int) : Option (Bool) := (some (([] : List Int) : List Int)).bind fun y286 => (if y286.length + l0.length < 17592186044416 then ((some (y286 ++ l0 : List Int)).bind fun y289 => (if y289.length < 17592186044416 then ((some (y289 ++ [wrap64 (-a1)] : List Int)).bind fun y292 => (if (l0.length : Int) < 4 then ((spec_l4Vanishes.f k y292 a2).bind fun t295 => (some t295)) else (if a2 > 0 then (some true) else ((spec_l4Less.f k y292).bind fun t296 => (if t296 > 0 then ((spec_l4Less.f k y292).bind fun t297 => (some (decide (t297 < 5)))) else (some false)))))) else (none))) else (none))
set_option maxHeartbeats 8000000 in
set_option maxRecDepth 100000 in
theorem spec_l9At.calls (k : Nat) (A0 : Option Addr) (c0 : Nat) (l0 : List Int) (a1 : Int) (a2 : Int) (r : Bool) (w : World) (hr0 : Kd.C (Kd.int .i64) w A0 l0.length l0) (hc0 : l0.length ≤ c0) (h : spec_l9At.f k l0 a1 a2 = some r) :
    Calls Try.prog 88 #[.slice A0 l0.length c0, .int .i64 a1, .int .i64 a2] w fun e w' => e = .returned (.bool r) ∧ Below w.heap.size w w' := by
  have HR0 := Aside0.mk hr0
  have HC0 := Aside0.mk hc0
  clear hr0 hc0
  have HB := Aside0.mk (Below.refl w.heap.size w)
  have H : ((some (([] : List Int) : List Int)).bind fun y286 => (if y286.length + l0.length < 17592186044416 then ((some (y286 ++ l0 : List Int)).bind fun y289 => (if y289.length < 17592186044416 then ((some (y289 ++ [wrap64 (-a1)] : List Int)).bind fun y292 => (if (l0.length : Int) < 4 then ((spec_l4Vanishes.f k y292 a2).bind fun t295 => (some t295)) else (if a2 > 0 then (some true) else ((spec_l4Less.f k y292).bind fun t296 => (if t296 > 0 then ((spec_l4Less.f k y292).bind fun t297 => (some (decide (t297 < 5)))) else (some false)))))) else (none))) else (none))) = some r := h
  clear h
  obtain ⟨y286, hy286⟩ : ∃ y_ : List Int, y_ = (([] : List Int)) := ⟨_, rfl⟩
  replace H : (if y286.length + l0.length < 17592186044416 then ((some (y286 ++ l0 : List Int)).bind fun y289 => (if y289.length < 17592186044416 then ((some (y289 ++ [wrap64 (-a1)] : List Int)).bind fun y292 => (if (l0.length : Int) < 4 then ((spec_l4Vanishes.f k y292 a2).bind fun t295 => (some t295)) else (if a2 > 0 then (some true) else ((spec_l4Less.f k y292).bind fun t296 => (if t296 > 0 then ((spec_l4Less.f k y292).bind fun t297 => (some (decide (t297 < 5)))) else (some false)))))) else (none))) else (none)) = some r := by first | (rw [hy286]; with_reducible exact H) | (have H2_ := (Option.bind_some _ _).symm.trans H; rw [hy286]; with_reducible exact H2_) | (have H2_ := (Option.bind_some _ _).symm.trans H; with_reducible exact H2_) | with_reducible exact H | (rw [hy286]; exact H) | exact H
  have Ny286 := Aside0.mk hy286
  clear hy286
  by_cases c4 : y286.length + l0.length < 17592186044416
  · rw [if_pos c4] at H
    have LMc4 := Aside0.mk c4
    clear c4
    obtain ⟨y289, hy289⟩ : ∃ y_ : List Int, y_ = (y286 ++ l0) := ⟨_, rfl⟩
    replace H : (if y289.length < 17592186044416 then ((some (y289 ++ [wrap64 (-a1)] : List Int)).bind fun y292 => (if (l0.length : Int) < 4 then ((spec_l4Vanishes.f k y292 a2).bind fun t295 => (some t295)) else (if a2 > 0 then (some true) else ((spec_l4Less.f k y292).bind fun t296 => (if t296 > 0 then ((spec_l4Less.f k y292).bind fun t297 => (some (decide (t297 < 5)))) else (some false)))))) else (none)) = some r := by first | (rw [hy289]; with_reducible exact H) | (have H2_ := (Option.bind_some _ _).symm.trans H; rw [hy289]; with_reducible exact H2_) | (have H2_ := (Option.bind_some _ _).symm.trans H; with_reducible exact H2_) | with_reducible exact H | (rw [hy289]; exact H) | exact H
    have Ny289 := Aside0.mk hy289
    clear hy289
    by_cases c5 : y289.length < 17592186044416
    · rw [if_pos c5] at H
      have LMc5 := Aside0.mk c5
      clear c5
      obtain ⟨y292, hy292⟩ : ∃ y_ : List Int, y_ = (y289 ++ [wrap64 (-a1)]) := ⟨_, rfl⟩
      replace H : (if (l0.length : Int) < 4 then ((spec_l4Vanishes.f k y292 a2).bind fun t295 => (some t295)) else (if a2 > 0 then (some true) else ((spec_l4Less.f k y292).bind fun t296 => (if t296 > 0 then ((spec_l4Less.f k y292).bind fun t297 => (some (decide (t297 < 5)))) else (some false))))) = some r := by first | (rw [hy292]; with_reducible exact H) | (have H2_ := (Option.bind_some _ _).symm.trans H; rw [hy292]; with_reducible exact H2_) | (have H2_ := (Option.bind_some _ _).symm.trans H; with_reducible exact H2_) | with_reducible exact H | (rw [hy292]; exact H) | exact H
      have Ny292 := Aside0.mk hy292
      clear hy292
      by_cases c6 : (l0.length : Int) < 4
      · rw [if_pos c6] at H
        have c6b0 : decide ((l0.length : Int) < 4) = true := decide_eq_true c6
        have c6b1 : decide (l0.length < 4) = true := decide_eq_true (by omega)
        clear c6
        replace H := Option.bind_eq_some_iff.mp H
        obtain ⟨t295, A70, H⟩ := H
        replace H : (some t295) = some r := H
        have A7 := Aside0.mk A70
        clear A70
        obtain rfl := Option.some.inj H
        go_enter Try.func88, Try.ntmps88
        go_wp2_with (first | ((with_reducible refine gate_dst (N := 8) rfl ?_); refine Kd.R_lit (Kd.int .i64) _ 3 ?hg (N := 8) ?hd (xs := ([] : List Int)) (inner := []) (ok := fun _ => True) (okp := fun _ => True) ?hr ?hp (fun _ hk => hk) trivial (Below.refl _ _) (Nat.le_refl _) (by simp) ?_; (case hd => rfl); (case hg => rfl); (case hr => first | (go_simp; done) | (go_simp; rfl)); (case hp => exact (Reps.none _ _)); intro v287 w8 ho9 hb hg_ hnew_; clear hg_ hnew_; (first | rw [← Ny286.out] at ho9 | (simp only [Int.reduceToNat] at ho9; rw [← Ny286.out] at ho9)); have n0_ := Aside0.mk (Kd.R_lower ho9 (below_size (Sqz.auHB))); have n1_ := Aside0.mk (below_step (Sqz.auHB) hb); clear HB; have HO288 := n0_; have HB := n1_; clear n0_ n1_; clear hb ho9) | ((with_reducible refine gate_builtin (b := .append) (xs := #[.tmp 8, .tmp 9]) rfl ?_); at_builtin; refine Kd.R_append_rows (Kd.int .i64) (w0 := w) w.heap.size rfl (.tmp 8) (.tmp 9) 25 3 (.int .i64 0) 8 rfl Try.underlying25 info3 rfl (by decide) (by omega) v287 y286 l0 _ _ _ (fun _ => True) (fun _ => False) rfl rfl ?aO ?aR (fun _ _ h => h) (fun _ h => h.elim) ?aF ?aB ?aS ?aL ?_; (case aR => exact Sqz.mvC ((Kd.C_below HR0.out HB.out))); (case aB => exact (Sqz.auHB)); (case aF => exact (fun _ _ => trivial)); (case aO => exact ((Sqz.mvR HO288.out))); (case aS => exact (below_size (Sqz.auHB))); (case aL => have := LMc4.out; omega); intro v290 w10 ho hb hg hat; rw [← Ny289.out] at ho; have n0_ := Aside0.mk (hb); have n1_ := Aside0.mk (ho); clear HB; clear HO288; have HB := n0_; have HO291 := n1_; clear n0_ n1_; clear ho hb hg hat) | ((with_reducible refine gate_builtin (b := .append) (xs := #[.tmp 10, .tmp 13]) rfl ?_); at_builtin; refine Kd.R_append (Kd.int .i64) (w0 := w) w.heap.size rfl (.tmp 10) (.tmp 13) 25 3 (.int .i64 0) 8 rfl Try.underlying25 info3 rfl (by decide) (by omega) v290 y289 (wrap64 (-a1)) [.int .i64 (wrap64 (-a1))] (fun _ => True) (fun _ => False) rfl rfl ?aP (fun _ hk => hk.elim) ?aF ?aO ?aB ?aS ?aL ?_; (case aP => exact rfl); (case aB => exact (Sqz.auHB)); (case aF => exact (fun _ _ => trivial)); (case aO => exact ((Sqz.mvR HO291.out))); (case aS => exact (below_size (Sqz.auHB))); (case aL => have := LMc5.out; omega); intro v293 w11 ho hb hg hat; rw [← Ny292.out] at ho; have n0_ := Aside0.mk (hb); have n1_ := Aside0.mk (ho); clear HB; clear HO291; have HB := n0_; have HO294 := n1_; clear n0_ n1_; clear ho hb hg hat; obtain ⟨Ao12, co12, eo12⟩ := Kd.R_slice HO294.out; subst eo12) | ((with_reducible refine gate_callee (f := 133) rfl ?_); refine goesL_ (some 20) rfl rfl Try.func133 (by kernel_rfl) rfl #[.slice Ao12 y292.length co12, .int .i64 a2] rfl Sqz.auM ?_; (with_reducible refine (spec_l4Vanishes.calls k _ _ y292 a2 t295 _ ?side1 ?side2 A7.out).mono ?_); (case side1 => exact Sqz.mvC ((Kd.R_reads' HO294.out).2.2)); (case side2 => exact (Kd.R_reads' HO294.out).2.1); rintro e w' ⟨rfl, ⟨nd, rfl⟩⟩; refine ⟨_, rfl, ?_⟩))
        go_ret
        exact ⟨Sqz.auR, Sqz.auHB⟩
      · rw [if_neg c6] at H
        have c6b0 : decide ((l0.length : Int) < 4) = false := decide_eq_false c6
        have c6b1 : decide (l0.length < 4) = false := decide_eq_false (by omega)
        clear c6
        by_cases c13 : a2 > 0
        · rw [if_pos c13] at H
          have c13b0 : decide (0 < a2) = true := decide_eq_true c13
          clear c13
          obtain rfl := Option.some.inj H
          go_enter Try.func88, Try.ntmps88
          go_wp2_with (first | ((with_reducible refine gate_dst (N := 8) rfl ?_); refine Kd.R_lit (Kd.int .i64) _ 3 ?hg (N := 8) ?hd (xs := ([] : List Int)) (inner := []) (ok := fun _ => True) (okp := fun _ => True) ?hr ?hp (fun _ hk => hk) trivial (Below.refl _ _) (Nat.le_refl _) (by simp) ?_; (case hd => rfl); (case hg => rfl); (case hr => first | (go_simp; done) | (go_simp; rfl)); (case hp => exact (Reps.none _ _)); intro v287 w14 ho15 hb hg_ hnew_; clear hg_ hnew_; (first | rw [← Ny286.out] at ho15 | (simp only [Int.reduceToNat] at ho15; rw [← Ny286.out] at ho15)); have n0_ := Aside0.mk (Kd.R_lower ho15 (below_size (Sqz.auHB))); have n1_ := Aside0.mk (below_step (Sqz.auHB) hb); clear HB; have HO288 := n0_; have HB := n1_; clear n0_ n1_; clear hb ho15) | ((with_reducible refine gate_builtin (b := .append) (xs := #[.tmp 8, .tmp 9]) rfl ?_); at_builtin; refine Kd.R_append_rows (Kd.int .i64) (w0 := w) w.heap.size rfl (.tmp 8) (.tmp 9) 25 3 (.int .i64 0) 8 rfl Try.underlying25 info3 rfl (by decide) (by omega) v287 y286 l0 _ _ _ (fun _ => True) (fun _ => False) rfl rfl ?aO ?aR (fun _ _ h => h) (fun _ h => h.elim) ?aF ?aB ?aS ?aL ?_; (case aR => exact Sqz.mvC ((Kd.C_below HR0.out HB.out))); (case aB => exact (Sqz.auHB)); (case aF => exact (fun _ _ => trivial)); (case aO => exact ((Sqz.mvR HO288.out))); (case aS => exact (below_size (Sqz.auHB))); (case aL => have := LMc4.out; omega); intro v290 w16 ho hb hg hat; rw [← Ny289.out] at ho; have n0_ := Aside0.mk (hb); have n1_ := Aside0.mk (ho); clear HB; clear HO288; have HB := n0_; have HO291 := n1_; clear n0_ n1_; clear ho hb hg hat) | ((with_reducible refine gate_builtin (b := .append) (xs := #[.tmp 10, .tmp 13]) rfl ?_); at_builtin; refine Kd.R_append (Kd.int .i64) (w0 := w) w.heap.size rfl (.tmp 10) (.tmp 13) 25 3 (.int .i64 0) 8 rfl Try.underlying25 info3 rfl (by decide) (by omega) v290 y289 (wrap64 (-a1)) [.int .i64 (wrap64 (-a1))] (fun _ => True) (fun _ => False) rfl rfl ?aP (fun _ hk => hk.elim) ?aF ?aO ?aB ?aS ?aL ?_; (case aP => exact rfl); (case aB => exact (Sqz.auHB)); (case aF => exact (fun _ _ => trivial)); (case aO => exact ((Sqz.mvR HO291.out))); (case aS => exact (below_size (Sqz.auHB))); (case aL => have := LMc5.out; omega); intro v293 w17 ho hb hg hat; rw [← Ny292.out] at ho; have n0_ := Aside0.mk (hb); have n1_ := Aside0.mk (ho); clear HB; clear HO291; have HB := n0_; have HO294 := n1_; clear n0_ n1_; clear ho hb hg hat))
          go_ret
          exact ⟨Sqz.auR, Sqz.auHB⟩
        · rw [if_neg c13] at H
          have c13b0 : decide (0 < a2) = false := decide_eq_false c13
          clear c13
          replace H := Option.bind_eq_some_iff.mp H
          obtain ⟨t296, A180, H⟩ := H
          replace H : (if t296 > 0 then ((spec_l4Less.f k y292).bind fun t297 => (some (decide (t297 < 5)))) else (some false)) = some r := H
          have A18 := Aside0.mk A180
          clear A180
          by_cases c19 : t296 > 0
          · rw [if_pos c19] at H
            have c19b0 : decide (0 < t296) = true := decide_eq_true c19
            clear c19
            replace H := Option.bind_eq_some_iff.mp H
            obtain ⟨t297, A200, H⟩ := H
            replace H : (some (decide (t297 < 5))) = some r := H
            have A20 := Aside0.mk A200
            obtain rfl : t296 = t297 := Option.some.inj (A18.out.symm.trans A20.out)
            clear A200
            obtain rfl := Option.some.inj H
            go_enter Try.func88, Try.ntmps88
            go_wp2_with (first | ((with_reducible refine gate_dst (N := 8) rfl ?_); refine Kd.R_lit (Kd.int .i64) _ 3 ?hg (N := 8) ?hd (xs := ([] : List Int)) (inner := []) (ok := fun _ => True) (okp := fun _ => True) ?hr ?hp (fun _ hk => hk) trivial (Below.refl _ _) (Nat.le_refl _) (by simp) ?_; (case hd => rfl); (case hg => rfl); (case hr => first | (go_simp; done) | (go_simp; rfl)); (case hp => exact (Reps.none _ _)); intro v287 w21 ho22 hb hg_ hnew_; clear hg_ hnew_; (first | rw [← Ny286.out] at ho22 | (simp only [Int.reduceToNat] at ho22; rw [← Ny286.out] at ho22)); have n0_ := Aside0.mk (Kd.R_lower ho22 (below_size (Sqz.auHB))); have n1_ := Aside0.mk (below_step (Sqz.auHB) hb); clear HB; have HO288 := n0_; have HB := n1_; clear n0_ n1_; clear hb ho22) | ((with_reducible refine gate_builtin (b := .append) (xs := #[.tmp 8, .tmp 9]) rfl ?_); at_builtin; refine Kd.R_append_rows (Kd.int .i64) (w0 := w) w.heap.size rfl (.tmp 8) (.tmp 9) 25 3 (.int .i64 0) 8 rfl Try.underlying25 info3 rfl (by decide) (by omega) v287 y286 l0 _ _ _ (fun _ => True) (fun _ => False) rfl rfl ?aO ?aR (fun _ _ h => h) (fun _ h => h.elim) ?aF ?aB ?aS ?aL ?_; (case aR => exact Sqz.mvC ((Kd.C_below HR0.out HB.out))); (case aB => exact (Sqz.auHB)); (case aF => exact (fun _ _ => trivial)); (case aO => exact ((Sqz.mvR HO288.out))); (case aS => exact (below_size (Sqz.auHB))); (case aL => have := LMc4.out; omega); intro v290 w23 ho hb hg hat; rw [← Ny289.out] at ho; have n0_ := Aside0.mk (hb); have n1_ := Aside0.mk (ho); clear HB; clear HO288; have HB := n0_; have HO291 := n1_; clear n0_ n1_; clear ho hb hg hat) | ((with_reducible refine gate_builtin (b := .append) (xs := #[.tmp 10, .tmp 13]) rfl ?_); at_builtin; refine Kd.R_append (Kd.int .i64) (w0 := w) w.heap.size rfl (.tmp 10) (.tmp 13) 25 3 (.int .i64 0) 8 rfl Try.underlying25 info3 rfl (by decide) (by omega) v290 y289 (wrap64 (-a1)) [.int .i64 (wrap64 (-a1))] (fun _ => True) (fun _ => False) rfl rfl ?aP (fun _ hk => hk.elim) ?aF ?aO ?aB ?aS ?aL ?_; (case aP => exact rfl); (case aB => exact (Sqz.auHB)); (case aF => exact (fun _ _ => trivial)); (case aO => exact ((Sqz.mvR HO291.out))); (case aS => exact (below_size (Sqz.auHB))); (case aL => have := LMc5.out; omega); intro v293 w24 ho hb hg hat; rw [← Ny292.out] at ho; have n0_ := Aside0.mk (hb); have n1_ := Aside0.mk (ho); clear HB; clear HO291; have HB := n0_; have HO294 := n1_; clear n0_ n1_; clear ho hb hg hat; obtain ⟨Ao25, co25, eo25⟩ := Kd.R_slice HO294.out; subst eo25) | (go_at_call 130; (with_reducible refine (spec_l4Less.calls k _ _ y292 t296 _ ?side1 ?side2 A18.out).mono ?_); (case side1 => exact Sqz.mvC ((Kd.R_reads' HO294.out).2.2)); (case side2 => exact (Kd.R_reads' HO294.out).2.1); rintro e w' ⟨rfl, ⟨nd, rfl⟩⟩) | (go_at_call 130; (with_reducible refine (spec_l4Less.calls k _ _ y292 t297 _ ?side1 ?side2 A20.out).mono ?_); (case side1 => exact Sqz.mvC ((Kd.R_reads' HO294.out).2.2)); (case side2 => exact (Kd.R_reads' HO294.out).2.1); rintro e w' ⟨rfl, ⟨nd, rfl⟩⟩))
            go_ret
            exact ⟨Sqz.auR, Sqz.auHB⟩
          · rw [if_neg c19] at H
            have c19b0 : decide (0 < t296) = false := decide_eq_false c19
            clear c19
            obtain rfl := Option.some.inj H
            go_enter Try.func88, Try.ntmps88
            go_wp2_with (first | ((with_reducible refine gate_dst (N := 8) rfl ?_); refine Kd.R_lit (Kd.int .i64) _ 3 ?hg (N := 8) ?hd (xs := ([] : List Int)) (inner := []) (ok := fun _ => True) (okp := fun _ => True) ?hr ?hp (fun _ hk => hk) trivial (Below.refl _ _) (Nat.le_refl _) (by simp) ?_; (case hd => rfl); (case hg => rfl); (case hr => first | (go_simp; done) | (go_simp; rfl)); (case hp => exact (Reps.none _ _)); intro v287 w26 ho27 hb hg_ hnew_; clear hg_ hnew_; (first | rw [← Ny286.out] at ho27 | (simp only [Int.reduceToNat] at ho27; rw [← Ny286.out] at ho27)); have n0_ := Aside0.mk (Kd.R_lower ho27 (below_size (Sqz.auHB))); have n1_ := Aside0.mk (below_step (Sqz.auHB) hb); clear HB; have HO288 := n0_; have HB := n1_; clear n0_ n1_; clear hb ho27) | ((with_reducible refine gate_builtin (b := .append) (xs := #[.tmp 8, .tmp 9]) rfl ?_); at_builtin; refine Kd.R_append_rows (Kd.int .i64) (w0 := w) w.heap.size rfl (.tmp 8) (.tmp 9) 25 3 (.int .i64 0) 8 rfl Try.underlying25 info3 rfl (by decide) (by omega) v287 y286 l0 _ _ _ (fun _ => True) (fun _ => False) rfl rfl ?aO ?aR (fun _ _ h => h) (fun _ h => h.elim) ?aF ?aB ?aS ?aL ?_; (case aR => exact Sqz.mvC ((Kd.C_below HR0.out HB.out))); (case aB => exact (Sqz.auHB)); (case aF => exact (fun _ _ => trivial)); (case aO => exact ((Sqz.mvR HO288.out))); (case aS => exact (below_size (Sqz.auHB))); (case aL => have := LMc4.out; omega); intro v290 w28 ho hb hg hat; rw [← Ny289.out] at ho; have n0_ := Aside0.mk (hb); have n1_ := Aside0.mk (ho); clear HB; clear HO288; have HB := n0_; have HO291 := n1_; clear n0_ n1_; clear ho hb hg hat) | ((with_reducible refine gate_builtin (b := .append) (xs := #[.tmp 10, .tmp 13]) rfl ?_); at_builtin; refine Kd.R_append (Kd.int .i64) (w0 := w) w.heap.size rfl (.tmp 10) (.tmp 13) 25 3 (.int .i64 0) 8 rfl Try.underlying25 info3 rfl (by decide) (by omega) v290 y289 (wrap64 (-a1)) [.int .i64 (wrap64 (-a1))] (fun _ => True) (fun _ => False) rfl rfl ?aP (fun _ hk => hk.elim) ?aF ?aO ?aB ?aS ?aL ?_; (case aP => exact rfl); (case aB => exact (Sqz.auHB)); (case aF => exact (fun _ _ => trivial)); (case aO => exact ((Sqz.mvR HO291.out))); (case aS => exact (below_size (Sqz.auHB))); (case aL => have := LMc5.out; omega); intro v293 w29 ho hb hg hat; rw [← Ny292.out] at ho; have n0_ := Aside0.mk (hb); have n1_ := Aside0.mk (ho); clear HB; clear HO291; have HB := n0_; have HO294 := n1_; clear n0_ n1_; clear ho hb hg hat; obtain ⟨Ao30, co30, eo30⟩ := Kd.R_slice HO294.out; subst eo30) | (go_at_call 130; (with_reducible refine (spec_l4Less.calls k _ _ y292 t296 _ ?side1 ?side2 A18.out).mono ?_); (case side1 => exact Sqz.mvC ((Kd.R_reads' HO294.out).2.2)); (case side2 => exact (Kd.R_reads' HO294.out).2.1); rintro e w' ⟨rfl, ⟨nd, rfl⟩⟩))
            go_ret
            exact ⟨Sqz.auR, Sqz.auHB⟩
    · rw [if_neg c5] at H
      exact absurd H (by simp)
  · rw [if_neg c4] at H
    exact absurd H (by simp)

/-! ### spec_l1Size: function 144 -/
def spec_l1Size.f (a0 : Int) : Option (Int) := some (mx a0 (wrap64 (-a0)))
set_option maxHeartbeats 8000000 in
set_option maxRecDepth 100000 in
theorem spec_l1Size.calls (a0 : Int) (r : Int) (w : World) (h : spec_l1Size.f a0 = some r) :
    Calls Try.prog 144 #[.int .i64 a0] w fun e w' => e = .returned (.int .i64 r) ∧ Below w.heap.size w w' := by
  have HB := Aside0.mk (Below.refl w.heap.size w)
  have H : (some (mx a0 (wrap64 (-a0)))) = some r := h
  clear h
  obtain ⟨ji2, hji2⟩ : ∃ j_ : Int, (mx a0 (wrap64 (-a0))) = j_ := ⟨_, rfl⟩
  replace H : (some ji2) = some r := by first | (rw [hji2] at H; exact H) | (simp only [hji2] at H ⊢; exact H)
  have hji2_ : (if a0 < (wrap64 (-a0)) then (wrap64 (-a0)) else a0) = ji2 := hji2
  obtain rfl := Option.some.inj H
  go_enter Try.func144, Try.ntmps144
  go_wp2
  go_ret
  exact ⟨by first | rfl | (simp [errW_none, errW_some] <;> rfl) | (simp only [← hji2]; first | rfl | (simp [errW_none, errW_some] <;> rfl)) | (simp [*, errW_none, errW_some] <;> rfl), Sqz.auHB⟩

/-! ### spec_l1Primes: function 142 -/
mutual
def spec_l1Primes.l0 : Nat → Int → List Int → Int → Option (List Int)
  | 0, _, _, _ => none
  | k + 1, x0, x3, x4 => if (wrap64 (x4 * x4)) ≤ x0 then (if x4 = 0 then (none) else (if (Int.tmod x0 x4) = 0 then (if x3.length < 17592186044416 then (spec_l1Primes.j1 k x0 (x3 ++ [x4]) x4) else (none)) else (spec_l1Primes.j1 k x0 x3 x4))) else (if x0 > 1 then (if x3.length < 17592186044416 then (some (x3 ++ [x0])) else (none)) else (some x3))
def spec_l1Primes.j1 : Nat → Int → List Int → Int → Option (List Int)
  | 0, _, _, _ => none
  | k + 1, x0, x3, x4 => spec_l1Primes.l1 k x0 x3 x4
def spec_l1Primes.l1 : Nat → Int → List Int → Int → Option (List Int)
  | 0, _, _, _ => none
  | k + 1, x0, x3, x4 => if x4 = 0 then (none) else (if (Int.tmod x0 x4) = 0 then (spec_l1Primes.l1 k (wrap64 (Int.tdiv x0 x4)) x3 x4) else (spec_l1Primes.l0 k x0 x3 (wrap64 (x4 + 1))))
end
def spec_l1Primes.f (k : Nat) (a0 : Int) : Option (List Int) := (spec_l1Size.f a0).bind fun t301 => (spec_l1Primes.l0 k t301 (([] : List Int)) 2)
set_option maxHeartbeats 8000000 in
set_option maxRecDepth 100000 in
theorem spec_l1Primes.calls (k : Nat) (a0 : Int) (r : List Int) (w : World) (h : spec_l1Primes.f k a0 = some r) :
    Calls Try.prog 142 #[.int .i64 a0] w fun e w' => ∃ v0_ : Value, e = .returned (v0_) ∧ Kd.R (Kd.int .i64) 3 w' w.heap.size (fun _ => True) v0_ r ∧ Below w.heap.size w w' := by
  have HB := Aside0.mk (Below.refl w.heap.size w)
  have H : ((spec_l1Size.f a0).bind fun t301 => (spec_l1Primes.l0 k t301 (([] : List Int)) 2)) = some r := h
  clear h
  obtain ⟨y298, hy298⟩ : ∃ y_ : List Int, y_ = (([] : List Int)) := ⟨_, rfl⟩
  replace H : ((spec_l1Size.f a0).bind fun t301 => (spec_l1Primes.l0 k t301 y298 2)) = some r := by first | (rw [hy298]; with_reducible exact H) | (have H2_ := (Option.bind_some _ _).symm.trans H; rw [hy298]; with_reducible exact H2_) | (have H2_ := (Option.bind_some _ _).symm.trans H; with_reducible exact H2_) | with_reducible exact H | (rw [hy298]; exact H) | exact H
  have Ny298 := Aside0.mk hy298
  clear hy298
  replace H := Option.bind_eq_some_iff.mp H
  obtain ⟨t301, A20, H⟩ := H
  replace H : (spec_l1Primes.l0 k t301 y298 2) = some r := H
  have A2 := Aside0.mk A20
  clear A20
  have H' := Aside0.mk H
  clear H
  go_enter Try.func142, Try.ntmps142
  go_wp2_with (first | ((with_reducible refine gate_dst (N := 5) rfl ?_); refine Kd.R_lit (Kd.int .i64) _ 3 ?hg (N := 5) ?hd (xs := ([] : List Int)) (inner := []) (ok := fun _ => True) (okp := fun _ => True) ?hr ?hp (fun _ hk => hk) trivial (Below.refl _ _) (Nat.le_refl _) (by simp) ?_; (case hd => rfl); (case hg => rfl); (case hr => first | (go_simp; done) | (go_simp; rfl)); (case hp => exact (Reps.none _ _)); intro v299 w3 ho4 hb hg_ hnew_; clear hg_ hnew_; (first | rw [← Ny298.out] at ho4 | (simp only [Int.reduceToNat] at ho4; rw [← Ny298.out] at ho4)); have n0_ := Aside0.mk (Kd.R_lower ho4 (below_size (Sqz.auHB))); have n1_ := Aside0.mk (below_step (Sqz.auHB) hb); clear HB; have HO300 := n0_; have HB := n1_; clear n0_ n1_; clear hb ho4) | ((with_reducible refine gate_callee (f := 144) rfl ?_); refine goesL_ (some 7) rfl rfl Try.func144 (by kernel_rfl) rfl #[.int .i64 a0] rfl Sqz.auM ?_; (with_reducible refine (spec_l1Size.calls a0 t301 _ A2.out).mono ?_); rintro e w5 ⟨rfl, hb⟩; refine ⟨_, rfl, ?_⟩; have n0_ := Aside0.mk (Kd.R_below ((Sqz.mvR HO300.out)) hb); have n1_ := Aside0.mk (below_step (Sqz.auHB) hb); clear HO300; clear HB; have HO300 := n0_; have HB := n1_; clear n0_ n1_; (try clear hb); (try clear hb2); (try clear hk); (try clear hi)))
  go_loopg [0, 3, 4] k (fun kq v0 v3 v4 w' => ∃ (x0_1 : Int) (x3_1 : List Int) (x4_1 : Int), v0 = .int .i64 x0_1 ∧ v4 = .int .i64 x4_1 ∧ Aside0 (spec_l1Primes.l0 kq x0_1 x3_1 x4_1 = some r) ∧ Aside0 (kq ≤ k) ∧ Aside0 (Kd.R (Kd.int .i64) 3 w' w.heap.size (fun _ => True) v3 x3_1) ∧ Aside0 (Below w.heap.size w w'))
  case atStart => exact ⟨(t301), (y298), (2), Sqz.auS, Sqz.auS, H', ⟨Nat.le_refl _⟩, ⟨(Sqz.mvR HO300.out)⟩, ⟨Sqz.auHB⟩⟩
  case round =>
    clear H'
    try clear c1
    try clear p2
    obtain ⟨x0_1, x3_1, x4_1, rfl, rfl, HA, HK1, HO_3, HB⟩ := hrel
    cases gk with
    | zero => exact absurd HA.out (by simp [spec_l1Primes.l0])
    | succ k1 =>
      have H := HA.out
      clear HA
      simp only [spec_l1Primes.l0] at H
      by_cases c6 : (wrap64 (x4_1 * x4_1)) ≤ x0_1
      · rw [if_pos c6] at H
        have c6b0 : decide ((wrap64 (x4_1 * x4_1)) ≤ x0_1) = true := decide_eq_true c6
        clear c6
        by_cases c7 : x4_1 = 0
        · rw [if_pos c7] at H
          exact absurd H (by simp)
        · rw [if_neg c7] at H
          have c7b0 : (x4_1 == 0) = false := beq_eq_false_iff_ne.mpr c7
          have c7b1 : (x4_1 != 0) = true := bne_iff_ne.mpr c7
          have HC8 := Aside0.mk H
          clear H
          go_upto_if 18 with (fail)
          go_cut [3] (fun v3 wc => ∃ (kq : Nat) (x3_7 : List Int), Aside0 (spec_l1Primes.j1 kq x0_1 x3_7 x4_1 = some r) ∧ Aside0 (kq ≤ k1) ∧ Aside0 (Kd.R (Kd.int .i64) 3 wc w.heap.size (fun _ => True) v3 x3_7) ∧ Aside0 (Below w.heap.size w wc))
          case first =>
            have H := HC8.out
            clear HC8
            by_cases c9 : (Int.tmod x0_1 x4_1) = 0
            · rw [if_pos c9] at H
              have c9b0 : ((Int.tmod x0_1 x4_1) == 0) = true := beq_iff_eq.mpr c9
              have c9b1 : ((Int.tmod x0_1 x4_1) != 0) = false := bne_eq_false_iff_eq.mpr c9
              clear c9
              (first | rw [c9b0] | (simp only [i64_w, i32_w]; rw [c9b0]) | skip)
              by_cases c10 : x3_1.length < 17592186044416
              · rw [if_pos c10] at H
                have LMc10 := Aside0.mk c10
                clear c10
                obtain ⟨y305, hy305⟩ : ∃ y_ : List Int, y_ = (x3_1 ++ [x4_1]) := ⟨_, rfl⟩
                replace H : (spec_l1Primes.j1 k1 x0_1 y305 x4_1) = some r := by first | (rw [hy305]; with_reducible exact H) | (have H2_ := (Option.bind_some _ _).symm.trans H; rw [hy305]; with_reducible exact H2_) | (have H2_ := (Option.bind_some _ _).symm.trans H; with_reducible exact H2_) | with_reducible exact H | (rw [hy305]; exact H) | exact H
                have Ny305 := Aside0.mk hy305
                clear hy305
                have H' := Aside0.mk H
                clear H
                go_wp2_with (first | ((with_reducible refine gate_builtin (b := .append) (xs := #[.tmp 19, .tmp 21]) rfl ?_); at_builtin; refine Kd.R_append (Kd.int .i64) (w0 := w) w.heap.size rfl (.tmp 19) (.tmp 21) 25 3 (.int .i64 0) 8 rfl Try.underlying25 info3 rfl (by decide) (by omega) u3 x3_1 x4_1 [.int .i64 x4_1] (fun _ => True) (fun _ => False) rfl rfl ?aP (fun _ hk => hk.elim) ?aF ?aO ?aB ?aS ?aL ?_; (case aP => exact rfl); (case aB => exact (Sqz.auHB)); (case aF => exact (fun _ _ => trivial)); (case aO => exact ((Sqz.mvR HO_3.out))); (case aS => exact (below_size (Sqz.auHB))); (case aL => have := LMc10.out; omega); intro v306 w11 ho hb hg hat; rw [← Ny305.out] at ho; have n0_ := Aside0.mk (hb); have n1_ := Aside0.mk (ho); clear HB; clear HO_3; have HB := n0_; have HO307 := n1_; clear n0_ n1_; clear ho hb hg hat))
                go_meet
                case rel => exact ⟨_, (y305), H', ⟨by have := HK1.out; first | omega | exact Nat.le_refl _⟩, ⟨(Sqz.mvR HO307.out)⟩, ⟨Sqz.auHB⟩⟩
              · rw [if_neg c10] at H
                exact absurd H (by simp)
            · rw [if_neg c9] at H
              have c9b0 : ((Int.tmod x0_1 x4_1) == 0) = false := beq_eq_false_iff_ne.mpr c9
              have c9b1 : ((Int.tmod x0_1 x4_1) != 0) = true := bne_iff_ne.mpr c9
              (first | rw [c9b0] | (simp only [i64_w, i32_w]; rw [c9b0]) | skip)
              have H' := Aside0.mk H
              clear H
              go_wp2
              go_meet
              case rel => exact ⟨_, (x3_1), H', ⟨by have := HK1.out; first | omega | exact Nat.le_refl _⟩, ⟨(Sqz.mvR HO_3.out)⟩, ⟨Sqz.auHB⟩⟩
          case rest =>
            clear HC8
            try clear c1
            try clear p2
            try clear c6
            try clear c6b0
            try clear p6
            try clear c7
            try clear c7b0
            try clear c7b1
            try clear c9
            try clear c9b0
            try clear c9b1
            try clear c10
            try clear p2
            obtain ⟨kq, x3_7, HA, HJ7, HO_3, HB⟩ := hcut
            cases kq with
            | zero => exact absurd HA.out (by simp [spec_l1Primes.j1])
            | succ kj7 =>
              have H := HA.out
              clear HA
              simp only [spec_l1Primes.j1] at H
              have H' := Aside0.mk H
              clear H
              go_wp2
              go_loopg [0] kj7 (fun kq v0 w' => ∃ (x0_3 : Int), v0 = .int .i64 x0_3 ∧ Aside0 (spec_l1Primes.l1 kq x0_3 x3_7 x4_1 = some r) ∧ Aside0 (kq ≤ kj7) ∧ Aside0 (Kd.R (Kd.int .i64) 3 w' w.heap.size (fun _ => True) u3 x3_7) ∧ Aside0 (Below w.heap.size w w'))
              case atStart => exact ⟨(x0_1), Sqz.auS, H', ⟨Nat.le_refl _⟩, ⟨(Sqz.mvR HO_3.out)⟩, ⟨Sqz.auHB⟩⟩
              case round =>
                clear H'
                try clear c1
                try clear p2
                try clear c6
                try clear c6b0
                try clear p6
                try clear c7
                try clear c7b0
                try clear c7b1
                try clear c9
                try clear c9b0
                try clear c9b1
                try clear c10
                try clear p2
                try clear p6
                obtain ⟨x0_3, rfl, HA, HK3, HO_3, HB⟩ := hrel
                cases gk with
                | zero => exact absurd HA.out (by simp [spec_l1Primes.l1])
                | succ k3 =>
                  have H := HA.out
                  clear HA
                  simp only [spec_l1Primes.l1] at H
                  by_cases c12 : x4_1 = 0
                  · rw [if_pos c12] at H
                    exact absurd H (by simp)
                  · rw [if_neg c12] at H
                    have c12b0 : (x4_1 == 0) = false := beq_eq_false_iff_ne.mpr c12
                    have c12b1 : (x4_1 != 0) = true := bne_iff_ne.mpr c12
                    by_cases c13 : (Int.tmod x0_3 x4_1) = 0
                    · rw [if_pos c13] at H
                      have c13b0 : ((Int.tmod x0_3 x4_1) == 0) = true := beq_iff_eq.mpr c13
                      have c13b1 : ((Int.tmod x0_3 x4_1) != 0) = false := bne_eq_false_iff_eq.mpr c13
                      clear c13
                      have H' := Aside0.mk H
                      clear H
                      go_wp2
                      go_roundg k3
                      case measure => have := HK1.out; have := HJ7.out; have := HK3.out; omega
                      case rel => exact ⟨(wrap64 (Int.tdiv x0_3 x4_1)), Sqz.auS, H', ⟨by have := HK1.out; have := HJ7.out; have := HK3.out; omega⟩, ⟨(Sqz.mvR HO_3.out)⟩, ⟨Sqz.auHB⟩⟩
                    · rw [if_neg c13] at H
                      have c13b0 : ((Int.tmod x0_3 x4_1) == 0) = false := beq_eq_false_iff_ne.mpr c13
                      have c13b1 : ((Int.tmod x0_3 x4_1) != 0) = true := bne_iff_ne.mpr c13
                      have H' := Aside0.mk H
                      clear H
                      go_wp2
                      go_roundg k3
                      case measure => have := HK1.out; have := HJ7.out; have := HK3.out; omega
                      case rel => exact ⟨(x0_3), (x3_7), (wrap64 (x4_1 + 1)), Sqz.auS, Sqz.auS, H', ⟨by have := HK1.out; have := HJ7.out; have := HK3.out; omega⟩, ⟨(Sqz.mvR HO_3.out)⟩, ⟨Sqz.auHB⟩⟩
      · rw [if_neg c6] at H
        have c6b0 : decide ((wrap64 (x4_1 * x4_1)) ≤ x0_1) = false := decide_eq_false c6
        clear c6
        by_cases c14 : x0_1 > 1
        · rw [if_pos c14] at H
          have c14b0 : decide (1 < x0_1) = true := decide_eq_true c14
          clear c14
          by_cases c15 : x3_1.length < 17592186044416
          · rw [if_pos c15] at H
            have LMc15 := Aside0.mk c15
            clear c15
            obtain ⟨y302, hy302⟩ : ∃ y_ : List Int, y_ = (x3_1 ++ [x0_1]) := ⟨_, rfl⟩
            replace H : (some y302) = some r := by first | (rw [hy302]; with_reducible exact H) | (have H2_ := (Option.bind_some _ _).symm.trans H; rw [hy302]; with_reducible exact H2_) | (have H2_ := (Option.bind_some _ _).symm.trans H; with_reducible exact H2_) | with_reducible exact H | (rw [hy302]; exact H) | exact H
            have Ny302 := Aside0.mk hy302
            clear hy302
            obtain rfl := Option.some.inj H
            go_wp2_with (first | ((with_reducible refine gate_builtin (b := .append) (xs := #[.tmp 32, .tmp 34]) rfl ?_); at_builtin; refine Kd.R_append (Kd.int .i64) (w0 := w) w.heap.size rfl (.tmp 32) (.tmp 34) 25 3 (.int .i64 0) 8 rfl Try.underlying25 info3 rfl (by decide) (by omega) u3 x3_1 x0_1 [.int .i64 x0_1] (fun _ => True) (fun _ => False) rfl rfl ?aP (fun _ hk => hk.elim) ?aF ?aO ?aB ?aS ?aL ?_; (case aP => exact rfl); (case aB => exact (Sqz.auHB)); (case aF => exact (fun _ _ => trivial)); (case aO => exact ((Sqz.mvR HO_3.out))); (case aS => exact (below_size (Sqz.auHB))); (case aL => have := LMc15.out; omega); intro v303 w16 ho hb hg hat; rw [← Ny302.out] at ho; have n0_ := Aside0.mk (hb); have n1_ := Aside0.mk (ho); clear HB; clear HO_3; have HB := n0_; have HO304 := n1_; clear n0_ n1_; clear ho hb hg hat))
            go_ret
            exact ⟨_, Sqz.auR, (Sqz.mvR HO304.out), Sqz.auHB⟩
          · rw [if_neg c15] at H
            exact absurd H (by simp)
        · rw [if_neg c14] at H
          have c14b0 : decide (1 < x0_1) = false := decide_eq_false c14
          clear c14
          obtain rfl := Option.some.inj H
          go_wp2
          go_ret
          exact ⟨_, Sqz.auR, (Sqz.mvR HO_3.out), Sqz.auHB⟩

/-! ### spec_l2Places: function 102 -/
def spec_l2Places.l0 : Nat → List Int → List Int → Int → Option (List Int)
  | 0, _, _, _ => none
  | k + 1, x3, x4, x5 => if x5 < (x4.length : Int) then (if 0 ≤ x5 then (if (rd x4 x5) > 2 then (if x3.length < 17592186044416 then (spec_l2Places.l0 k (x3 ++ [rd x4 x5]) x4 (wrap64 (x5 + 1))) else (none)) else (spec_l2Places.l0 k x3 x4 (wrap64 (x5 + 1)))) else (none)) else (some x3)
def spec_l2Places.f (k : Nat) (a0 : Int) : Option (List Int) := (spec_l1Primes.f k a0).bind fun t311 => (spec_l2Places.l0 k (([0, 2] : List Int)) t311 0)
set_option maxHeartbeats 8000000 in
set_option maxRecDepth 100000 in
theorem spec_l2Places.calls (k : Nat) (a0 : Int) (r : List Int) (w : World) (h : spec_l2Places.f k a0 = some r) :
    Calls Try.prog 102 #[.int .i64 a0] w fun e w' => ∃ v0_ : Value, e = .returned (v0_) ∧ Kd.R (Kd.int .i64) 3 w' w.heap.size (fun _ => True) v0_ r ∧ Below w.heap.size w w' := by
  have HB := Aside0.mk (Below.refl w.heap.size w)
  have H : ((spec_l1Primes.f k a0).bind fun t311 => (spec_l2Places.l0 k (([0, 2] : List Int)) t311 0)) = some r := h
  clear h
  obtain ⟨y308, hy308⟩ : ∃ y_ : List Int, y_ = (([0, 2] : List Int)) := ⟨_, rfl⟩
  replace H : ((spec_l1Primes.f k a0).bind fun t311 => (spec_l2Places.l0 k y308 t311 0)) = some r := by first | (rw [hy308]; with_reducible exact H) | (have H2_ := (Option.bind_some _ _).symm.trans H; rw [hy308]; with_reducible exact H2_) | (have H2_ := (Option.bind_some _ _).symm.trans H; with_reducible exact H2_) | with_reducible exact H | (rw [hy308]; exact H) | exact H
  have Ny308 := Aside0.mk hy308
  clear hy308
  replace H := Option.bind_eq_some_iff.mp H
  obtain ⟨t311, A20, H⟩ := H
  replace H : (spec_l2Places.l0 k y308 t311 0) = some r := H
  have A2 := Aside0.mk A20
  clear A20
  have H' := Aside0.mk H
  clear H
  go_enter Try.func102, Try.ntmps102
  go_wp2_with (first | ((with_reducible refine gate_dst (N := 6) rfl ?_); refine Kd.R_lit (Kd.int .i64) _ 3 ?hg (N := 6) ?hd (xs := ([0, 2] : List Int)) (inner := [.int .i64 0, .int .i64 2]) (ok := fun _ => True) (okp := fun _ => True) ?hr ?hp (fun _ hk => hk) trivial (Below.refl _ _) (Nat.le_refl _) (by simp) ?_; (case hd => rfl); (case hg => rfl); (case hr => first | (go_simp; done) | (go_simp; rfl)); (case hp => exact (Reps.one (show Kd.M (Kd.int .i64) _ _ _ 0 [.int .i64 0] from rfl) (Reps.one (show Kd.M (Kd.int .i64) _ _ _ 2 [.int .i64 2] from rfl) (Reps.none _ _)))); intro v309 w3 ho4 hb hg_ hnew_; clear hg_ hnew_; (first | rw [← Ny308.out] at ho4 | (simp only [Int.reduceToNat] at ho4; rw [← Ny308.out] at ho4)); have n0_ := Aside0.mk (Kd.R_lower ho4 (below_size (Sqz.auHB))); have n1_ := Aside0.mk (below_step (Sqz.auHB) hb); clear HB; have HO310 := n0_; have HB := n1_; clear n0_ n1_; clear hb ho4) | ((with_reducible refine gate_callee (f := 142) rfl ?_); refine goesL_ (some 8) rfl rfl Try.func142 (by kernel_rfl) rfl #[.int .i64 a0] rfl Sqz.auM ?_; (with_reducible refine (spec_l1Primes.calls k a0 t311 _ A2.out).mono ?_); rintro e w5 ⟨v312, rfl, ho0, hb⟩; refine ⟨_, rfl, ?_⟩; have n0_ := Aside0.mk (Kd.R_elder' ((Sqz.mvR HO310.out)) (Kd.R_base ho0) hb); have n1_ := Aside0.mk (Kd.R_lower (Kd.R_new' ho0 (Kd.R_lt ((Sqz.mvR HO310.out)))) (below_size (Sqz.auHB))); have n2_ := Aside0.mk (below_step (Sqz.auHB) hb); clear HO310; clear HB; have HO310 := n0_; have HO313 := n1_; have HB := n2_; clear n0_ n1_ n2_; (try clear hb); (try clear hb2); (try clear hk); (try clear hi); (try clear ho0)))
  go_loopg [3, 5] k (fun kq v3 v5 w' => ∃ (x3_1 : List Int) (x5_1 : Int), v5 = .int .i64 x5_1 ∧ Aside0 (spec_l2Places.l0 kq x3_1 t311 x5_1 = some r) ∧ Aside0 (kq ≤ k) ∧ Aside0 (Kd.R (Kd.int .i64) 3 w' w.heap.size (fun k_ => some k_ ≠ (v312 : Value).ownBlock) v3 x3_1) ∧ Aside0 (Kd.R (Kd.int .i64) 3 w' w.heap.size (fun k_ => some k_ ≠ (v3 : Value).ownBlock) v312 t311) ∧ Aside0 (Below w.heap.size w w'))
  case atStart => exact ⟨(y308), (0), Sqz.auS, H', ⟨Nat.le_refl _⟩, ⟨(Sqz.mvR (Kd.R_mono HO310.out (fun _ hk => hk.2)))⟩, ⟨(Sqz.mvR (Kd.R_mono HO313.out (fun _ hk => hk.2)))⟩, ⟨Sqz.auHB⟩⟩
  case round =>
    clear H'
    try clear c1
    try clear p2
    obtain ⟨x3_1, x5_1, rfl, HA, HK1, HO_3, HO_4, HB⟩ := hrel
    cases gk with
    | zero => exact absurd HA.out (by simp [spec_l2Places.l0])
    | succ k1 =>
      have H := HA.out
      clear HA
      simp only [spec_l2Places.l0] at H
      by_cases c6 : x5_1 < (t311.length : Int)
      · rw [if_pos c6] at H
        have c6b0 : decide (x5_1 < (t311.length : Int)) = true := decide_eq_true c6
        clear c6
        by_cases c7 : 0 ≤ x5_1
        · rw [if_pos c7] at H
          have c7b0 : decide (0 ≤ x5_1) = true := decide_eq_true c7
          clear c7
          by_cases c8 : (rd t311 x5_1) > 2
          · rw [if_pos c8] at H
            have c8b0 : decide (2 < (rd t311 x5_1)) = true := decide_eq_true c8
            clear c8
            by_cases c9 : x3_1.length < 17592186044416
            · rw [if_pos c9] at H
              have LMc9 := Aside0.mk c9
              clear c9
              obtain ⟨y316, hy316⟩ : ∃ y_ : List Int, y_ = (x3_1 ++ [rd t311 x5_1]) := ⟨_, rfl⟩
              replace H : (spec_l2Places.l0 k1 y316 t311 (wrap64 (x5_1 + 1))) = some r := by first | (rw [hy316]; with_reducible exact H) | (have H2_ := (Option.bind_some _ _).symm.trans H; rw [hy316]; with_reducible exact H2_) | (have H2_ := (Option.bind_some _ _).symm.trans H; with_reducible exact H2_) | with_reducible exact H | (rw [hy316]; exact H) | exact H
              have Ny316 := Aside0.mk hy316
              clear hy316
              have H' := Aside0.mk H
              clear H
              obtain ⟨Ao10, co10, eo10⟩ := Kd.R_slice HO_4.out
              subst eo10
              have p314 : 0 ≤ (x5_1 : Int) := of_decide_eq_true (by first | (with_reducible assumption) | assumption)
              have q314 : x5_1 < (t311.length : Int) := of_decide_eq_true (by first | (with_reducible assumption) | assumption)
              obtain ⟨ad314, e314, hx314_0⟩ := Kd.at_int (Kd.R_reads' HO_4.out).2.2 x5_1 p314 q314
              cases e314
              replace p314 := eq_true p314
              replace q314 := eq_true q314
              have p315 : 0 ≤ (x5_1 : Int) := of_decide_eq_true (by first | (with_reducible assumption) | assumption)
              have q315 : x5_1 < (t311.length : Int) := of_decide_eq_true (by first | (with_reducible assumption) | assumption)
              obtain ⟨ad315, e315, hx315_0⟩ := Kd.at_int (Kd.R_reads' HO_4.out).2.2 x5_1 p315 q315
              obtain rfl : ad314 = ad315 := (by injection e315)
              replace p315 := eq_true p315
              replace q315 := eq_true q315
              go_wp2_with (first | ((with_reducible refine gate_builtin (b := .append) (xs := #[.tmp 20, .tmp 25]) rfl ?_); at_builtin; refine Kd.R_append (Kd.int .i64) (w0 := w) w.heap.size rfl (.tmp 20) (.tmp 25) 25 3 (.int .i64 0) 8 rfl Try.underlying25 info3 rfl (by decide) (by omega) u3 x3_1 (rd t311 x5_1) [.int .i64 (rd t311 x5_1)] (fun k_ => some k_ ≠ (.slice (some ad314) t311.length co10 : Value).ownBlock) (fun _ => False) rfl rfl ?aP (fun _ hk => hk.elim) ?aF ?aO ?aB ?aS ?aL ?_; (case aP => exact rfl); (case aB => exact (Sqz.auHB)); (case aF => exact (fun k_ hk => Kd.fresh' (Kd.R_lt ((Sqz.mvR HO_4.out))) k_ hk)); (case aO => exact ((Sqz.mvR HO_3.out))); (case aS => exact (below_size (Sqz.auHB))); (case aL => have := LMc9.out; omega); intro v317 w11 ho hb hg hat; rw [← Ny316.out] at ho; have n0_ := Aside0.mk (Kd.R_after (ok := (fun _ => True)) ((Sqz.mvR (Kd.R_mono HO_4.out (fun _ hk => ⟨trivial, hk⟩)))) hg hat); have n1_ := Aside0.mk (hb); have n2_ := Aside0.mk (ho); clear HO_4; clear HB; clear HO_3; have HO_4 := n0_; have HB := n1_; have HO318 := n2_; clear n0_ n1_ n2_; clear ho hb hg hat))
              go_roundg k1
              case measure => have := HK1.out; omega
              case rel => exact ⟨(y316), (wrap64 (x5_1 + 1)), Sqz.auS, H', ⟨by have := HK1.out; omega⟩, ⟨(Sqz.mvR HO318.out)⟩, ⟨(Sqz.mvR (Kd.R_mono HO_4.out (fun _ hk => hk.2)))⟩, ⟨Sqz.auHB⟩⟩
            · rw [if_neg c9] at H
              exact absurd H (by simp)
          · rw [if_neg c8] at H
            have c8b0 : decide (2 < (rd t311 x5_1)) = false := decide_eq_false c8
            clear c8
            have H' := Aside0.mk H
            clear H
            obtain ⟨Ao12, co12, eo12⟩ := Kd.R_slice HO_4.out
            subst eo12
            have p314 : 0 ≤ (x5_1 : Int) := of_decide_eq_true (by first | (with_reducible assumption) | assumption)
            have q314 : x5_1 < (t311.length : Int) := of_decide_eq_true (by first | (with_reducible assumption) | assumption)
            obtain ⟨ad314, e314, hx314_0⟩ := Kd.at_int (Kd.R_reads' HO_4.out).2.2 x5_1 p314 q314
            cases e314
            replace p314 := eq_true p314
            replace q314 := eq_true q314
            go_wp2
            go_roundg k1
            case measure => have := HK1.out; omega
            case rel => exact ⟨(x3_1), (wrap64 (x5_1 + 1)), Sqz.auS, H', ⟨by have := HK1.out; omega⟩, ⟨(Sqz.mvR HO_3.out)⟩, ⟨(Sqz.mvR HO_4.out)⟩, ⟨Sqz.auHB⟩⟩
        · rw [if_neg c7] at H
          exact absurd H (by simp)
      · rw [if_neg c6] at H
        have c6b0 : decide (x5_1 < (t311.length : Int)) = false := decide_eq_false c6
        clear c6
        obtain rfl := Option.some.inj H
        obtain ⟨Ao13, co13, eo13⟩ := Kd.R_slice HO_4.out
        subst eo13
        go_wp2
        go_ret
        exact ⟨_, Sqz.auR, (Sqz.mvR (Kd.R_mono HO_3.out (fun _ hk => trivial))), Sqz.auHB⟩

/-! ### spec_ValueBad: function 50 -/
mutual
def spec_ValueBad.j0 : Nat → List Int → Int → List Int → Bool → Option (List Int)
  | 0, _, _, _, _ => none
  | k + 1, x0, x1, x5, x16 => if x16 = true then (some x5) else ((spec_l4Product.f k x0).bind fun t324 => ((spec_l2Places.f k (wrap64 (t324 * x1))).bind fun t325 => (spec_ValueBad.l0 k x0 x1 x5 t325 0)))
def spec_ValueBad.l0 : Nat → List Int → Int → List Int → List Int → Int → Option (List Int)
  | 0, _, _, _, _, _ => none
  | k + 1, x0, x1, x5, x6, x7 => if x7 < (x6.length : Int) then (if 0 ≤ x7 then ((spec_l9At.f k x0 x1 (rd x6 x7)).bind fun t329 => (if t329 = true then (spec_ValueBad.l0 k x0 x1 x5 x6 (wrap64 (x7 + 1))) else (if x5.length < 17592186044416 then (spec_ValueBad.l0 k x0 x1 (x5 ++ [rd x6 x7]) x6 (wrap64 (x7 + 1))) else (none)))) else (none)) else (some x5)
end
def spec_ValueBad.f (k : Nat) (l0 : List Int) (a1 : Int) : Option (List Int) := (some (([] : List Int) : List Int)).bind fun y319 => ((spec_FormValid.f k l0).bind fun t322 => (if t322 = true then ((spec_l9Number.f a1).bind fun t323 => (spec_ValueBad.j0 k l0 a1 y319 (!t323))) else (spec_ValueBad.j0 k l0 a1 y319 true)))
set_option maxHeartbeats 8000000 in
set_option maxRecDepth 100000 in
theorem spec_ValueBad.calls (k : Nat) (A0 : Option Addr) (c0 : Nat) (l0 : List Int) (a1 : Int) (r : List Int) (w : World) (hr0 : Kd.C (Kd.int .i64) w A0 l0.length l0) (hc0 : l0.length ≤ c0) (h : spec_ValueBad.f k l0 a1 = some r) :
    Calls Try.prog 50 #[.slice A0 l0.length c0, .int .i64 a1] w fun e w' => ∃ v0_ : Value, e = .returned (v0_) ∧ Kd.R (Kd.int .i64) 3 w' w.heap.size (fun _ => True) v0_ r ∧ Below w.heap.size w w' := by
  have HR0 := Aside0.mk hr0
  have HC0 := Aside0.mk hc0
  clear hr0 hc0
  have HB := Aside0.mk (Below.refl w.heap.size w)
  have H : ((some (([] : List Int) : List Int)).bind fun y319 => ((spec_FormValid.f k l0).bind fun t322 => (if t322 = true then ((spec_l9Number.f a1).bind fun t323 => (spec_ValueBad.j0 k l0 a1 y319 (!t323))) else (spec_ValueBad.j0 k l0 a1 y319 true)))) = some r := h
  clear h
  obtain ⟨y319, hy319⟩ : ∃ y_ : List Int, y_ = (([] : List Int)) := ⟨_, rfl⟩
  replace H : ((spec_FormValid.f k l0).bind fun t322 => (if t322 = true then ((spec_l9Number.f a1).bind fun t323 => (spec_ValueBad.j0 k l0 a1 y319 (!t323))) else (spec_ValueBad.j0 k l0 a1 y319 true))) = some r := by first | (rw [hy319]; with_reducible exact H) | (have H2_ := (Option.bind_some _ _).symm.trans H; rw [hy319]; with_reducible exact H2_) | (have H2_ := (Option.bind_some _ _).symm.trans H; with_reducible exact H2_) | with_reducible exact H | (rw [hy319]; exact H) | exact H
  have Ny319 := Aside0.mk hy319
  clear hy319
  have HC3 := Aside0.mk H
  clear H
  go_enter Try.func50, Try.ntmps50
  go_upto_region 2 with (first | ((with_reducible refine gate_dst (N := 8) rfl ?_); refine Kd.R_lit (Kd.int .i64) _ 3 ?hg (N := 8) ?hd (xs := ([] : List Int)) (inner := []) (ok := fun _ => True) (okp := fun _ => True) ?hr ?hp (fun _ hk => hk) trivial (Below.refl _ _) (Nat.le_refl _) (by simp) ?_; (case hd => rfl); (case hg => rfl); (case hr => first | (go_simp; done) | (go_simp; rfl)); (case hp => exact (Reps.none _ _)); intro v320 w4 ho5 hb hg_ hnew_; clear hg_ hnew_; (first | rw [← Ny319.out] at ho5 | (simp only [Int.reduceToNat] at ho5; rw [← Ny319.out] at ho5)); have n0_ := Aside0.mk (Kd.R_lower ho5 (below_size (Sqz.auHB))); have n1_ := Aside0.mk (below_step (Sqz.auHB) hb); clear HB; have HO321 := n0_; have HB := n1_; clear n0_ n1_; clear hb ho5))
  (try simp only [Act.put, List.setIfInBounds_toArray, List.set_cons_zero, List.set_cons_succ])
  go_cut [16] (fun v16 wc => ∃ (kq : Nat) (x16_2 : Bool), v16 = .bool x16_2 ∧ Aside0 (spec_ValueBad.j0 kq l0 a1 y319 x16_2 = some r) ∧ Aside0 (kq ≤ k) ∧ Aside0 (Kd.R (Kd.int .i64) 3 wc w.heap.size (fun _ => True) v320 y319) ∧ Aside0 (Below w.heap.size w wc))
  case first =>
    have H := HC3.out
    clear HC3
    replace H := Option.bind_eq_some_iff.mp H
    obtain ⟨t322, A60, H⟩ := H
    replace H : (if t322 = true then ((spec_l9Number.f a1).bind fun t323 => (spec_ValueBad.j0 k l0 a1 y319 (!t323))) else (spec_ValueBad.j0 k l0 a1 y319 true)) = some r := H
    have A6 := Aside0.mk A60
    clear A60
    by_cases c7 : t322 = true
    · subst c7
      have H1 : ((spec_l9Number.f a1).bind fun t323 => (spec_ValueBad.j0 k l0 a1 y319 (!t323))) = some r := by rw [if_pos rfl] at H; exact H
      clear H
      have H := H1
      clear H1
      replace H := Option.bind_eq_some_iff.mp H
      obtain ⟨t323, A80, H⟩ := H
      replace H : (spec_ValueBad.j0 k l0 a1 y319 (!t323)) = some r := H
      have A8 := Aside0.mk A80
      clear A80
      have H' := Aside0.mk H
      clear H
      go_wp2_with (first | ((with_reducible refine gate_callee (f := 86) rfl ?_); refine goesL_ (some 10) rfl rfl Try.func86 (by kernel_rfl) rfl #[.slice A0 l0.length c0] rfl Sqz.auM ?_; (with_reducible refine (spec_FormValid.calls k _ _ l0 true _ ?side1 ?side2 A6.out).mono ?_); (case side1 => exact Sqz.mvC ((Kd.C_below HR0.out HB.out))); (case side2 => exact HC0.out); rintro e w' ⟨rfl, ⟨nd, rfl⟩⟩; refine ⟨_, rfl, ?_⟩) | (go_at_call 87; (with_reducible refine (spec_l9Number.calls a1 t323 _ A8.out).mono ?_); rintro e w' ⟨rfl, ⟨nd, rfl⟩⟩))
      go_meet
      case rel => exact ⟨_, (!t323), Sqz.auS, H', ⟨Sqz.auN⟩, ⟨(Sqz.mvR HO321.out)⟩, ⟨Sqz.auHB⟩⟩
    · replace c7 := Bool.eq_false_iff.mpr c7
      subst c7
      have H1 : (spec_ValueBad.j0 k l0 a1 y319 true) = some r := by rw [if_neg (show ¬ (false = true) by decide)] at H; exact H
      clear H
      have H := H1
      clear H1
      have H' := Aside0.mk H
      clear H
      go_wp2_with (first | ((with_reducible refine gate_callee (f := 86) rfl ?_); refine goesL_ (some 10) rfl rfl Try.func86 (by kernel_rfl) rfl #[.slice A0 l0.length c0] rfl Sqz.auM ?_; (with_reducible refine (spec_FormValid.calls k _ _ l0 false _ ?side1 ?side2 A6.out).mono ?_); (case side1 => exact Sqz.mvC ((Kd.C_below HR0.out HB.out))); (case side2 => exact HC0.out); rintro e w' ⟨rfl, ⟨nd, rfl⟩⟩; refine ⟨_, rfl, ?_⟩))
      go_meet
      case rel => exact ⟨_, (true), Sqz.auS, H', ⟨Sqz.auN⟩, ⟨(Sqz.mvR HO321.out)⟩, ⟨Sqz.auHB⟩⟩
  case rest =>
    clear HC3
    try clear p2
    try clear c5
    try clear c7
    try clear c8
    obtain ⟨kq, x16_2, rfl, HA, HJ2, HO_5, HB⟩ := hcut
    cases kq with
    | zero => exact absurd HA.out (by simp [spec_ValueBad.j0])
    | succ kj2 =>
      have H := HA.out
      clear HA
      simp only [spec_ValueBad.j0] at H
      by_cases c9 : x16_2 = true
      · subst c9
        have H1 : (some y319) = some r := by rw [if_pos rfl] at H; exact H
        clear H
        have H := H1
        clear H1
        obtain rfl := Option.some.inj H
        go_wp2
        go_ret
        exact ⟨_, Sqz.auR, (Sqz.mvR HO_5.out), Sqz.auHB⟩
      · replace c9 := Bool.eq_false_iff.mpr c9
        subst c9
        have H1 : ((spec_l4Product.f kj2 l0).bind fun t324 => ((spec_l2Places.f kj2 (wrap64 (t324 * a1))).bind fun t325 => (spec_ValueBad.l0 kj2 l0 a1 y319 t325 0))) = some r := by rw [if_neg (show ¬ (false = true) by decide)] at H; exact H
        clear H
        have H := H1
        clear H1
        replace H := Option.bind_eq_some_iff.mp H
        obtain ⟨t324, A100, H⟩ := H
        replace H : ((spec_l2Places.f kj2 (wrap64 (t324 * a1))).bind fun t325 => (spec_ValueBad.l0 kj2 l0 a1 y319 t325 0)) = some r := H
        have A10 := Aside0.mk A100
        clear A100
        replace H := Option.bind_eq_some_iff.mp H
        obtain ⟨t325, A110, H⟩ := H
        replace H : (spec_ValueBad.l0 kj2 l0 a1 y319 t325 0) = some r := H
        have A11 := Aside0.mk A110
        clear A110
        have H' := Aside0.mk H
        clear H
        go_wp2_with (first | ((with_reducible refine gate_callee (f := 103) rfl ?_); refine goesL_ (some 19) rfl rfl Try.func103 (by kernel_rfl) rfl #[.slice A0 l0.length c0] rfl Sqz.auM ?_; (with_reducible refine (spec_l4Product.calls kj2 _ _ l0 t324 _ ?side1 ?side2 A10.out).mono ?_); (case side1 => exact Sqz.mvC ((Kd.C_below HR0.out HB.out))); (case side2 => exact HC0.out); rintro e w' ⟨rfl, ⟨nd, rfl⟩⟩; refine ⟨_, rfl, ?_⟩) | ((with_reducible refine gate_callee (f := 102) rfl ?_); refine goesL_ (some 22) rfl rfl Try.func102 (by kernel_rfl) rfl #[.int .i64 (wrap64 (t324 * a1))] rfl Sqz.auM ?_; (with_reducible refine (spec_l2Places.calls kj2 (wrap64 (t324 * a1)) t325 _ A11.out).mono ?_); rintro e w12 ⟨v326, rfl, ho0, hb⟩; refine ⟨_, rfl, ?_⟩; have n0_ := Aside0.mk (Kd.R_elder' ((Sqz.mvR HO_5.out)) (Kd.R_base ho0) hb); have n1_ := Aside0.mk (Kd.R_lower (Kd.R_new' ho0 (Kd.R_lt ((Sqz.mvR HO_5.out)))) (below_size (Sqz.auHB))); have n2_ := Aside0.mk (below_step (Sqz.auHB) hb); clear HO_5; clear HB; have HO_5 := n0_; have HO327 := n1_; have HB := n2_; clear n0_ n1_ n2_; (try clear hb); (try clear hb2); (try clear hk); (try clear hi); (try clear ho0)))
        go_loopg [5, 7] kj2 (fun kq v5 v7 w' => ∃ (x5_2 : List Int) (x7_2 : Int), v7 = .int .i64 x7_2 ∧ Aside0 (spec_ValueBad.l0 kq l0 a1 x5_2 t325 x7_2 = some r) ∧ Aside0 (kq ≤ kj2) ∧ Aside0 (Kd.R (Kd.int .i64) 3 w' w.heap.size (fun k_ => some k_ ≠ (v326 : Value).ownBlock) v5 x5_2) ∧ Aside0 (Kd.R (Kd.int .i64) 3 w' w.heap.size (fun k_ => some k_ ≠ (v5 : Value).ownBlock) v326 t325) ∧ Aside0 (Below w.heap.size w w'))
        case atStart => exact ⟨(y319), (0), Sqz.auS, H', ⟨Nat.le_refl _⟩, ⟨(Sqz.mvR (Kd.R_mono HO_5.out (fun _ hk => hk.2)))⟩, ⟨(Sqz.mvR (Kd.R_mono HO327.out (fun _ hk => hk.2)))⟩, ⟨Sqz.auHB⟩⟩
        case round =>
          clear H'
          try clear c1
          try clear p2
          try clear c5
          try clear p6
          try clear c7
          try clear c8
          try clear c9
          try clear c10
          try clear p2
          obtain ⟨x5_2, x7_2, rfl, HA, HK2, HO_5, HO_6, HB⟩ := hrel
          cases gk with
          | zero => exact absurd HA.out (by simp [spec_ValueBad.l0])
          | succ k2 =>
            have H := HA.out
            clear HA
            simp only [spec_ValueBad.l0] at H
            by_cases c13 : x7_2 < (t325.length : Int)
            · rw [if_pos c13] at H
              have c13b0 : decide (x7_2 < (t325.length : Int)) = true := decide_eq_true c13
              clear c13
              by_cases c14 : 0 ≤ x7_2
              · rw [if_pos c14] at H
                have c14b0 : decide (0 ≤ x7_2) = true := decide_eq_true c14
                clear c14
                replace H := Option.bind_eq_some_iff.mp H
                obtain ⟨t329, A150, H⟩ := H
                replace H : (if t329 = true then (spec_ValueBad.l0 k2 l0 a1 x5_2 t325 (wrap64 (x7_2 + 1))) else (if x5_2.length < 17592186044416 then (spec_ValueBad.l0 k2 l0 a1 (x5_2 ++ [rd t325 x7_2]) t325 (wrap64 (x7_2 + 1))) else (none))) = some r := H
                have A15 := Aside0.mk A150
                clear A150
                by_cases c16 : t329 = true
                · subst c16
                  have H1 : (spec_ValueBad.l0 k2 l0 a1 x5_2 t325 (wrap64 (x7_2 + 1))) = some r := by rw [if_pos rfl] at H; exact H
                  clear H
                  have H := H1
                  clear H1
                  have H' := Aside0.mk H
                  clear H
                  obtain ⟨Ao17, co17, eo17⟩ := Kd.R_slice HO_6.out
                  subst eo17
                  have p328 : 0 ≤ (x7_2 : Int) := of_decide_eq_true (by first | (with_reducible assumption) | assumption)
                  have q328 : x7_2 < (t325.length : Int) := of_decide_eq_true (by first | (with_reducible assumption) | assumption)
                  obtain ⟨ad328, e328, hx328_0⟩ := Kd.at_int (Kd.R_reads' HO_6.out).2.2 x7_2 p328 q328
                  cases e328
                  replace p328 := eq_true p328
                  replace q328 := eq_true q328
                  go_wp2_with (first | ((with_reducible refine gate_callee (f := 88) rfl ?_); refine goesL_ (some 35) rfl rfl Try.func88 (by kernel_rfl) rfl #[.slice A0 l0.length c0, .int .i64 a1, .int .i64 (rd t325 x7_2)] rfl Sqz.auM ?_; (with_reducible refine (spec_l9At.calls k2 _ _ l0 a1 (rd t325 x7_2) true _ ?side1 ?side2 A15.out).mono ?_); (case side1 => exact Sqz.mvC ((Kd.C_below HR0.out HB.out))); (case side2 => exact HC0.out); rintro e w18 ⟨rfl, hb⟩; refine ⟨_, rfl, ?_⟩; have n0_ := Aside0.mk (Kd.R_below ((Sqz.mvR HO_5.out)) hb); have n1_ := Aside0.mk (Kd.R_below ((Sqz.mvR HO_6.out)) hb); have n2_ := Aside0.mk (below_step (Sqz.auHB) hb); clear HO_5; clear HO_6; clear HB; have HO_5 := n0_; have HO_6 := n1_; have HB := n2_; clear n0_ n1_ n2_; (try clear hb); (try clear hb2); (try clear hk); (try clear hi)))
                  go_roundg k2
                  case measure => have := HJ2.out; have := HK2.out; omega
                  case rel => exact ⟨(x5_2), (wrap64 (x7_2 + 1)), Sqz.auS, H', ⟨by have := HJ2.out; have := HK2.out; omega⟩, ⟨(Sqz.mvR HO_5.out)⟩, ⟨(Sqz.mvR HO_6.out)⟩, ⟨Sqz.auHB⟩⟩
                · replace c16 := Bool.eq_false_iff.mpr c16
                  subst c16
                  have H1 : (if x5_2.length < 17592186044416 then (spec_ValueBad.l0 k2 l0 a1 (x5_2 ++ [rd t325 x7_2]) t325 (wrap64 (x7_2 + 1))) else (none)) = some r := by rw [if_neg (show ¬ (false = true) by decide)] at H; exact H
                  clear H
                  have H := H1
                  clear H1
                  by_cases c19 : x5_2.length < 17592186044416
                  · rw [if_pos c19] at H
                    have LMc19 := Aside0.mk c19
                    clear c19
                    obtain ⟨y331, hy331⟩ : ∃ y_ : List Int, y_ = (x5_2 ++ [rd t325 x7_2]) := ⟨_, rfl⟩
                    replace H : (spec_ValueBad.l0 k2 l0 a1 y331 t325 (wrap64 (x7_2 + 1))) = some r := by first | (rw [hy331]; with_reducible exact H) | (have H2_ := (Option.bind_some _ _).symm.trans H; rw [hy331]; with_reducible exact H2_) | (have H2_ := (Option.bind_some _ _).symm.trans H; with_reducible exact H2_) | with_reducible exact H | (rw [hy331]; exact H) | exact H
                    have Ny331 := Aside0.mk hy331
                    clear hy331
                    have H' := Aside0.mk H
                    clear H
                    obtain ⟨Ao20, co20, eo20⟩ := Kd.R_slice HO_6.out
                    subst eo20
                    have p328 : 0 ≤ (x7_2 : Int) := of_decide_eq_true (by first | (with_reducible assumption) | assumption)
                    have q328 : x7_2 < (t325.length : Int) := of_decide_eq_true (by first | (with_reducible assumption) | assumption)
                    obtain ⟨ad328, e328, hx328_0⟩ := Kd.at_int (Kd.R_reads' HO_6.out).2.2 x7_2 p328 q328
                    cases e328
                    replace p328 := eq_true p328
                    replace q328 := eq_true q328
                    go_wp2_with (first | ((with_reducible refine gate_callee (f := 88) rfl ?_); refine goesL_ (some 35) rfl rfl Try.func88 (by kernel_rfl) rfl #[.slice A0 l0.length c0, .int .i64 a1, .int .i64 (rd t325 x7_2)] rfl Sqz.auM ?_; (with_reducible refine (spec_l9At.calls k2 _ _ l0 a1 (rd t325 x7_2) false _ ?side1 ?side2 A15.out).mono ?_); (case side1 => exact Sqz.mvC ((Kd.C_below HR0.out HB.out))); (case side2 => exact HC0.out); rintro e w21 ⟨rfl, hb⟩; refine ⟨_, rfl, ?_⟩; have n0_ := Aside0.mk (Kd.R_below ((Sqz.mvR HO_5.out)) hb); have n1_ := Aside0.mk (Kd.R_below ((Sqz.mvR HO_6.out)) hb); have n2_ := Aside0.mk (below_step (Sqz.auHB) hb); clear HO_5; clear HO_6; clear HB; have HO_5 := n0_; have HO_6 := n1_; have HB := n2_; clear n0_ n1_ n2_; (try clear hb); (try clear hb2); (try clear hk); (try clear hi); have p330 : 0 ≤ (x7_2 : Int) := of_decide_eq_true (by first | (with_reducible assumption) | assumption); have q330 : x7_2 < (t325.length : Int) := of_decide_eq_true (by first | (with_reducible assumption) | assumption); obtain ⟨ad330, e330, hx330_0⟩ := Kd.at_int (Kd.R_reads' HO_6.out).2.2 x7_2 p330 q330; obtain rfl : ad328 = ad330 := (by injection e330); replace p330 := eq_true p330; replace q330 := eq_true q330) | ((with_reducible refine gate_builtin (b := .append) (xs := #[.tmp 37, .tmp 42]) rfl ?_); at_builtin; refine Kd.R_append (Kd.int .i64) (w0 := w) w.heap.size rfl (.tmp 37) (.tmp 42) 25 3 (.int .i64 0) 8 rfl Try.underlying25 info3 rfl (by decide) (by omega) u5 x5_2 (rd t325 x7_2) [.int .i64 (rd t325 x7_2)] (fun k_ => some k_ ≠ (.slice (some ad328) t325.length co20 : Value).ownBlock) (fun _ => False) rfl rfl ?aP (fun _ hk => hk.elim) ?aF ?aO ?aB ?aS ?aL ?_; (case aP => exact rfl); (case aB => exact (Sqz.auHB)); (case aF => exact (fun k_ hk => Kd.fresh' (Kd.R_lt ((Sqz.mvR HO_6.out))) k_ hk)); (case aO => exact ((Sqz.mvR HO_5.out))); (case aS => exact (below_size (Sqz.auHB))); (case aL => have := LMc19.out; omega); intro v332 w22 ho hb hg hat; rw [← Ny331.out] at ho; have n0_ := Aside0.mk (Kd.R_after (ok := (fun _ => True)) ((Sqz.mvR (Kd.R_mono HO_6.out (fun _ hk => ⟨trivial, hk⟩)))) hg hat); have n1_ := Aside0.mk (hb); have n2_ := Aside0.mk (ho); clear HO_6; clear HB; clear HO_5; have HO_6 := n0_; have HB := n1_; have HO333 := n2_; clear n0_ n1_ n2_; clear ho hb hg hat))
                    go_roundg k2
                    case measure => have := HJ2.out; have := HK2.out; omega
                    case rel => exact ⟨(y331), (wrap64 (x7_2 + 1)), Sqz.auS, H', ⟨by have := HJ2.out; have := HK2.out; omega⟩, ⟨(Sqz.mvR HO333.out)⟩, ⟨(Sqz.mvR (Kd.R_mono HO_6.out (fun _ hk => hk.2)))⟩, ⟨Sqz.auHB⟩⟩
                  · rw [if_neg c19] at H
                    exact absurd H (by simp)
              · rw [if_neg c14] at H
                exact absurd H (by simp)
            · rw [if_neg c13] at H
              have c13b0 : decide (x7_2 < (t325.length : Int)) = false := decide_eq_false c13
              clear c13
              obtain rfl := Option.some.inj H
              obtain ⟨Ao23, co23, eo23⟩ := Kd.R_slice HO_6.out
              subst eo23
              go_wp2
              go_ret
              exact ⟨_, Sqz.auR, (Sqz.mvR (Kd.R_mono HO_5.out (fun _ hk => trivial))), Sqz.auHB⟩

/-! ### spec_ValueEverywhere: function 46 -/
def spec_ValueEverywhere.f (k : Nat) (l0 : List Int) (a1 : Int) : Option (Bool) := (spec_FormValid.f k l0).bind fun t334 => (if t334 = true then ((spec_l9Number.f a1).bind fun t335 => (if t335 = true then ((spec_ValueBad.f k l0 a1).bind fun t336 => (some ((t336.length : Int) == 0))) else (some false))) else (some false))
set_option maxHeartbeats 8000000 in
set_option maxRecDepth 100000 in
theorem spec_ValueEverywhere.calls (k : Nat) (A0 : Option Addr) (c0 : Nat) (l0 : List Int) (a1 : Int) (r : Bool) (w : World) (hr0 : Kd.C (Kd.int .i64) w A0 l0.length l0) (hc0 : l0.length ≤ c0) (h : spec_ValueEverywhere.f k l0 a1 = some r) :
    Calls Try.prog 46 #[.slice A0 l0.length c0, .int .i64 a1] w fun e w' => e = .returned (.bool r) ∧ Below w.heap.size w w' := by
  have HR0 := Aside0.mk hr0
  have HC0 := Aside0.mk hc0
  clear hr0 hc0
  have HB := Aside0.mk (Below.refl w.heap.size w)
  have H : ((spec_FormValid.f k l0).bind fun t334 => (if t334 = true then ((spec_l9Number.f a1).bind fun t335 => (if t335 = true then ((spec_ValueBad.f k l0 a1).bind fun t336 => (some ((t336.length : Int) == 0))) else (some false))) else (some false))) = some r := h
  clear h
  replace H := Option.bind_eq_some_iff.mp H
  obtain ⟨t334, A30, H⟩ := H
  replace H : (if t334 = true then ((spec_l9Number.f a1).bind fun t335 => (if t335 = true then ((spec_ValueBad.f k l0 a1).bind fun t336 => (some ((t336.length : Int) == 0))) else (some false))) else (some false)) = some r := H
  have A3 := Aside0.mk A30
  clear A30
  by_cases c4 : t334 = true
  · subst c4
    have H1 : ((spec_l9Number.f a1).bind fun t335 => (if t335 = true then ((spec_ValueBad.f k l0 a1).bind fun t336 => (some ((t336.length : Int) == 0))) else (some false))) = some r := by rw [if_pos rfl] at H; exact H
    clear H
    have H := H1
    clear H1
    replace H := Option.bind_eq_some_iff.mp H
    obtain ⟨t335, A50, H⟩ := H
    replace H : (if t335 = true then ((spec_ValueBad.f k l0 a1).bind fun t336 => (some ((t336.length : Int) == 0))) else (some false)) = some r := H
    have A5 := Aside0.mk A50
    clear A50
    by_cases c6 : t335 = true
    · subst c6
      have H1 : ((spec_ValueBad.f k l0 a1).bind fun t336 => (some ((t336.length : Int) == 0))) = some r := by rw [if_pos rfl] at H; exact H
      clear H
      have H := H1
      clear H1
      replace H := Option.bind_eq_some_iff.mp H
      obtain ⟨t336, A70, H⟩ := H
      replace H : (some ((t336.length : Int) == 0)) = some r := H
      have A7 := Aside0.mk A70
      clear A70
      obtain rfl := Option.some.inj H
      go_enter Try.func46, Try.ntmps46
      go_wp2_with (first | ((with_reducible refine gate_callee (f := 86) rfl ?_); refine goesL_ (some 6) rfl rfl Try.func86 (by kernel_rfl) rfl #[.slice A0 l0.length c0] rfl Sqz.auM ?_; (with_reducible refine (spec_FormValid.calls k _ _ l0 true _ ?side1 ?side2 A3.out).mono ?_); (case side1 => exact Sqz.mvC (HR0.out)); (case side2 => exact HC0.out); rintro e w' ⟨rfl, ⟨nd, rfl⟩⟩; refine ⟨_, rfl, ?_⟩) | (go_at_call 87; (with_reducible refine (spec_l9Number.calls a1 true _ A5.out).mono ?_); rintro e w' ⟨rfl, ⟨nd, rfl⟩⟩) | (go_at_call 50; (with_reducible refine (spec_ValueBad.calls k _ _ l0 a1 t336 _ ?side1 ?side2 A7.out).mono ?_); (case side1 => exact Sqz.mvC (HR0.out)); (case side2 => exact HC0.out); rintro e w8 ⟨v337, rfl, ho0, hb⟩; have n0_ := Aside0.mk (Kd.R_lower ho0 (below_size (Sqz.auHB))); have n1_ := Aside0.mk (below_step (Sqz.auHB) hb); clear HB; have HO338 := n0_; have HB := n1_; clear n0_ n1_; (try clear hb); (try clear hb2); (try clear hk); (try clear hi); (try clear ho0); obtain ⟨Ao9, co9, eo9⟩ := Kd.R_slice HO338.out; subst eo9))
      go_ret
      exact ⟨Sqz.auR, Sqz.auHB⟩
    · replace c6 := Bool.eq_false_iff.mpr c6
      subst c6
      have H1 : (some false) = some r := by rw [if_neg (show ¬ (false = true) by decide)] at H; exact H
      clear H
      have H := H1
      clear H1
      obtain rfl := Option.some.inj H
      go_enter Try.func46, Try.ntmps46
      go_wp2_with (first | ((with_reducible refine gate_callee (f := 86) rfl ?_); refine goesL_ (some 6) rfl rfl Try.func86 (by kernel_rfl) rfl #[.slice A0 l0.length c0] rfl Sqz.auM ?_; (with_reducible refine (spec_FormValid.calls k _ _ l0 true _ ?side1 ?side2 A3.out).mono ?_); (case side1 => exact Sqz.mvC (HR0.out)); (case side2 => exact HC0.out); rintro e w' ⟨rfl, ⟨nd, rfl⟩⟩; refine ⟨_, rfl, ?_⟩) | (go_at_call 87; (with_reducible refine (spec_l9Number.calls a1 false _ A5.out).mono ?_); rintro e w' ⟨rfl, ⟨nd, rfl⟩⟩))
      go_ret
      exact ⟨Sqz.auR, Sqz.auHB⟩
  · replace c4 := Bool.eq_false_iff.mpr c4
    subst c4
    have H1 : (some false) = some r := by rw [if_neg (show ¬ (false = true) by decide)] at H; exact H
    clear H
    have H := H1
    clear H1
    obtain rfl := Option.some.inj H
    go_enter Try.func46, Try.ntmps46
    go_wp2_with (first | ((with_reducible refine gate_callee (f := 86) rfl ?_); refine goesL_ (some 6) rfl rfl Try.func86 (by kernel_rfl) rfl #[.slice A0 l0.length c0] rfl Sqz.auM ?_; (with_reducible refine (spec_FormValid.calls k _ _ l0 false _ ?side1 ?side2 A3.out).mono ?_); (case side1 => exact Sqz.mvC (HR0.out)); (case side2 => exact HC0.out); rintro e w' ⟨rfl, ⟨nd, rfl⟩⟩; refine ⟨_, rfl, ?_⟩))
    go_ret
    exact ⟨Sqz.auR, Sqz.auHB⟩

end Go.Proofs.Ytihadpckmcebgaa.PFnTermsValue
