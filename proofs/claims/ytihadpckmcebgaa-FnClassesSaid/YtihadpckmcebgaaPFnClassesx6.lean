/- A function's Lean twin and its walk, written by a program of this session. -/
import Derived.Test.YtihadpckmcebgaaPFnClassesx0
import Derived.Test.YtihadpckmcebgaaPFnClassesx1
import Derived.Test.YtihadpckmcebgaaPFnClassesx3
import Derived.Test.YtihadpckmcebgaaPFnClassesx4
import Derived.Test.YtihadpckmcebgaaPFnClassesx5
namespace Go.Proofs.Ytihadpckmcebgaa.PFnClasses
open Go.RowKit Go.Proofs.YtihadpckmcebgaaW.PrintWords Go.Proofs.YtihadpckmcebgaaW.PrintLast Go.Proofs.YtihadpckmcebgaaW.PrintMore
attribute [local go_sem] max2_int min2_int max_two min_two max_three min_three max_four min_four   -- for this text's walks alone
set_option linter.unusedVariables false
set_option linter.unusedSimpArgs false

/-! ### spec_l4Vanishes: function 133 -/
def spec_l4Vanishes.f (k : Nat) (l0 : List Int) (a1 : Int) : Option (Bool) := if a1 = 0 then ((spec_l4Less.f k l0).bind fun t316 => (if t316 > 0 then ((spec_l4Less.f k l0).bind fun t317 => (some (decide (t317 < (l0.length : Int))))) else (some false))) else ((spec_l4Product.f k l0).bind fun t318 => (if (l0.length : Int) = 1 then (some false) else (if (l0.length : Int) = 2 then ((spec_l2Square.f k (wrap64 (-t318)) a1).bind fun t319 => (some t319)) else (if (l0.length : Int) = 3 then ((spec_l4Invariant.f k l0 a1).bind fun t320 => ((spec_l3Symbol.f k (-1) (wrap64 (-t318)) a1).bind fun t321 => (some (t320 == t321)))) else ((spec_l2Square.f k t318 a1).bind fun t322 => (if t322 = true then ((spec_l4Invariant.f k l0 a1).bind fun t323 => ((spec_l3Symbol.f k (-1) (-1) a1).bind fun t324 => (some (t323 == t324)))) else (some true)))))))
set_option maxHeartbeats 8000000 in
set_option maxRecDepth 100000 in
theorem spec_l4Vanishes.calls (k : Nat) (A0 : Option Addr) (c0 : Nat) (l0 : List Int) (a1 : Int) (r : Bool) (w : World) (hr0 : Kd.C (Kd.int .i64) w A0 l0.length l0) (hc0 : l0.length ≤ c0) (h : spec_l4Vanishes.f k l0 a1 = some r) :
    Calls Try.prog 133 #[.slice A0 l0.length c0, .int .i64 a1] w fun e w' => e = .returned (.bool r) ∧ Drawn0 w w' := by
  have HR0 := Aside0.mk hr0
  have HC0 := Aside0.mk hc0
  clear hr0 hc0
  have H : (if a1 = 0 then ((spec_l4Less.f k l0).bind fun t316 => (if t316 > 0 then ((spec_l4Less.f k l0).bind fun t317 => (some (decide (t317 < (l0.length : Int))))) else (some false))) else ((spec_l4Product.f k l0).bind fun t318 => (if (l0.length : Int) = 1 then (some false) else (if (l0.length : Int) = 2 then ((spec_l2Square.f k (wrap64 (-t318)) a1).bind fun t319 => (some t319)) else (if (l0.length : Int) = 3 then ((spec_l4Invariant.f k l0 a1).bind fun t320 => ((spec_l3Symbol.f k (-1) (wrap64 (-t318)) a1).bind fun t321 => (some (t320 == t321)))) else ((spec_l2Square.f k t318 a1).bind fun t322 => (if t322 = true then ((spec_l4Invariant.f k l0 a1).bind fun t323 => ((spec_l3Symbol.f k (-1) (-1) a1).bind fun t324 => (some (t323 == t324)))) else (some true)))))))) = some r := h
  clear h
  by_cases c3 : a1 = 0
  · rw [if_pos c3] at H
    have c3b0 : (a1 == 0) = true := beq_iff_eq.mpr c3
    have c3b1 : (a1 != 0) = false := bne_eq_false_iff_eq.mpr c3
    clear c3
    replace H := Option.bind_eq_some_iff.mp H
    obtain ⟨t316, A40, H⟩ := H
    replace H : (if t316 > 0 then ((spec_l4Less.f k l0).bind fun t317 => (some (decide (t317 < (l0.length : Int))))) else (some false)) = some r := H
    have A4 := Aside0.mk A40
    clear A40
    by_cases c5 : t316 > 0
    · rw [if_pos c5] at H
      have c5b0 : decide (0 < t316) = true := decide_eq_true c5
      clear c5
      replace H := Option.bind_eq_some_iff.mp H
      obtain ⟨t317, A60, H⟩ := H
      replace H : (some (decide (t317 < (l0.length : Int)))) = some r := H
      have A6 := Aside0.mk A60
      clear A60
      obtain rfl := Option.some.inj H
      go_enter Try.func133, Try.ntmps133
      go_wp2_with (first | ((with_reducible refine gate_callee (f := 130) rfl ?_); refine goesL_ (some 9) rfl rfl Try.func130 (by kernel_rfl) rfl #[.slice A0 l0.length c0] rfl Sqz.auM ?_; (with_reducible refine (spec_l4Less.calls k _ _ l0 t316 _ ?side1 ?side2 A4.out).mono ?_); (case side1 => exact Sqz.mvC (HR0.out)); (case side2 => exact HC0.out); rintro e w' ⟨rfl, ⟨nd, rfl⟩⟩; refine ⟨_, rfl, ?_⟩) | (go_at_call 130; (with_reducible refine (spec_l4Less.calls k _ _ l0 t317 _ ?side1 ?side2 A6.out).mono ?_); (case side1 => exact Sqz.mvC (HR0.out)); (case side2 => exact HC0.out); rintro e w' ⟨rfl, ⟨nd, rfl⟩⟩))
      go_ret
      exact ⟨Sqz.auS, by repeat (first | exact Drawn0.refl _ | apply Drawn0.step)⟩
    · rw [if_neg c5] at H
      have c5b0 : decide (0 < t316) = false := decide_eq_false c5
      clear c5
      obtain rfl := Option.some.inj H
      go_enter Try.func133, Try.ntmps133
      go_wp2_with (first | ((with_reducible refine gate_callee (f := 130) rfl ?_); refine goesL_ (some 9) rfl rfl Try.func130 (by kernel_rfl) rfl #[.slice A0 l0.length c0] rfl Sqz.auM ?_; (with_reducible refine (spec_l4Less.calls k _ _ l0 t316 _ ?side1 ?side2 A4.out).mono ?_); (case side1 => exact Sqz.mvC (HR0.out)); (case side2 => exact HC0.out); rintro e w' ⟨rfl, ⟨nd, rfl⟩⟩; refine ⟨_, rfl, ?_⟩))
      go_ret
      exact ⟨Sqz.auS, by repeat (first | exact Drawn0.refl _ | apply Drawn0.step)⟩
  · rw [if_neg c3] at H
    have c3b0 : (a1 == 0) = false := beq_eq_false_iff_ne.mpr c3
    have c3b1 : (a1 != 0) = true := bne_iff_ne.mpr c3
    replace H := Option.bind_eq_some_iff.mp H
    obtain ⟨t318, A70, H⟩ := H
    replace H : (if (l0.length : Int) = 1 then (some false) else (if (l0.length : Int) = 2 then ((spec_l2Square.f k (wrap64 (-t318)) a1).bind fun t319 => (some t319)) else (if (l0.length : Int) = 3 then ((spec_l4Invariant.f k l0 a1).bind fun t320 => ((spec_l3Symbol.f k (-1) (wrap64 (-t318)) a1).bind fun t321 => (some (t320 == t321)))) else ((spec_l2Square.f k t318 a1).bind fun t322 => (if t322 = true then ((spec_l4Invariant.f k l0 a1).bind fun t323 => ((spec_l3Symbol.f k (-1) (-1) a1).bind fun t324 => (some (t323 == t324)))) else (some true)))))) = some r := H
    have A7 := Aside0.mk A70
    clear A70
    by_cases c8 : (l0.length : Int) = 1
    · rw [if_pos c8] at H
      have c8b0 : ((l0.length : Int) == 1) = true := beq_iff_eq.mpr c8
      have c8b1 : ((l0.length : Int) != 1) = false := bne_eq_false_iff_eq.mpr c8
      clear c8
      obtain rfl := Option.some.inj H
      go_enter Try.func133, Try.ntmps133
      go_wp2_with (first | ((with_reducible refine gate_callee (f := 103) rfl ?_); refine goesL_ (some 19) rfl rfl Try.func103 (by kernel_rfl) rfl #[.slice A0 l0.length c0] rfl Sqz.auM ?_; (with_reducible refine (spec_l4Product.calls k _ _ l0 t318 _ ?side1 ?side2 A7.out).mono ?_); (case side1 => exact Sqz.mvC (HR0.out)); (case side2 => exact HC0.out); rintro e w' ⟨rfl, ⟨nd, rfl⟩⟩; refine ⟨_, rfl, ?_⟩))
      go_ret
      exact ⟨Sqz.auS, by repeat (first | exact Drawn0.refl _ | apply Drawn0.step)⟩
    · rw [if_neg c8] at H
      have c8b0 : ((l0.length : Int) == 1) = false := beq_eq_false_iff_ne.mpr c8
      have c8b1 : ((l0.length : Int) != 1) = true := bne_iff_ne.mpr c8
      by_cases c9 : (l0.length : Int) = 2
      · rw [if_pos c9] at H
        have c9b0 : ((l0.length : Int) == 2) = true := beq_iff_eq.mpr c9
        have c9b1 : ((l0.length : Int) != 2) = false := bne_eq_false_iff_eq.mpr c9
        clear c9
        replace H := Option.bind_eq_some_iff.mp H
        obtain ⟨t319, A100, H⟩ := H
        replace H : (some t319) = some r := H
        have A10 := Aside0.mk A100
        clear A100
        obtain rfl := Option.some.inj H
        go_enter Try.func133, Try.ntmps133
        go_wp2_with (first | ((with_reducible refine gate_callee (f := 103) rfl ?_); refine goesL_ (some 19) rfl rfl Try.func103 (by kernel_rfl) rfl #[.slice A0 l0.length c0] rfl Sqz.auM ?_; (with_reducible refine (spec_l4Product.calls k _ _ l0 t318 _ ?side1 ?side2 A7.out).mono ?_); (case side1 => exact Sqz.mvC (HR0.out)); (case side2 => exact HC0.out); rintro e w' ⟨rfl, ⟨nd, rfl⟩⟩; refine ⟨_, rfl, ?_⟩) | ((with_reducible refine gate_callee (f := 131) rfl ?_); refine goesL_ (some 29) rfl rfl Try.func131 (by kernel_rfl) rfl #[.int .i64 (wrap64 (-t318)), .int .i64 a1] rfl Sqz.auM ?_; (with_reducible refine (spec_l2Square.calls k (wrap64 (-t318)) a1 t319 _ A10.out).mono ?_); rintro e w' ⟨rfl, ⟨nd, rfl⟩⟩; refine ⟨_, rfl, ?_⟩))
        go_ret
        exact ⟨Sqz.auS, by repeat (first | exact Drawn0.refl _ | apply Drawn0.step)⟩
      · rw [if_neg c9] at H
        have c9b0 : ((l0.length : Int) == 2) = false := beq_eq_false_iff_ne.mpr c9
        have c9b1 : ((l0.length : Int) != 2) = true := bne_iff_ne.mpr c9
        by_cases c11 : (l0.length : Int) = 3
        · rw [if_pos c11] at H
          have c11b0 : ((l0.length : Int) == 3) = true := beq_iff_eq.mpr c11
          have c11b1 : ((l0.length : Int) != 3) = false := bne_eq_false_iff_eq.mpr c11
          clear c11
          replace H := Option.bind_eq_some_iff.mp H
          obtain ⟨t320, A120, H⟩ := H
          replace H : ((spec_l3Symbol.f k (-1) (wrap64 (-t318)) a1).bind fun t321 => (some (t320 == t321))) = some r := H
          have A12 := Aside0.mk A120
          clear A120
          replace H := Option.bind_eq_some_iff.mp H
          obtain ⟨t321, A130, H⟩ := H
          replace H : (some (t320 == t321)) = some r := H
          have A13 := Aside0.mk A130
          clear A130
          obtain rfl := Option.some.inj H
          go_enter Try.func133, Try.ntmps133
          go_wp2_with (first | ((with_reducible refine gate_callee (f := 103) rfl ?_); refine goesL_ (some 19) rfl rfl Try.func103 (by kernel_rfl) rfl #[.slice A0 l0.length c0] rfl Sqz.auM ?_; (with_reducible refine (spec_l4Product.calls k _ _ l0 t318 _ ?side1 ?side2 A7.out).mono ?_); (case side1 => exact Sqz.mvC (HR0.out)); (case side2 => exact HC0.out); rintro e w' ⟨rfl, ⟨nd, rfl⟩⟩; refine ⟨_, rfl, ?_⟩) | ((with_reducible refine gate_callee (f := 132) rfl ?_); refine goesL_ (some 34) rfl rfl Try.func132 (by kernel_rfl) rfl #[.slice A0 l0.length c0, .int .i64 a1] rfl Sqz.auM ?_; (with_reducible refine (spec_l4Invariant.calls k _ _ l0 a1 t320 _ ?side1 ?side2 A12.out).mono ?_); (case side1 => exact Sqz.mvC (HR0.out)); (case side2 => exact HC0.out); rintro e w' ⟨rfl, ⟨nd, rfl⟩⟩; refine ⟨_, rfl, ?_⟩) | ((with_reducible refine gate_callee (f := 150) rfl ?_); refine goesL_ (some 38) rfl rfl Try.func150 (by kernel_rfl) rfl #[.int .i64 (-1), .int .i64 (wrap64 (-t318)), .int .i64 a1] rfl Sqz.auM ?_; (with_reducible refine (spec_l3Symbol.calls k (-1) (wrap64 (-t318)) a1 t321 _ A13.out).mono ?_); rintro e w' ⟨rfl, ⟨nd, rfl⟩⟩; refine ⟨_, rfl, ?_⟩))
          go_ret
          exact ⟨Sqz.auS, by repeat (first | exact Drawn0.refl _ | apply Drawn0.step)⟩
        · rw [if_neg c11] at H
          have c11b0 : ((l0.length : Int) == 3) = false := beq_eq_false_iff_ne.mpr c11
          have c11b1 : ((l0.length : Int) != 3) = true := bne_iff_ne.mpr c11
          replace H := Option.bind_eq_some_iff.mp H
          obtain ⟨t322, A140, H⟩ := H
          replace H : (if t322 = true then ((spec_l4Invariant.f k l0 a1).bind fun t323 => ((spec_l3Symbol.f k (-1) (-1) a1).bind fun t324 => (some (t323 == t324)))) else (some true)) = some r := H
          have A14 := Aside0.mk A140
          clear A140
          by_cases c15 : t322 = true
          · subst c15
            have H1 : ((spec_l4Invariant.f k l0 a1).bind fun t323 => ((spec_l3Symbol.f k (-1) (-1) a1).bind fun t324 => (some (t323 == t324)))) = some r := by rw [if_pos rfl] at H; exact H
            clear H
            have H := H1
            clear H1
            replace H := Option.bind_eq_some_iff.mp H
            obtain ⟨t323, A160, H⟩ := H
            replace H : ((spec_l3Symbol.f k (-1) (-1) a1).bind fun t324 => (some (t323 == t324))) = some r := H
            have A16 := Aside0.mk A160
            clear A160
            replace H := Option.bind_eq_some_iff.mp H
            obtain ⟨t324, A170, H⟩ := H
            replace H : (some (t323 == t324)) = some r := H
            have A17 := Aside0.mk A170
            clear A170
            obtain rfl := Option.some.inj H
            go_enter Try.func133, Try.ntmps133
            go_wp2_with (first | ((with_reducible refine gate_callee (f := 103) rfl ?_); refine goesL_ (some 19) rfl rfl Try.func103 (by kernel_rfl) rfl #[.slice A0 l0.length c0] rfl Sqz.auM ?_; (with_reducible refine (spec_l4Product.calls k _ _ l0 t318 _ ?side1 ?side2 A7.out).mono ?_); (case side1 => exact Sqz.mvC (HR0.out)); (case side2 => exact HC0.out); rintro e w' ⟨rfl, ⟨nd, rfl⟩⟩; refine ⟨_, rfl, ?_⟩) | ((with_reducible refine gate_callee (f := 131) rfl ?_); refine goesL_ (some 42) rfl rfl Try.func131 (by kernel_rfl) rfl #[.int .i64 t318, .int .i64 a1] rfl Sqz.auM ?_; (with_reducible refine (spec_l2Square.calls k t318 a1 true _ A14.out).mono ?_); rintro e w' ⟨rfl, ⟨nd, rfl⟩⟩; refine ⟨_, rfl, ?_⟩) | (go_at_call 132; (with_reducible refine (spec_l4Invariant.calls k _ _ l0 a1 t323 _ ?side1 ?side2 A16.out).mono ?_); (case side1 => exact Sqz.mvC (HR0.out)); (case side2 => exact HC0.out); rintro e w' ⟨rfl, ⟨nd, rfl⟩⟩) | (go_at_call 150; (with_reducible refine (spec_l3Symbol.calls k (-1) (-1) a1 t324 _ A17.out).mono ?_); rintro e w' ⟨rfl, ⟨nd, rfl⟩⟩))
            go_ret
            exact ⟨Sqz.auS, by repeat (first | exact Drawn0.refl _ | apply Drawn0.step)⟩
          · replace c15 := Bool.eq_false_iff.mpr c15
            subst c15
            have H1 : (some true) = some r := by rw [if_neg (show ¬ (false = true) by decide)] at H; exact H
            clear H
            have H := H1
            clear H1
            obtain rfl := Option.some.inj H
            go_enter Try.func133, Try.ntmps133
            go_wp2_with (first | ((with_reducible refine gate_callee (f := 103) rfl ?_); refine goesL_ (some 19) rfl rfl Try.func103 (by kernel_rfl) rfl #[.slice A0 l0.length c0] rfl Sqz.auM ?_; (with_reducible refine (spec_l4Product.calls k _ _ l0 t318 _ ?side1 ?side2 A7.out).mono ?_); (case side1 => exact Sqz.mvC (HR0.out)); (case side2 => exact HC0.out); rintro e w' ⟨rfl, ⟨nd, rfl⟩⟩; refine ⟨_, rfl, ?_⟩) | ((with_reducible refine gate_callee (f := 131) rfl ?_); refine goesL_ (some 42) rfl rfl Try.func131 (by kernel_rfl) rfl #[.int .i64 t318, .int .i64 a1] rfl Sqz.auM ?_; (with_reducible refine (spec_l2Square.calls k t318 a1 false _ A14.out).mono ?_); rintro e w' ⟨rfl, ⟨nd, rfl⟩⟩; refine ⟨_, rfl, ?_⟩))
            go_ret
            exact ⟨Sqz.auS, by repeat (first | exact Drawn0.refl _ | apply Drawn0.step)⟩

/-! ### spec_l9At: function 88 -/
def spec_l9At.f (k : Nat) (l0 : List Int) (a1 : Int) (a2 : Int) : Option (Bool) := (some (([] : List Int) : List Int)).bind fun y325 => (if y325.length + l0.length < 17592186044416 then ((some (y325 ++ l0 : List Int)).bind fun y328 => (if y328.length < 17592186044416 then ((some (y328 ++ [wrap64 (-a1)] : List Int)).bind fun y331 => (if (l0.length : Int) < 4 then ((spec_l4Vanishes.f k y331 a2).bind fun t334 => (some t334)) else (if a2 > 0 then (some true) else ((spec_l4Less.f k y331).bind fun t335 => (if t335 > 0 then ((spec_l4Less.f k y331).bind fun t336 => (some (decide (t336 < 5)))) else (some false)))))) else (none))) else (none))
set_option maxHeartbeats 8000000 in
set_option maxRecDepth 100000 in
theorem spec_l9At.calls (k : Nat) (A0 : Option Addr) (c0 : Nat) (l0 : List Int) (a1 : Int) (a2 : Int) (r : Bool) (w : World) (hr0 : Kd.C (Kd.int .i64) w A0 l0.length l0) (hc0 : l0.length ≤ c0) (h : spec_l9At.f k l0 a1 a2 = some r) :
    Calls Try.prog 88 #[.slice A0 l0.length c0, .int .i64 a1, .int .i64 a2] w fun e w' => e = .returned (.bool r) ∧ Below w.heap.size w w' := by
  have HR0 := Aside0.mk hr0
  have HC0 := Aside0.mk hc0
  clear hr0 hc0
  have HB := Aside0.mk (Below.refl w.heap.size w)
  have H : ((some (([] : List Int) : List Int)).bind fun y325 => (if y325.length + l0.length < 17592186044416 then ((some (y325 ++ l0 : List Int)).bind fun y328 => (if y328.length < 17592186044416 then ((some (y328 ++ [wrap64 (-a1)] : List Int)).bind fun y331 => (if (l0.length : Int) < 4 then ((spec_l4Vanishes.f k y331 a2).bind fun t334 => (some t334)) else (if a2 > 0 then (some true) else ((spec_l4Less.f k y331).bind fun t335 => (if t335 > 0 then ((spec_l4Less.f k y331).bind fun t336 => (some (decide (t336 < 5)))) else (some false)))))) else (none))) else (none))) = some r := h
  clear h
  obtain ⟨y325, hy325⟩ : ∃ y_ : List Int, y_ = (([] : List Int)) := ⟨_, rfl⟩
  replace H : (if y325.length + l0.length < 17592186044416 then ((some (y325 ++ l0 : List Int)).bind fun y328 => (if y328.length < 17592186044416 then ((some (y328 ++ [wrap64 (-a1)] : List Int)).bind fun y331 => (if (l0.length : Int) < 4 then ((spec_l4Vanishes.f k y331 a2).bind fun t334 => (some t334)) else (if a2 > 0 then (some true) else ((spec_l4Less.f k y331).bind fun t335 => (if t335 > 0 then ((spec_l4Less.f k y331).bind fun t336 => (some (decide (t336 < 5)))) else (some false)))))) else (none))) else (none)) = some r := by first | (rw [hy325]; with_reducible exact H) | (have H2_ := (Option.bind_some _ _).symm.trans H; rw [hy325]; with_reducible exact H2_) | (have H2_ := (Option.bind_some _ _).symm.trans H; with_reducible exact H2_) | with_reducible exact H | (rw [hy325]; exact H) | exact H
  have Ny325 := Aside0.mk hy325
  clear hy325
  by_cases c4 : y325.length + l0.length < 17592186044416
  · rw [if_pos c4] at H
    have LMc4 := Aside0.mk c4
    clear c4
    obtain ⟨y328, hy328⟩ : ∃ y_ : List Int, y_ = (y325 ++ l0) := ⟨_, rfl⟩
    replace H : (if y328.length < 17592186044416 then ((some (y328 ++ [wrap64 (-a1)] : List Int)).bind fun y331 => (if (l0.length : Int) < 4 then ((spec_l4Vanishes.f k y331 a2).bind fun t334 => (some t334)) else (if a2 > 0 then (some true) else ((spec_l4Less.f k y331).bind fun t335 => (if t335 > 0 then ((spec_l4Less.f k y331).bind fun t336 => (some (decide (t336 < 5)))) else (some false)))))) else (none)) = some r := by first | (rw [hy328]; with_reducible exact H) | (have H2_ := (Option.bind_some _ _).symm.trans H; rw [hy328]; with_reducible exact H2_) | (have H2_ := (Option.bind_some _ _).symm.trans H; with_reducible exact H2_) | with_reducible exact H | (rw [hy328]; exact H) | exact H
    have Ny328 := Aside0.mk hy328
    clear hy328
    by_cases c5 : y328.length < 17592186044416
    · rw [if_pos c5] at H
      have LMc5 := Aside0.mk c5
      clear c5
      obtain ⟨y331, hy331⟩ : ∃ y_ : List Int, y_ = (y328 ++ [wrap64 (-a1)]) := ⟨_, rfl⟩
      replace H : (if (l0.length : Int) < 4 then ((spec_l4Vanishes.f k y331 a2).bind fun t334 => (some t334)) else (if a2 > 0 then (some true) else ((spec_l4Less.f k y331).bind fun t335 => (if t335 > 0 then ((spec_l4Less.f k y331).bind fun t336 => (some (decide (t336 < 5)))) else (some false))))) = some r := by first | (rw [hy331]; with_reducible exact H) | (have H2_ := (Option.bind_some _ _).symm.trans H; rw [hy331]; with_reducible exact H2_) | (have H2_ := (Option.bind_some _ _).symm.trans H; with_reducible exact H2_) | with_reducible exact H | (rw [hy331]; exact H) | exact H
      have Ny331 := Aside0.mk hy331
      clear hy331
      by_cases c6 : (l0.length : Int) < 4
      · rw [if_pos c6] at H
        have c6b0 : decide ((l0.length : Int) < 4) = true := decide_eq_true c6
        have c6b1 : decide (l0.length < 4) = true := decide_eq_true (by omega)
        clear c6
        replace H := Option.bind_eq_some_iff.mp H
        obtain ⟨t334, A70, H⟩ := H
        replace H : (some t334) = some r := H
        have A7 := Aside0.mk A70
        clear A70
        obtain rfl := Option.some.inj H
        go_enter Try.func88, Try.ntmps88
        go_wp2_with (first | ((with_reducible refine gate_dst (N := 8) rfl ?_); refine Kd.R_lit (Kd.int .i64) _ 3 ?hg (N := 8) ?hd (xs := ([] : List Int)) (inner := []) (ok := fun _ => True) (okp := fun _ => True) ?hr ?hp (fun _ hk => hk) trivial (Below.refl _ _) (Nat.le_refl _) (by simp) ?_; (case hd => rfl); (case hg => rfl); (case hr => first | (go_simp; done) | (go_simp; rfl)); (case hp => exact (Reps.none _ _)); intro v326 w8 ho9 hb hg_ hnew_; clear hg_ hnew_; (first | rw [← Ny325.out] at ho9 | (simp only [Int.reduceToNat] at ho9; rw [← Ny325.out] at ho9)); have n0_ := Aside0.mk (Kd.R_lower ho9 (below_size (Sqz.auHB))); have n1_ := Aside0.mk (below_step (Sqz.auHB) hb); clear HB; have HO327 := n0_; have HB := n1_; clear n0_ n1_; clear hb ho9) | ((with_reducible refine gate_builtin (b := .append) (xs := #[.tmp 8, .tmp 9]) rfl ?_); at_builtin; refine Kd.R_append_rows (Kd.int .i64) (w0 := w) w.heap.size rfl (.tmp 8) (.tmp 9) 25 3 (.int .i64 0) 8 rfl Try.underlying25 info3 rfl (by decide) (by omega) v326 y325 l0 _ _ _ (fun _ => True) (fun _ => False) rfl rfl ?aO ?aR (fun _ _ h => h) (fun _ h => h.elim) ?aF ?aB ?aS ?aL ?_; (case aR => exact Sqz.mvC ((Kd.C_below HR0.out HB.out))); (case aB => exact (Sqz.auHB)); (case aF => exact (fun _ _ => trivial)); (case aO => exact ((Sqz.mvR HO327.out))); (case aS => exact (below_size (Sqz.auHB))); (case aL => have := LMc4.out; omega); intro v329 w10 ho hb hg hat; rw [← Ny328.out] at ho; have n0_ := Aside0.mk (hb); have n1_ := Aside0.mk (ho); clear HB; clear HO327; have HB := n0_; have HO330 := n1_; clear n0_ n1_; clear ho hb hg hat) | ((with_reducible refine gate_builtin (b := .append) (xs := #[.tmp 10, .tmp 13]) rfl ?_); at_builtin; refine Kd.R_append (Kd.int .i64) (w0 := w) w.heap.size rfl (.tmp 10) (.tmp 13) 25 3 (.int .i64 0) 8 rfl Try.underlying25 info3 rfl (by decide) (by omega) v329 y328 (wrap64 (-a1)) [.int .i64 (wrap64 (-a1))] (fun _ => True) (fun _ => False) rfl rfl ?aP (fun _ hk => hk.elim) ?aF ?aO ?aB ?aS ?aL ?_; (case aP => exact rfl); (case aB => exact (Sqz.auHB)); (case aF => exact (fun _ _ => trivial)); (case aO => exact ((Sqz.mvR HO330.out))); (case aS => exact (below_size (Sqz.auHB))); (case aL => have := LMc5.out; omega); intro v332 w11 ho hb hg hat; rw [← Ny331.out] at ho; have n0_ := Aside0.mk (hb); have n1_ := Aside0.mk (ho); clear HB; clear HO330; have HB := n0_; have HO333 := n1_; clear n0_ n1_; clear ho hb hg hat; obtain ⟨Ao12, co12, eo12⟩ := Kd.R_slice HO333.out; subst eo12) | ((with_reducible refine gate_callee (f := 133) rfl ?_); refine goesL_ (some 20) rfl rfl Try.func133 (by kernel_rfl) rfl #[.slice Ao12 y331.length co12, .int .i64 a2] rfl Sqz.auM ?_; (with_reducible refine (spec_l4Vanishes.calls k _ _ y331 a2 t334 _ ?side1 ?side2 A7.out).mono ?_); (case side1 => exact Sqz.mvC ((Kd.R_reads' HO333.out).2.2)); (case side2 => exact (Kd.R_reads' HO333.out).2.1); rintro e w' ⟨rfl, ⟨nd, rfl⟩⟩; refine ⟨_, rfl, ?_⟩))
        go_ret
        exact ⟨Sqz.auR, Sqz.auHB⟩
      · rw [if_neg c6] at H
        have c6b0 : decide ((l0.length : Int) < 4) = false := decide_eq_false c6
        have c6b1 : decide (l0.length < 4) = false := decide_eq_false (by omega)
        clear c6
        by_cases c13 : a2 > 0
        · rw [if_pos c13] at H
          have c13b0 : decide (0 < a2) = true := decide_eq_true c13
          clear c13
          obtain rfl := Option.some.inj H
          go_enter Try.func88, Try.ntmps88
          go_wp2_with (first | ((with_reducible refine gate_dst (N := 8) rfl ?_); refine Kd.R_lit (Kd.int .i64) _ 3 ?hg (N := 8) ?hd (xs := ([] : List Int)) (inner := []) (ok := fun _ => True) (okp := fun _ => True) ?hr ?hp (fun _ hk => hk) trivial (Below.refl _ _) (Nat.le_refl _) (by simp) ?_; (case hd => rfl); (case hg => rfl); (case hr => first | (go_simp; done) | (go_simp; rfl)); (case hp => exact (Reps.none _ _)); intro v326 w14 ho15 hb hg_ hnew_; clear hg_ hnew_; (first | rw [← Ny325.out] at ho15 | (simp only [Int.reduceToNat] at ho15; rw [← Ny325.out] at ho15)); have n0_ := Aside0.mk (Kd.R_lower ho15 (below_size (Sqz.auHB))); have n1_ := Aside0.mk (below_step (Sqz.auHB) hb); clear HB; have HO327 := n0_; have HB := n1_; clear n0_ n1_; clear hb ho15) | ((with_reducible refine gate_builtin (b := .append) (xs := #[.tmp 8, .tmp 9]) rfl ?_); at_builtin; refine Kd.R_append_rows (Kd.int .i64) (w0 := w) w.heap.size rfl (.tmp 8) (.tmp 9) 25 3 (.int .i64 0) 8 rfl Try.underlying25 info3 rfl (by decide) (by omega) v326 y325 l0 _ _ _ (fun _ => True) (fun _ => False) rfl rfl ?aO ?aR (fun _ _ h => h) (fun _ h => h.elim) ?aF ?aB ?aS ?aL ?_; (case aR => exact Sqz.mvC ((Kd.C_below HR0.out HB.out))); (case aB => exact (Sqz.auHB)); (case aF => exact (fun _ _ => trivial)); (case aO => exact ((Sqz.mvR HO327.out))); (case aS => exact (below_size (Sqz.auHB))); (case aL => have := LMc4.out; omega); intro v329 w16 ho hb hg hat; rw [← Ny328.out] at ho; have n0_ := Aside0.mk (hb); have n1_ := Aside0.mk (ho); clear HB; clear HO327; have HB := n0_; have HO330 := n1_; clear n0_ n1_; clear ho hb hg hat) | ((with_reducible refine gate_builtin (b := .append) (xs := #[.tmp 10, .tmp 13]) rfl ?_); at_builtin; refine Kd.R_append (Kd.int .i64) (w0 := w) w.heap.size rfl (.tmp 10) (.tmp 13) 25 3 (.int .i64 0) 8 rfl Try.underlying25 info3 rfl (by decide) (by omega) v329 y328 (wrap64 (-a1)) [.int .i64 (wrap64 (-a1))] (fun _ => True) (fun _ => False) rfl rfl ?aP (fun _ hk => hk.elim) ?aF ?aO ?aB ?aS ?aL ?_; (case aP => exact rfl); (case aB => exact (Sqz.auHB)); (case aF => exact (fun _ _ => trivial)); (case aO => exact ((Sqz.mvR HO330.out))); (case aS => exact (below_size (Sqz.auHB))); (case aL => have := LMc5.out; omega); intro v332 w17 ho hb hg hat; rw [← Ny331.out] at ho; have n0_ := Aside0.mk (hb); have n1_ := Aside0.mk (ho); clear HB; clear HO330; have HB := n0_; have HO333 := n1_; clear n0_ n1_; clear ho hb hg hat))
          go_ret
          exact ⟨Sqz.auR, Sqz.auHB⟩
        · rw [if_neg c13] at H
          have c13b0 : decide (0 < a2) = false := decide_eq_false c13
          clear c13
          replace H := Option.bind_eq_some_iff.mp H
          obtain ⟨t335, A180, H⟩ := H
          replace H : (if t335 > 0 then ((spec_l4Less.f k y331).bind fun t336 => (some (decide (t336 < 5)))) else (some false)) = some r := H
          have A18 := Aside0.mk A180
          clear A180
          by_cases c19 : t335 > 0
          · rw [if_pos c19] at H
            have c19b0 : decide (0 < t335) = true := decide_eq_true c19
            clear c19
            replace H := Option.bind_eq_some_iff.mp H
            obtain ⟨t336, A200, H⟩ := H
            replace H : (some (decide (t336 < 5))) = some r := H
            have A20 := Aside0.mk A200
            obtain rfl : t335 = t336 := Option.some.inj (A18.out.symm.trans A20.out)
            clear A200
            obtain rfl := Option.some.inj H
            go_enter Try.func88, Try.ntmps88
            go_wp2_with (first | ((with_reducible refine gate_dst (N := 8) rfl ?_); refine Kd.R_lit (Kd.int .i64) _ 3 ?hg (N := 8) ?hd (xs := ([] : List Int)) (inner := []) (ok := fun _ => True) (okp := fun _ => True) ?hr ?hp (fun _ hk => hk) trivial (Below.refl _ _) (Nat.le_refl _) (by simp) ?_; (case hd => rfl); (case hg => rfl); (case hr => first | (go_simp; done) | (go_simp; rfl)); (case hp => exact (Reps.none _ _)); intro v326 w21 ho22 hb hg_ hnew_; clear hg_ hnew_; (first | rw [← Ny325.out] at ho22 | (simp only [Int.reduceToNat] at ho22; rw [← Ny325.out] at ho22)); have n0_ := Aside0.mk (Kd.R_lower ho22 (below_size (Sqz.auHB))); have n1_ := Aside0.mk (below_step (Sqz.auHB) hb); clear HB; have HO327 := n0_; have HB := n1_; clear n0_ n1_; clear hb ho22) | ((with_reducible refine gate_builtin (b := .append) (xs := #[.tmp 8, .tmp 9]) rfl ?_); at_builtin; refine Kd.R_append_rows (Kd.int .i64) (w0 := w) w.heap.size rfl (.tmp 8) (.tmp 9) 25 3 (.int .i64 0) 8 rfl Try.underlying25 info3 rfl (by decide) (by omega) v326 y325 l0 _ _ _ (fun _ => True) (fun _ => False) rfl rfl ?aO ?aR (fun _ _ h => h) (fun _ h => h.elim) ?aF ?aB ?aS ?aL ?_; (case aR => exact Sqz.mvC ((Kd.C_below HR0.out HB.out))); (case aB => exact (Sqz.auHB)); (case aF => exact (fun _ _ => trivial)); (case aO => exact ((Sqz.mvR HO327.out))); (case aS => exact (below_size (Sqz.auHB))); (case aL => have := LMc4.out; omega); intro v329 w23 ho hb hg hat; rw [← Ny328.out] at ho; have n0_ := Aside0.mk (hb); have n1_ := Aside0.mk (ho); clear HB; clear HO327; have HB := n0_; have HO330 := n1_; clear n0_ n1_; clear ho hb hg hat) | ((with_reducible refine gate_builtin (b := .append) (xs := #[.tmp 10, .tmp 13]) rfl ?_); at_builtin; refine Kd.R_append (Kd.int .i64) (w0 := w) w.heap.size rfl (.tmp 10) (.tmp 13) 25 3 (.int .i64 0) 8 rfl Try.underlying25 info3 rfl (by decide) (by omega) v329 y328 (wrap64 (-a1)) [.int .i64 (wrap64 (-a1))] (fun _ => True) (fun _ => False) rfl rfl ?aP (fun _ hk => hk.elim) ?aF ?aO ?aB ?aS ?aL ?_; (case aP => exact rfl); (case aB => exact (Sqz.auHB)); (case aF => exact (fun _ _ => trivial)); (case aO => exact ((Sqz.mvR HO330.out))); (case aS => exact (below_size (Sqz.auHB))); (case aL => have := LMc5.out; omega); intro v332 w24 ho hb hg hat; rw [← Ny331.out] at ho; have n0_ := Aside0.mk (hb); have n1_ := Aside0.mk (ho); clear HB; clear HO330; have HB := n0_; have HO333 := n1_; clear n0_ n1_; clear ho hb hg hat; obtain ⟨Ao25, co25, eo25⟩ := Kd.R_slice HO333.out; subst eo25) | (go_at_call 130; (with_reducible refine (spec_l4Less.calls k _ _ y331 t335 _ ?side1 ?side2 A18.out).mono ?_); (case side1 => exact Sqz.mvC ((Kd.R_reads' HO333.out).2.2)); (case side2 => exact (Kd.R_reads' HO333.out).2.1); rintro e w' ⟨rfl, ⟨nd, rfl⟩⟩) | (go_at_call 130; (with_reducible refine (spec_l4Less.calls k _ _ y331 t336 _ ?side1 ?side2 A20.out).mono ?_); (case side1 => exact Sqz.mvC ((Kd.R_reads' HO333.out).2.2)); (case side2 => exact (Kd.R_reads' HO333.out).2.1); rintro e w' ⟨rfl, ⟨nd, rfl⟩⟩))
            go_ret
            exact ⟨Sqz.auR, Sqz.auHB⟩
          · rw [if_neg c19] at H
            have c19b0 : decide (0 < t335) = false := decide_eq_false c19
            clear c19
            obtain rfl := Option.some.inj H
            go_enter Try.func88, Try.ntmps88
            go_wp2_with (first | ((with_reducible refine gate_dst (N := 8) rfl ?_); refine Kd.R_lit (Kd.int .i64) _ 3 ?hg (N := 8) ?hd (xs := ([] : List Int)) (inner := []) (ok := fun _ => True) (okp := fun _ => True) ?hr ?hp (fun _ hk => hk) trivial (Below.refl _ _) (Nat.le_refl _) (by simp) ?_; (case hd => rfl); (case hg => rfl); (case hr => first | (go_simp; done) | (go_simp; rfl)); (case hp => exact (Reps.none _ _)); intro v326 w26 ho27 hb hg_ hnew_; clear hg_ hnew_; (first | rw [← Ny325.out] at ho27 | (simp only [Int.reduceToNat] at ho27; rw [← Ny325.out] at ho27)); have n0_ := Aside0.mk (Kd.R_lower ho27 (below_size (Sqz.auHB))); have n1_ := Aside0.mk (below_step (Sqz.auHB) hb); clear HB; have HO327 := n0_; have HB := n1_; clear n0_ n1_; clear hb ho27) | ((with_reducible refine gate_builtin (b := .append) (xs := #[.tmp 8, .tmp 9]) rfl ?_); at_builtin; refine Kd.R_append_rows (Kd.int .i64) (w0 := w) w.heap.size rfl (.tmp 8) (.tmp 9) 25 3 (.int .i64 0) 8 rfl Try.underlying25 info3 rfl (by decide) (by omega) v326 y325 l0 _ _ _ (fun _ => True) (fun _ => False) rfl rfl ?aO ?aR (fun _ _ h => h) (fun _ h => h.elim) ?aF ?aB ?aS ?aL ?_; (case aR => exact Sqz.mvC ((Kd.C_below HR0.out HB.out))); (case aB => exact (Sqz.auHB)); (case aF => exact (fun _ _ => trivial)); (case aO => exact ((Sqz.mvR HO327.out))); (case aS => exact (below_size (Sqz.auHB))); (case aL => have := LMc4.out; omega); intro v329 w28 ho hb hg hat; rw [← Ny328.out] at ho; have n0_ := Aside0.mk (hb); have n1_ := Aside0.mk (ho); clear HB; clear HO327; have HB := n0_; have HO330 := n1_; clear n0_ n1_; clear ho hb hg hat) | ((with_reducible refine gate_builtin (b := .append) (xs := #[.tmp 10, .tmp 13]) rfl ?_); at_builtin; refine Kd.R_append (Kd.int .i64) (w0 := w) w.heap.size rfl (.tmp 10) (.tmp 13) 25 3 (.int .i64 0) 8 rfl Try.underlying25 info3 rfl (by decide) (by omega) v329 y328 (wrap64 (-a1)) [.int .i64 (wrap64 (-a1))] (fun _ => True) (fun _ => False) rfl rfl ?aP (fun _ hk => hk.elim) ?aF ?aO ?aB ?aS ?aL ?_; (case aP => exact rfl); (case aB => exact (Sqz.auHB)); (case aF => exact (fun _ _ => trivial)); (case aO => exact ((Sqz.mvR HO330.out))); (case aS => exact (below_size (Sqz.auHB))); (case aL => have := LMc5.out; omega); intro v332 w29 ho hb hg hat; rw [← Ny331.out] at ho; have n0_ := Aside0.mk (hb); have n1_ := Aside0.mk (ho); clear HB; clear HO330; have HB := n0_; have HO333 := n1_; clear n0_ n1_; clear ho hb hg hat; obtain ⟨Ao30, co30, eo30⟩ := Kd.R_slice HO333.out; subst eo30) | (go_at_call 130; (with_reducible refine (spec_l4Less.calls k _ _ y331 t335 _ ?side1 ?side2 A18.out).mono ?_); (case side1 => exact Sqz.mvC ((Kd.R_reads' HO333.out).2.2)); (case side2 => exact (Kd.R_reads' HO333.out).2.1); rintro e w' ⟨rfl, ⟨nd, rfl⟩⟩))
            go_ret
            exact ⟨Sqz.auR, Sqz.auHB⟩
    · rw [if_neg c5] at H
      exact absurd H (by simp)
  · rw [if_neg c4] at H
    exact absurd H (by simp)

/-! ### spec_l1None: function 137 -/
def spec_l1None.l0 : Nat → Int → Int → Option (Int)
  | 0, _, _ => none
  | k + 1, x0, x3 => (spec_l1Residue.f k x3 x0).bind fun t337 => (if t337 = (-1) then (some x3) else (spec_l1None.l0 k x0 (wrap64 (x3 + 1))))
def spec_l1None.f (k : Nat) (a0 : Int) : Option (Int) := spec_l1None.l0 k a0 2
set_option maxHeartbeats 8000000 in
set_option maxRecDepth 100000 in
theorem spec_l1None.calls (k : Nat) (a0 : Int) (r : Int) (w : World) (h : spec_l1None.f k a0 = some r) :
    Calls Try.prog 137 #[.int .i64 a0] w fun e w' => e = .returned (.int .i64 r) ∧ Drawn0 w w' := by
  have H : (spec_l1None.l0 k a0 2) = some r := h
  clear h
  have H' := Aside0.mk H
  clear H
  go_enter Try.func137, Try.ntmps137
  go_wp2
  go_loopg [3] k (fun kq v3 w' => ∃ (x3_1 : Int), v3 = .int .i64 x3_1 ∧ Aside0 (spec_l1None.l0 kq a0 x3_1 = some r) ∧ Aside0 (kq ≤ k) ∧ Drawn0 w w')
  case atStart => exact ⟨(2), Sqz.auS, H', ⟨Nat.le_refl _⟩, by repeat (first | exact Drawn0.refl _ | apply Drawn0.step)⟩
  case round =>
    clear H'
    try clear c1
    obtain ⟨x3_1, rfl, HA, HK1, ⟨m1, rfl⟩⟩ := hrel
    cases gk with
    | zero => exact absurd HA.out (by simp [spec_l1None.l0])
    | succ k1 =>
      have H := HA.out
      clear HA
      simp only [spec_l1None.l0] at H
      replace H := Option.bind_eq_some_iff.mp H
      obtain ⟨t337, A20, H⟩ := H
      replace H : (if t337 = (-1) then (some x3_1) else (spec_l1None.l0 k1 a0 (wrap64 (x3_1 + 1)))) = some r := H
      have A2 := Aside0.mk A20
      clear A20
      by_cases c3 : t337 = (-1)
      · rw [if_pos c3] at H
        have c3b0 : (t337 == (-1)) = true := beq_iff_eq.mpr c3
        have c3b1 : (t337 != (-1)) = false := bne_eq_false_iff_eq.mpr c3
        clear c3
        obtain rfl := Option.some.inj H
        go_wp2_with (first | ((with_reducible refine gate_callee (f := 149) rfl ?_); refine goesL_ (some 6) rfl rfl Try.func149 (by kernel_rfl) rfl #[.int .i64 x3_1, .int .i64 a0] rfl Sqz.auM ?_; (with_reducible refine (spec_l1Residue.calls k1 x3_1 a0 t337 _ A2.out).mono ?_); rintro e w' ⟨rfl, ⟨nd, rfl⟩⟩; refine ⟨_, rfl, ?_⟩))
        go_ret
        exact ⟨Sqz.auS, by repeat (first | exact Drawn0.refl _ | apply Drawn0.step)⟩
      · rw [if_neg c3] at H
        have c3b0 : (t337 == (-1)) = false := beq_eq_false_iff_ne.mpr c3
        have c3b1 : (t337 != (-1)) = true := bne_iff_ne.mpr c3
        have H' := Aside0.mk H
        clear H
        go_wp2_with (first | ((with_reducible refine gate_callee (f := 149) rfl ?_); refine goesL_ (some 6) rfl rfl Try.func149 (by kernel_rfl) rfl #[.int .i64 x3_1, .int .i64 a0] rfl Sqz.auM ?_; (with_reducible refine (spec_l1Residue.calls k1 x3_1 a0 t337 _ A2.out).mono ?_); rintro e w' ⟨rfl, ⟨nd, rfl⟩⟩; refine ⟨_, rfl, ?_⟩))
        go_roundg k1
        case measure => have := HK1.out; omega
        case rel => exact ⟨(wrap64 (x3_1 + 1)), Sqz.auS, H', ⟨by have := HK1.out; omega⟩, by repeat (first | exact Drawn0.refl _ | apply Drawn0.step)⟩

/-! ### spec_l2Names: function 94 -/
def spec_l2Names.f (k : Nat) (a0 : Int) : Option (List Int) := if a0 = 0 then (some (([1, (-1)] : List Int))) else (if a0 = 2 then (some (([1, 3, 5, 7, 2, 6, 10, 14] : List Int))) else ((spec_l1None.f k a0).bind fun t344 => (some (([1, t344, a0, wrap64 (a0 * t344)] : List Int)))))
set_option maxHeartbeats 8000000 in
set_option maxRecDepth 100000 in
theorem spec_l2Names.calls (k : Nat) (a0 : Int) (r : List Int) (w : World) (h : spec_l2Names.f k a0 = some r) :
    Calls Try.prog 94 #[.int .i64 a0] w fun e w' => ∃ v0_ : Value, e = .returned (v0_) ∧ Kd.R (Kd.int .i64) 3 w' w.heap.size (fun _ => True) v0_ r ∧ Below w.heap.size w w' := by
  have HB := Aside0.mk (Below.refl w.heap.size w)
  have H : (if a0 = 0 then (some (([1, (-1)] : List Int))) else (if a0 = 2 then (some (([1, 3, 5, 7, 2, 6, 10, 14] : List Int))) else ((spec_l1None.f k a0).bind fun t344 => (some (([1, t344, a0, wrap64 (a0 * t344)] : List Int)))))) = some r := h
  clear h
  by_cases c2 : a0 = 0
  · rw [if_pos c2] at H
    have c2b0 : (a0 == 0) = true := beq_iff_eq.mpr c2
    have c2b1 : (a0 != 0) = false := bne_eq_false_iff_eq.mpr c2
    clear c2
    obtain ⟨y338, hy338⟩ : ∃ y_ : List Int, y_ = (([1, (-1)] : List Int)) := ⟨_, rfl⟩
    replace H : (some y338) = some r := by first | (rw [hy338]; with_reducible exact H) | (have H2_ := (Option.bind_some _ _).symm.trans H; rw [hy338]; with_reducible exact H2_) | (have H2_ := (Option.bind_some _ _).symm.trans H; with_reducible exact H2_) | with_reducible exact H | (rw [hy338]; exact H) | exact H
    have Ny338 := Aside0.mk hy338
    clear hy338
    obtain rfl := Option.some.inj H
    go_enter Try.func94, Try.ntmps94
    go_wp2_with (first | ((with_reducible refine gate_dst (N := 7) rfl ?_); refine Kd.R_lit (Kd.int .i64) _ 3 ?hg (N := 7) ?hd (xs := ([1, (-1)] : List Int)) (inner := [.int .i64 1, .int .i64 (-1)]) (ok := fun _ => True) (okp := fun _ => True) ?hr ?hp (fun _ hk => hk) trivial (Below.refl _ _) (Nat.le_refl _) (by simp) ?_; (case hd => rfl); (case hg => rfl); (case hr => first | (go_simp; done) | (go_simp; rfl)); (case hp => exact (Reps.one (show Kd.M (Kd.int .i64) _ _ _ 1 [.int .i64 1] from rfl) (Reps.one (show Kd.M (Kd.int .i64) _ _ _ (-1) [.int .i64 (-1)] from rfl) (Reps.none _ _)))); intro v339 w3 ho4 hb hg_ hnew_; clear hg_ hnew_; (first | rw [← Ny338.out] at ho4 | (simp only [Int.reduceToNat] at ho4; rw [← Ny338.out] at ho4)); have n0_ := Aside0.mk (Kd.R_lower ho4 (below_size (Sqz.auHB))); have n1_ := Aside0.mk (below_step (Sqz.auHB) hb); clear HB; have HO340 := n0_; have HB := n1_; clear n0_ n1_; clear hb ho4))
    go_ret
    exact ⟨_, Sqz.auR, (Sqz.mvR HO340.out), Sqz.auHB⟩
  · rw [if_neg c2] at H
    have c2b0 : (a0 == 0) = false := beq_eq_false_iff_ne.mpr c2
    have c2b1 : (a0 != 0) = true := bne_iff_ne.mpr c2
    by_cases c5 : a0 = 2
    · rw [if_pos c5] at H
      have c5b0 : (a0 == 2) = true := beq_iff_eq.mpr c5
      have c5b1 : (a0 != 2) = false := bne_eq_false_iff_eq.mpr c5
      clear c5
      obtain ⟨y341, hy341⟩ : ∃ y_ : List Int, y_ = (([1, 3, 5, 7, 2, 6, 10, 14] : List Int)) := ⟨_, rfl⟩
      replace H : (some y341) = some r := by first | (rw [hy341]; with_reducible exact H) | (have H2_ := (Option.bind_some _ _).symm.trans H; rw [hy341]; with_reducible exact H2_) | (have H2_ := (Option.bind_some _ _).symm.trans H; with_reducible exact H2_) | with_reducible exact H | (rw [hy341]; exact H) | exact H
      have Ny341 := Aside0.mk hy341
      clear hy341
      obtain rfl := Option.some.inj H
      go_enter Try.func94, Try.ntmps94
      go_wp2_with (first | ((with_reducible refine gate_dst (N := 10) rfl ?_); refine Kd.R_lit (Kd.int .i64) _ 3 ?hg (N := 10) ?hd (xs := ([1, 3, 5, 7, 2, 6, 10, 14] : List Int)) (inner := [.int .i64 1, .int .i64 3, .int .i64 5, .int .i64 7, .int .i64 2, .int .i64 6, .int .i64 10, .int .i64 14]) (ok := fun _ => True) (okp := fun _ => True) ?hr ?hp (fun _ hk => hk) trivial (Below.refl _ _) (Nat.le_refl _) (by simp) ?_; (case hd => rfl); (case hg => rfl); (case hr => first | (go_simp; done) | (go_simp; rfl)); (case hp => exact (Reps.one (show Kd.M (Kd.int .i64) _ _ _ 1 [.int .i64 1] from rfl) (Reps.one (show Kd.M (Kd.int .i64) _ _ _ 3 [.int .i64 3] from rfl) (Reps.one (show Kd.M (Kd.int .i64) _ _ _ 5 [.int .i64 5] from rfl) (Reps.one (show Kd.M (Kd.int .i64) _ _ _ 7 [.int .i64 7] from rfl) (Reps.one (show Kd.M (Kd.int .i64) _ _ _ 2 [.int .i64 2] from rfl) (Reps.one (show Kd.M (Kd.int .i64) _ _ _ 6 [.int .i64 6] from rfl) (Reps.one (show Kd.M (Kd.int .i64) _ _ _ 10 [.int .i64 10] from rfl) (Reps.one (show Kd.M (Kd.int .i64) _ _ _ 14 [.int .i64 14] from rfl) (Reps.none _ _)))))))))); intro v342 w6 ho7 hb hg_ hnew_; clear hg_ hnew_; (first | rw [← Ny341.out] at ho7 | (simp only [Int.reduceToNat] at ho7; rw [← Ny341.out] at ho7)); have n0_ := Aside0.mk (Kd.R_lower ho7 (below_size (Sqz.auHB))); have n1_ := Aside0.mk (below_step (Sqz.auHB) hb); clear HB; have HO343 := n0_; have HB := n1_; clear n0_ n1_; clear hb ho7))
      go_ret
      exact ⟨_, Sqz.auR, (Sqz.mvR HO343.out), Sqz.auHB⟩
    · rw [if_neg c5] at H
      have c5b0 : (a0 == 2) = false := beq_eq_false_iff_ne.mpr c5
      have c5b1 : (a0 != 2) = true := bne_iff_ne.mpr c5
      replace H := Option.bind_eq_some_iff.mp H
      obtain ⟨t344, A80, H⟩ := H
      replace H : (some (([1, t344, a0, wrap64 (a0 * t344)] : List Int))) = some r := H
      have A8 := Aside0.mk A80
      clear A80
      obtain ⟨y345, hy345⟩ : ∃ y_ : List Int, y_ = (([1, t344, a0, wrap64 (a0 * t344)] : List Int)) := ⟨_, rfl⟩
      replace H : (some y345) = some r := by first | (rw [hy345]; with_reducible exact H) | (have H2_ := (Option.bind_some _ _).symm.trans H; rw [hy345]; with_reducible exact H2_) | (have H2_ := (Option.bind_some _ _).symm.trans H; with_reducible exact H2_) | with_reducible exact H | (rw [hy345]; exact H) | exact H
      have Ny345 := Aside0.mk hy345
      clear hy345
      obtain rfl := Option.some.inj H
      go_enter Try.func94, Try.ntmps94
      go_wp2_with (first | ((with_reducible refine gate_callee (f := 137) rfl ?_); refine goesL_ (some 12) rfl rfl Try.func137 (by kernel_rfl) rfl #[.int .i64 a0] rfl Sqz.auM ?_; (with_reducible refine (spec_l1None.calls k a0 t344 _ A8.out).mono ?_); rintro e w' ⟨rfl, ⟨nd, rfl⟩⟩; refine ⟨_, rfl, ?_⟩) | ((with_reducible refine gate_dst (N := 18) rfl ?_); refine Kd.R_lit (Kd.int .i64) _ 3 ?hg (N := 18) ?hd (xs := ([1, t344, a0, wrap64 (a0 * t344)] : List Int)) (inner := [.int .i64 1, .int .i64 t344, .int .i64 a0, .int .i64 (wrap64 (a0 * t344))]) (ok := fun _ => True) (okp := fun _ => True) ?hr ?hp (fun _ hk => hk) trivial (Below.refl _ _) (Nat.le_refl _) (by simp) ?_; (case hd => rfl); (case hg => rfl); (case hr => first | (go_simp; done) | (go_simp; rfl)); (case hp => exact (Reps.one (show Kd.M (Kd.int .i64) _ _ _ 1 [.int .i64 1] from rfl) (Reps.one (show Kd.M (Kd.int .i64) _ _ _ t344 [.int .i64 t344] from rfl) (Reps.one (show Kd.M (Kd.int .i64) _ _ _ a0 [.int .i64 a0] from rfl) (Reps.one (show Kd.M (Kd.int .i64) _ _ _ (wrap64 (a0 * t344)) [.int .i64 (wrap64 (a0 * t344))] from rfl) (Reps.none _ _)))))); intro v346 w9 ho10 hb hg_ hnew_; clear hg_ hnew_; (first | rw [← Ny345.out] at ho10 | (simp only [Int.reduceToNat] at ho10; rw [← Ny345.out] at ho10)); have n0_ := Aside0.mk (Kd.R_lower ho10 (below_size (Sqz.auHB))); have n1_ := Aside0.mk (below_step (Sqz.auHB) hb); clear HB; have HO347 := n0_; have HB := n1_; clear n0_ n1_; clear hb ho10))
      go_ret
      exact ⟨_, Sqz.auR, (Sqz.mvR HO347.out), Sqz.auHB⟩

/-! ### spec_ValueClasses: function 36 -/
mutual
def spec_ValueClasses.j0 : Nat → List Int → Int → List Int → Bool → Option (List Int)
  | 0, _, _, _, _ => none
  | k + 1, x0, x1, x5, x16 => if x16 = true then (some x5) else ((spec_l2Names.f k x1).bind fun t353 => (spec_ValueClasses.l0 k x0 x1 x5 t353 0))
def spec_ValueClasses.l0 : Nat → List Int → Int → List Int → List Int → Int → Option (List Int)
  | 0, _, _, _, _, _ => none
  | k + 1, x0, x1, x5, x6, x7 => if x7 < (x6.length : Int) then (if 0 ≤ x7 then ((spec_l9Number.f (rd x6 x7)).bind fun t357 => (if t357 = true then ((spec_l9At.f k x0 (rd x6 x7) x1).bind fun t359 => (if t359 = true then (if x5.length < 17592186044416 then (spec_ValueClasses.l0 k x0 x1 (x5 ++ [rd x6 x7]) x6 (wrap64 (x7 + 1))) else (none)) else (spec_ValueClasses.l0 k x0 x1 x5 x6 (wrap64 (x7 + 1))))) else (spec_ValueClasses.l0 k x0 x1 x5 x6 (wrap64 (x7 + 1))))) else (none)) else (some x5)
end
def spec_ValueClasses.f (k : Nat) (l0 : List Int) (a1 : Int) : Option (List Int) := (some (([] : List Int) : List Int)).bind fun y348 => ((spec_FormValid.f k l0).bind fun t351 => (if t351 = true then ((spec_PlaceValid.f k a1).bind fun t352 => (spec_ValueClasses.j0 k l0 a1 y348 (!t352))) else (spec_ValueClasses.j0 k l0 a1 y348 true)))
set_option maxHeartbeats 8000000 in
set_option maxRecDepth 100000 in
theorem spec_ValueClasses.calls (k : Nat) (A0 : Option Addr) (c0 : Nat) (l0 : List Int) (a1 : Int) (r : List Int) (w : World) (hr0 : Kd.C (Kd.int .i64) w A0 l0.length l0) (hc0 : l0.length ≤ c0) (h : spec_ValueClasses.f k l0 a1 = some r) :
    Calls Try.prog 36 #[.slice A0 l0.length c0, .int .i64 a1] w fun e w' => ∃ v0_ : Value, e = .returned (v0_) ∧ Kd.R (Kd.int .i64) 3 w' w.heap.size (fun _ => True) v0_ r ∧ Below w.heap.size w w' := by
  have HR0 := Aside0.mk hr0
  have HC0 := Aside0.mk hc0
  clear hr0 hc0
  have HB := Aside0.mk (Below.refl w.heap.size w)
  have H : ((some (([] : List Int) : List Int)).bind fun y348 => ((spec_FormValid.f k l0).bind fun t351 => (if t351 = true then ((spec_PlaceValid.f k a1).bind fun t352 => (spec_ValueClasses.j0 k l0 a1 y348 (!t352))) else (spec_ValueClasses.j0 k l0 a1 y348 true)))) = some r := h
  clear h
  obtain ⟨y348, hy348⟩ : ∃ y_ : List Int, y_ = (([] : List Int)) := ⟨_, rfl⟩
  replace H : ((spec_FormValid.f k l0).bind fun t351 => (if t351 = true then ((spec_PlaceValid.f k a1).bind fun t352 => (spec_ValueClasses.j0 k l0 a1 y348 (!t352))) else (spec_ValueClasses.j0 k l0 a1 y348 true))) = some r := by first | (rw [hy348]; with_reducible exact H) | (have H2_ := (Option.bind_some _ _).symm.trans H; rw [hy348]; with_reducible exact H2_) | (have H2_ := (Option.bind_some _ _).symm.trans H; with_reducible exact H2_) | with_reducible exact H | (rw [hy348]; exact H) | exact H
  have Ny348 := Aside0.mk hy348
  clear hy348
  have HC3 := Aside0.mk H
  clear H
  go_enter Try.func36, Try.ntmps36
  go_upto_region 2 with (first | ((with_reducible refine gate_dst (N := 8) rfl ?_); refine Kd.R_lit (Kd.int .i64) _ 3 ?hg (N := 8) ?hd (xs := ([] : List Int)) (inner := []) (ok := fun _ => True) (okp := fun _ => True) ?hr ?hp (fun _ hk => hk) trivial (Below.refl _ _) (Nat.le_refl _) (by simp) ?_; (case hd => rfl); (case hg => rfl); (case hr => first | (go_simp; done) | (go_simp; rfl)); (case hp => exact (Reps.none _ _)); intro v349 w4 ho5 hb hg_ hnew_; clear hg_ hnew_; (first | rw [← Ny348.out] at ho5 | (simp only [Int.reduceToNat] at ho5; rw [← Ny348.out] at ho5)); have n0_ := Aside0.mk (Kd.R_lower ho5 (below_size (Sqz.auHB))); have n1_ := Aside0.mk (below_step (Sqz.auHB) hb); clear HB; have HO350 := n0_; have HB := n1_; clear n0_ n1_; clear hb ho5))
  (try simp only [Act.put, List.setIfInBounds_toArray, List.set_cons_zero, List.set_cons_succ])
  go_cut [16] (fun v16 wc => ∃ (kq : Nat) (x16_2 : Bool), v16 = .bool x16_2 ∧ Aside0 (spec_ValueClasses.j0 kq l0 a1 y348 x16_2 = some r) ∧ Aside0 (kq ≤ k) ∧ Aside0 (Kd.R (Kd.int .i64) 3 wc w.heap.size (fun _ => True) v349 y348) ∧ Aside0 (Below w.heap.size w wc))
  case first =>
    have H := HC3.out
    clear HC3
    replace H := Option.bind_eq_some_iff.mp H
    obtain ⟨t351, A60, H⟩ := H
    replace H : (if t351 = true then ((spec_PlaceValid.f k a1).bind fun t352 => (spec_ValueClasses.j0 k l0 a1 y348 (!t352))) else (spec_ValueClasses.j0 k l0 a1 y348 true)) = some r := H
    have A6 := Aside0.mk A60
    clear A60
    by_cases c7 : t351 = true
    · subst c7
      have H1 : ((spec_PlaceValid.f k a1).bind fun t352 => (spec_ValueClasses.j0 k l0 a1 y348 (!t352))) = some r := by rw [if_pos rfl] at H; exact H
      clear H
      have H := H1
      clear H1
      replace H := Option.bind_eq_some_iff.mp H
      obtain ⟨t352, A80, H⟩ := H
      replace H : (spec_ValueClasses.j0 k l0 a1 y348 (!t352)) = some r := H
      have A8 := Aside0.mk A80
      clear A80
      have H' := Aside0.mk H
      clear H
      go_wp2_with (first | ((with_reducible refine gate_callee (f := 86) rfl ?_); refine goesL_ (some 10) rfl rfl Try.func86 (by kernel_rfl) rfl #[.slice A0 l0.length c0] rfl Sqz.auM ?_; (with_reducible refine (spec_FormValid.calls k _ _ l0 true _ ?side1 ?side2 A6.out).mono ?_); (case side1 => exact Sqz.mvC ((Kd.C_below HR0.out HB.out))); (case side2 => exact HC0.out); rintro e w' ⟨rfl, ⟨nd, rfl⟩⟩; refine ⟨_, rfl, ?_⟩) | (go_at_call 79; (with_reducible refine (spec_PlaceValid.calls k a1 t352 _ A8.out).mono ?_); rintro e w' ⟨rfl, ⟨nd, rfl⟩⟩))
      go_meet
      case rel => exact ⟨_, (!t352), Sqz.auS, H', ⟨Sqz.auN⟩, ⟨(Sqz.mvR HO350.out)⟩, ⟨Sqz.auHB⟩⟩
    · replace c7 := Bool.eq_false_iff.mpr c7
      subst c7
      have H1 : (spec_ValueClasses.j0 k l0 a1 y348 true) = some r := by rw [if_neg (show ¬ (false = true) by decide)] at H; exact H
      clear H
      have H := H1
      clear H1
      have H' := Aside0.mk H
      clear H
      go_wp2_with (first | ((with_reducible refine gate_callee (f := 86) rfl ?_); refine goesL_ (some 10) rfl rfl Try.func86 (by kernel_rfl) rfl #[.slice A0 l0.length c0] rfl Sqz.auM ?_; (with_reducible refine (spec_FormValid.calls k _ _ l0 false _ ?side1 ?side2 A6.out).mono ?_); (case side1 => exact Sqz.mvC ((Kd.C_below HR0.out HB.out))); (case side2 => exact HC0.out); rintro e w' ⟨rfl, ⟨nd, rfl⟩⟩; refine ⟨_, rfl, ?_⟩))
      go_meet
      case rel => exact ⟨_, (true), Sqz.auS, H', ⟨Sqz.auN⟩, ⟨(Sqz.mvR HO350.out)⟩, ⟨Sqz.auHB⟩⟩
  case rest =>
    clear HC3
    try clear p2
    try clear c3
    try clear c7
    try clear c8
    obtain ⟨kq, x16_2, rfl, HA, HJ2, HO_5, HB⟩ := hcut
    cases kq with
    | zero => exact absurd HA.out (by simp [spec_ValueClasses.j0])
    | succ kj2 =>
      have H := HA.out
      clear HA
      simp only [spec_ValueClasses.j0] at H
      by_cases c9 : x16_2 = true
      · subst c9
        have H1 : (some y348) = some r := by rw [if_pos rfl] at H; exact H
        clear H
        have H := H1
        clear H1
        obtain rfl := Option.some.inj H
        go_wp2
        go_ret
        exact ⟨_, Sqz.auR, (Sqz.mvR HO_5.out), Sqz.auHB⟩
      · replace c9 := Bool.eq_false_iff.mpr c9
        subst c9
        have H1 : ((spec_l2Names.f kj2 a1).bind fun t353 => (spec_ValueClasses.l0 kj2 l0 a1 y348 t353 0)) = some r := by rw [if_neg (show ¬ (false = true) by decide)] at H; exact H
        clear H
        have H := H1
        clear H1
        replace H := Option.bind_eq_some_iff.mp H
        obtain ⟨t353, A100, H⟩ := H
        replace H : (spec_ValueClasses.l0 kj2 l0 a1 y348 t353 0) = some r := H
        have A10 := Aside0.mk A100
        clear A100
        have H' := Aside0.mk H
        clear H
        go_wp2_with (first | ((with_reducible refine gate_callee (f := 94) rfl ?_); refine goesL_ (some 19) rfl rfl Try.func94 (by kernel_rfl) rfl #[.int .i64 a1] rfl Sqz.auM ?_; (with_reducible refine (spec_l2Names.calls kj2 a1 t353 _ A10.out).mono ?_); rintro e w11 ⟨v354, rfl, ho0, hb⟩; refine ⟨_, rfl, ?_⟩; have n0_ := Aside0.mk (Kd.R_elder' ((Sqz.mvR HO_5.out)) (Kd.R_base ho0) hb); have n1_ := Aside0.mk (Kd.R_lower (Kd.R_new' ho0 (Kd.R_lt ((Sqz.mvR HO_5.out)))) (below_size (Sqz.auHB))); have n2_ := Aside0.mk (below_step (Sqz.auHB) hb); clear HO_5; clear HB; have HO_5 := n0_; have HO355 := n1_; have HB := n2_; clear n0_ n1_ n2_; (try clear hb); (try clear hb2); (try clear hk); (try clear hi); (try clear ho0)))
        go_loopg [5, 7] kj2 (fun kq v5 v7 w' => ∃ (x5_2 : List Int) (x7_2 : Int), v7 = .int .i64 x7_2 ∧ Aside0 (spec_ValueClasses.l0 kq l0 a1 x5_2 t353 x7_2 = some r) ∧ Aside0 (kq ≤ kj2) ∧ Aside0 (Kd.R (Kd.int .i64) 3 w' w.heap.size (fun k_ => some k_ ≠ (v354 : Value).ownBlock) v5 x5_2) ∧ Aside0 (Kd.R (Kd.int .i64) 3 w' w.heap.size (fun k_ => some k_ ≠ (v5 : Value).ownBlock) v354 t353) ∧ Aside0 (Below w.heap.size w w'))
        case atStart => exact ⟨(y348), (0), Sqz.auS, H', ⟨Nat.le_refl _⟩, ⟨(Sqz.mvR (Kd.R_mono HO_5.out (fun _ hk => hk.2)))⟩, ⟨(Sqz.mvR (Kd.R_mono HO355.out (fun _ hk => hk.2)))⟩, ⟨Sqz.auHB⟩⟩
        case round =>
          clear H'
          try clear p2
          try clear c3
          try clear c7
          try clear c8
          try clear c9
          try clear p2
          obtain ⟨x5_2, x7_2, rfl, HA, HK2, HO_5, HO_6, HB⟩ := hrel
          cases gk with
          | zero => exact absurd HA.out (by simp [spec_ValueClasses.l0])
          | succ k2 =>
            have H := HA.out
            clear HA
            simp only [spec_ValueClasses.l0] at H
            by_cases c12 : x7_2 < (t353.length : Int)
            · rw [if_pos c12] at H
              have c12b0 : decide (x7_2 < (t353.length : Int)) = true := decide_eq_true c12
              clear c12
              by_cases c13 : 0 ≤ x7_2
              · rw [if_pos c13] at H
                have c13b0 : decide (0 ≤ x7_2) = true := decide_eq_true c13
                clear c13
                replace H := Option.bind_eq_some_iff.mp H
                obtain ⟨t357, A140, H⟩ := H
                replace H : (if t357 = true then ((spec_l9At.f k2 l0 (rd t353 x7_2) a1).bind fun t359 => (if t359 = true then (if x5_2.length < 17592186044416 then (spec_ValueClasses.l0 k2 l0 a1 (x5_2 ++ [rd t353 x7_2]) t353 (wrap64 (x7_2 + 1))) else (none)) else (spec_ValueClasses.l0 k2 l0 a1 x5_2 t353 (wrap64 (x7_2 + 1))))) else (spec_ValueClasses.l0 k2 l0 a1 x5_2 t353 (wrap64 (x7_2 + 1)))) = some r := H
                have A14 := Aside0.mk A140
                clear A140
                by_cases c15 : t357 = true
                · subst c15
                  have H1 : ((spec_l9At.f k2 l0 (rd t353 x7_2) a1).bind fun t359 => (if t359 = true then (if x5_2.length < 17592186044416 then (spec_ValueClasses.l0 k2 l0 a1 (x5_2 ++ [rd t353 x7_2]) t353 (wrap64 (x7_2 + 1))) else (none)) else (spec_ValueClasses.l0 k2 l0 a1 x5_2 t353 (wrap64 (x7_2 + 1))))) = some r := by rw [if_pos rfl] at H; exact H
                  clear H
                  have H := H1
                  clear H1
                  replace H := Option.bind_eq_some_iff.mp H
                  obtain ⟨t359, A160, H⟩ := H
                  replace H : (if t359 = true then (if x5_2.length < 17592186044416 then (spec_ValueClasses.l0 k2 l0 a1 (x5_2 ++ [rd t353 x7_2]) t353 (wrap64 (x7_2 + 1))) else (none)) else (spec_ValueClasses.l0 k2 l0 a1 x5_2 t353 (wrap64 (x7_2 + 1)))) = some r := H
                  have A16 := Aside0.mk A160
                  clear A160
                  by_cases c17 : t359 = true
                  · subst c17
                    have H1 : (if x5_2.length < 17592186044416 then (spec_ValueClasses.l0 k2 l0 a1 (x5_2 ++ [rd t353 x7_2]) t353 (wrap64 (x7_2 + 1))) else (none)) = some r := by rw [if_pos rfl] at H; exact H
                    clear H
                    have H := H1
                    clear H1
                    by_cases c18 : x5_2.length < 17592186044416
                    · rw [if_pos c18] at H
                      have LMc18 := Aside0.mk c18
                      clear c18
                      obtain ⟨y361, hy361⟩ : ∃ y_ : List Int, y_ = (x5_2 ++ [rd t353 x7_2]) := ⟨_, rfl⟩
                      replace H : (spec_ValueClasses.l0 k2 l0 a1 y361 t353 (wrap64 (x7_2 + 1))) = some r := by first | (rw [hy361]; with_reducible exact H) | (have H2_ := (Option.bind_some _ _).symm.trans H; rw [hy361]; with_reducible exact H2_) | (have H2_ := (Option.bind_some _ _).symm.trans H; with_reducible exact H2_) | with_reducible exact H | (rw [hy361]; exact H) | exact H
                      have Ny361 := Aside0.mk hy361
                      clear hy361
                      have H' := Aside0.mk H
                      clear H
                      obtain ⟨Ao19, co19, eo19⟩ := Kd.R_slice HO_6.out
                      subst eo19
                      have p356 : 0 ≤ (x7_2 : Int) := of_decide_eq_true (by first | (with_reducible assumption) | assumption)
                      have q356 : x7_2 < (t353.length : Int) := of_decide_eq_true (by first | (with_reducible assumption) | assumption)
                      obtain ⟨ad356, e356, hx356_0⟩ := Kd.at_int (Kd.R_reads' HO_6.out).2.2 x7_2 p356 q356
                      cases e356
                      replace p356 := eq_true p356
                      replace q356 := eq_true q356
                      go_wp2_with (first | ((with_reducible refine gate_callee (f := 87) rfl ?_); refine goesL_ (some 30) rfl rfl Try.func87 (by kernel_rfl) rfl #[.int .i64 (rd t353 x7_2)] rfl Sqz.auM ?_; (with_reducible refine (spec_l9Number.calls (rd t353 x7_2) true _ A14.out).mono ?_); rintro e w' ⟨rfl, ⟨nd, rfl⟩⟩; refine ⟨_, rfl, ?_⟩; have p358 : 0 ≤ (x7_2 : Int) := of_decide_eq_true (by first | (with_reducible assumption) | assumption); have q358 : x7_2 < (t353.length : Int) := of_decide_eq_true (by first | (with_reducible assumption) | assumption); obtain ⟨ad358, e358, hx358_0⟩ := Kd.at_int (Kd.R_reads' HO_6.out).2.2 x7_2 p358 q358; obtain rfl : ad356 = ad358 := (by injection e358); replace p358 := eq_true p358; replace q358 := eq_true q358) | (go_at_call 88; (with_reducible refine (spec_l9At.calls k2 _ _ l0 (rd t353 x7_2) a1 true _ ?side1 ?side2 A16.out).mono ?_); (case side1 => repeat (first | exact (Kd.C_below HR0.out (Sqz.auHB)) | (with_reducible refine Kd.C_alloc ?_ _) | (with_reducible refine Kd.C_drewN ?_ _) | (with_reducible refine Kd.C_drew ?_))); (case side2 => exact HC0.out); rintro e w20 ⟨rfl, hb⟩; have n0_ := Aside0.mk (Kd.R_below ((Sqz.mvR HO_5.out)) hb); have n1_ := Aside0.mk (Kd.R_below ((Sqz.mvR HO_6.out)) hb); have n2_ := Aside0.mk (below_step (Sqz.auHB) hb); clear HO_5; clear HO_6; clear HB; have HO_5 := n0_; have HO_6 := n1_; have HB := n2_; clear n0_ n1_ n2_; (try clear hb); (try clear hb2); (try clear hk); (try clear hi); have p360 : 0 ≤ (x7_2 : Int) := of_decide_eq_true (by first | (with_reducible assumption) | assumption); have q360 : x7_2 < (t353.length : Int) := of_decide_eq_true (by first | (with_reducible assumption) | assumption); obtain ⟨ad360, e360, hx360_0⟩ := Kd.at_int (Kd.R_reads' HO_6.out).2.2 x7_2 p360 q360; obtain rfl : ad356 = ad360 := (by injection e360); replace p360 := eq_true p360; replace q360 := eq_true q360) | ((with_reducible refine gate_builtin (b := .append) (xs := #[.tmp 40, .tmp 45]) rfl ?_); at_builtin; refine Kd.R_append (Kd.int .i64) (w0 := w) w.heap.size rfl (.tmp 40) (.tmp 45) 25 3 (.int .i64 0) 8 rfl Try.underlying25 info3 rfl (by decide) (by omega) u5 x5_2 (rd t353 x7_2) [.int .i64 (rd t353 x7_2)] (fun k_ => some k_ ≠ (.slice (some ad356) t353.length co19 : Value).ownBlock) (fun _ => False) rfl rfl ?aP (fun _ hk => hk.elim) ?aF ?aO ?aB ?aS ?aL ?_; (case aP => exact rfl); (case aB => exact (Sqz.auHB)); (case aF => exact (fun k_ hk => Kd.fresh' (Kd.R_lt ((Sqz.mvR HO_6.out))) k_ hk)); (case aO => exact ((Sqz.mvR HO_5.out))); (case aS => exact (below_size (Sqz.auHB))); (case aL => have := LMc18.out; omega); intro v362 w21 ho hb hg hat; rw [← Ny361.out] at ho; have n0_ := Aside0.mk (Kd.R_after (ok := (fun _ => True)) ((Sqz.mvR (Kd.R_mono HO_6.out (fun _ hk => ⟨trivial, hk⟩)))) hg hat); have n1_ := Aside0.mk (hb); have n2_ := Aside0.mk (ho); clear HO_6; clear HB; clear HO_5; have HO_6 := n0_; have HB := n1_; have HO363 := n2_; clear n0_ n1_ n2_; clear ho hb hg hat))
                      go_roundg k2
                      case measure => have := HJ2.out; have := HK2.out; omega
                      case rel => exact ⟨(y361), (wrap64 (x7_2 + 1)), Sqz.auS, H', ⟨by have := HJ2.out; have := HK2.out; omega⟩, ⟨(Sqz.mvR HO363.out)⟩, ⟨(Sqz.mvR (Kd.R_mono HO_6.out (fun _ hk => hk.2)))⟩, ⟨Sqz.auHB⟩⟩
                    · rw [if_neg c18] at H
                      exact absurd H (by simp)
                  · replace c17 := Bool.eq_false_iff.mpr c17
                    subst c17
                    have H1 : (spec_ValueClasses.l0 k2 l0 a1 x5_2 t353 (wrap64 (x7_2 + 1))) = some r := by rw [if_neg (show ¬ (false = true) by decide)] at H; exact H
                    clear H
                    have H := H1
                    clear H1
                    have H' := Aside0.mk H
                    clear H
                    obtain ⟨Ao22, co22, eo22⟩ := Kd.R_slice HO_6.out
                    subst eo22
                    have p356 : 0 ≤ (x7_2 : Int) := of_decide_eq_true (by first | (with_reducible assumption) | assumption)
                    have q356 : x7_2 < (t353.length : Int) := of_decide_eq_true (by first | (with_reducible assumption) | assumption)
                    obtain ⟨ad356, e356, hx356_0⟩ := Kd.at_int (Kd.R_reads' HO_6.out).2.2 x7_2 p356 q356
                    cases e356
                    replace p356 := eq_true p356
                    replace q356 := eq_true q356
                    go_wp2_with (first | ((with_reducible refine gate_callee (f := 87) rfl ?_); refine goesL_ (some 30) rfl rfl Try.func87 (by kernel_rfl) rfl #[.int .i64 (rd t353 x7_2)] rfl Sqz.auM ?_; (with_reducible refine (spec_l9Number.calls (rd t353 x7_2) true _ A14.out).mono ?_); rintro e w' ⟨rfl, ⟨nd, rfl⟩⟩; refine ⟨_, rfl, ?_⟩; have p358 : 0 ≤ (x7_2 : Int) := of_decide_eq_true (by first | (with_reducible assumption) | assumption); have q358 : x7_2 < (t353.length : Int) := of_decide_eq_true (by first | (with_reducible assumption) | assumption); obtain ⟨ad358, e358, hx358_0⟩ := Kd.at_int (Kd.R_reads' HO_6.out).2.2 x7_2 p358 q358; obtain rfl : ad356 = ad358 := (by injection e358); replace p358 := eq_true p358; replace q358 := eq_true q358) | (go_at_call 88; (with_reducible refine (spec_l9At.calls k2 _ _ l0 (rd t353 x7_2) a1 false _ ?side1 ?side2 A16.out).mono ?_); (case side1 => repeat (first | exact (Kd.C_below HR0.out (Sqz.auHB)) | (with_reducible refine Kd.C_alloc ?_ _) | (with_reducible refine Kd.C_drewN ?_ _) | (with_reducible refine Kd.C_drew ?_))); (case side2 => exact HC0.out); rintro e w23 ⟨rfl, hb⟩; have n0_ := Aside0.mk (Kd.R_below ((Sqz.mvR HO_5.out)) hb); have n1_ := Aside0.mk (Kd.R_below ((Sqz.mvR HO_6.out)) hb); have n2_ := Aside0.mk (below_step (Sqz.auHB) hb); clear HO_5; clear HO_6; clear HB; have HO_5 := n0_; have HO_6 := n1_; have HB := n2_; clear n0_ n1_ n2_; (try clear hb); (try clear hb2); (try clear hk); (try clear hi)))
                    go_roundg k2
                    case measure => have := HJ2.out; have := HK2.out; omega
                    case rel => exact ⟨(x5_2), (wrap64 (x7_2 + 1)), Sqz.auS, H', ⟨by have := HJ2.out; have := HK2.out; omega⟩, ⟨(Sqz.mvR HO_5.out)⟩, ⟨(Sqz.mvR HO_6.out)⟩, ⟨Sqz.auHB⟩⟩
                · replace c15 := Bool.eq_false_iff.mpr c15
                  subst c15
                  have H1 : (spec_ValueClasses.l0 k2 l0 a1 x5_2 t353 (wrap64 (x7_2 + 1))) = some r := by rw [if_neg (show ¬ (false = true) by decide)] at H; exact H
                  clear H
                  have H := H1
                  clear H1
                  have H' := Aside0.mk H
                  clear H
                  obtain ⟨Ao24, co24, eo24⟩ := Kd.R_slice HO_6.out
                  subst eo24
                  have p356 : 0 ≤ (x7_2 : Int) := of_decide_eq_true (by first | (with_reducible assumption) | assumption)
                  have q356 : x7_2 < (t353.length : Int) := of_decide_eq_true (by first | (with_reducible assumption) | assumption)
                  obtain ⟨ad356, e356, hx356_0⟩ := Kd.at_int (Kd.R_reads' HO_6.out).2.2 x7_2 p356 q356
                  cases e356
                  replace p356 := eq_true p356
                  replace q356 := eq_true q356
                  go_wp2_with (first | ((with_reducible refine gate_callee (f := 87) rfl ?_); refine goesL_ (some 30) rfl rfl Try.func87 (by kernel_rfl) rfl #[.int .i64 (rd t353 x7_2)] rfl Sqz.auM ?_; (with_reducible refine (spec_l9Number.calls (rd t353 x7_2) false _ A14.out).mono ?_); rintro e w' ⟨rfl, ⟨nd, rfl⟩⟩; refine ⟨_, rfl, ?_⟩))
                  go_roundg k2
                  case measure => have := HJ2.out; have := HK2.out; omega
                  case rel => exact ⟨(x5_2), (wrap64 (x7_2 + 1)), Sqz.auS, H', ⟨by have := HJ2.out; have := HK2.out; omega⟩, ⟨(Sqz.mvR HO_5.out)⟩, ⟨(Sqz.mvR HO_6.out)⟩, ⟨Sqz.auHB⟩⟩
              · rw [if_neg c13] at H
                exact absurd H (by simp)
            · rw [if_neg c12] at H
              have c12b0 : decide (x7_2 < (t353.length : Int)) = false := decide_eq_false c12
              clear c12
              obtain rfl := Option.some.inj H
              obtain ⟨Ao25, co25, eo25⟩ := Kd.R_slice HO_6.out
              subst eo25
              go_wp2
              go_ret
              exact ⟨_, Sqz.auR, (Sqz.mvR (Kd.R_mono HO_5.out (fun _ hk => trivial))), Sqz.auHB⟩

/-! ### laws_sameInts: function 37 -/
def laws_sameInts.l0 : Nat → List Int → List Int → Int → Option (Bool)
  | 0, _, _, _ => none
  | k + 1, x0, x1, x5 => if x5 < (x0.length : Int) then (if 0 ≤ x5 then (if x5 < (x1.length : Int) then (if (rd x0 x5) = (rd x1 x5) then (laws_sameInts.l0 k x0 x1 (wrap64 (x5 + 1))) else (some false)) else (none)) else (none)) else (some true)
def laws_sameInts.f (k : Nat) (l0 : List Int) (l1 : List Int) : Option (Bool) := if (l0.length : Int) = (l1.length : Int) then (laws_sameInts.l0 k l0 l1 0) else (some false)
set_option maxHeartbeats 8000000 in
set_option maxRecDepth 100000 in
theorem laws_sameInts.calls (k : Nat) (A0 : Option Addr) (c0 : Nat) (l0 : List Int) (A1 : Option Addr) (c1 : Nat) (l1 : List Int) (r : Bool) (w : World) (hr0 : Kd.C (Kd.int .i64) w A0 l0.length l0) (hc0 : l0.length ≤ c0) (hr1 : Kd.C (Kd.int .i64) w A1 l1.length l1) (hc1 : l1.length ≤ c1) (h : laws_sameInts.f k l0 l1 = some r) :
    Calls Try.prog 37 #[.slice A0 l0.length c0, .slice A1 l1.length c1] w fun e w' => e = .returned (.bool r) ∧ Drawn0 w w' := by
  have HR0 := Aside0.mk hr0
  have HC0 := Aside0.mk hc0
  clear hr0 hc0
  have HR1 := Aside0.mk hr1
  have HC1 := Aside0.mk hc1
  clear hr1 hc1
  have H : (if (l0.length : Int) = (l1.length : Int) then (laws_sameInts.l0 k l0 l1 0) else (some false)) = some r := h
  clear h
  by_cases c3 : (l0.length : Int) = (l1.length : Int)
  · rw [if_pos c3] at H
    have c3b0 : ((l0.length : Int) == (l1.length : Int)) = true := beq_iff_eq.mpr c3
    have c3b1 : ((l0.length : Int) != (l1.length : Int)) = false := bne_eq_false_iff_eq.mpr c3
    have c3b2 : (l0.length == l1.length) = true := by first | simpa using c3 | (simp at c3 ⊢; omega)
    clear c3
    have H' := Aside0.mk H
    clear H
    go_enter Try.func37, Try.ntmps37
    go_wp2
    repeat (go_quiet (fail); try go_wp2)
    go_loopg [5] k (fun kq v5 w' => ∃ (x5_1 : Int), v5 = .int .i64 x5_1 ∧ Aside0 (laws_sameInts.l0 kq l0 l1 x5_1 = some r) ∧ Aside0 (kq ≤ k) ∧ Drawn0 w w')
    case atStart => exact ⟨(0), Sqz.auS, H', ⟨Nat.le_refl _⟩, by repeat (first | exact Drawn0.refl _ | apply Drawn0.step)⟩
    case round =>
      clear H'
      try clear c1
      try clear p2
      try clear c3
      try clear c3b0
      try clear c3b1
      try clear c3b2
      obtain ⟨x5_1, rfl, HA, HK1, ⟨m1, rfl⟩⟩ := hrel
      cases gk with
      | zero => exact absurd HA.out (by simp [laws_sameInts.l0])
      | succ k1 =>
        have H := HA.out
        clear HA
        simp only [laws_sameInts.l0] at H
        by_cases c4 : x5_1 < (l0.length : Int)
        · rw [if_pos c4] at H
          have c4b0 : decide (x5_1 < (l0.length : Int)) = true := decide_eq_true c4
          clear c4
          by_cases c5 : 0 ≤ x5_1
          · rw [if_pos c5] at H
            have c5b0 : decide (0 ≤ x5_1) = true := decide_eq_true c5
            clear c5
            by_cases c6 : x5_1 < (l1.length : Int)
            · rw [if_pos c6] at H
              have c6b0 : decide (x5_1 < (l1.length : Int)) = true := decide_eq_true c6
              clear c6
              by_cases c7 : (rd l0 x5_1) = (rd l1 x5_1)
              · rw [if_pos c7] at H
                have c7b0 : ((rd l0 x5_1) == (rd l1 x5_1)) = true := beq_iff_eq.mpr c7
                have c7b1 : ((rd l0 x5_1) != (rd l1 x5_1)) = false := bne_eq_false_iff_eq.mpr c7
                clear c7
                have H' := Aside0.mk H
                clear H
                have p364 : 0 ≤ (x5_1 : Int) := of_decide_eq_true (by first | (with_reducible assumption) | assumption)
                have q364 : x5_1 < (l0.length : Int) := of_decide_eq_true (by first | (with_reducible assumption) | assumption)
                obtain ⟨ad364, e364, hx364_0⟩ := Kd.at_int HR0.out x5_1 p364 q364
                cases e364
                replace p364 := eq_true p364
                replace q364 := eq_true q364
                have p365 : 0 ≤ (x5_1 : Int) := of_decide_eq_true (by first | (with_reducible assumption) | assumption)
                have q365 : x5_1 < (l1.length : Int) := of_decide_eq_true (by first | (with_reducible assumption) | assumption)
                obtain ⟨ad365, e365, hx365_0⟩ := Kd.at_int HR1.out x5_1 p365 q365
                cases e365
                replace p365 := eq_true p365
                replace q365 := eq_true q365
                go_wp2
                repeat (go_quiet (fail); try go_wp2)
                go_roundg k1
                case measure => have := HK1.out; omega
                case rel => exact ⟨(wrap64 (x5_1 + 1)), Sqz.auS, H', ⟨by have := HK1.out; omega⟩, by repeat (first | exact Drawn0.refl _ | apply Drawn0.step)⟩
              · rw [if_neg c7] at H
                have c7b0 : ((rd l0 x5_1) == (rd l1 x5_1)) = false := beq_eq_false_iff_ne.mpr c7
                have c7b1 : ((rd l0 x5_1) != (rd l1 x5_1)) = true := bne_iff_ne.mpr c7
                obtain rfl := Option.some.inj H
                have p364 : 0 ≤ (x5_1 : Int) := of_decide_eq_true (by first | (with_reducible assumption) | assumption)
                have q364 : x5_1 < (l0.length : Int) := of_decide_eq_true (by first | (with_reducible assumption) | assumption)
                obtain ⟨ad364, e364, hx364_0⟩ := Kd.at_int HR0.out x5_1 p364 q364
                cases e364
                replace p364 := eq_true p364
                replace q364 := eq_true q364
                have p365 : 0 ≤ (x5_1 : Int) := of_decide_eq_true (by first | (with_reducible assumption) | assumption)
                have q365 : x5_1 < (l1.length : Int) := of_decide_eq_true (by first | (with_reducible assumption) | assumption)
                obtain ⟨ad365, e365, hx365_0⟩ := Kd.at_int HR1.out x5_1 p365 q365
                cases e365
                replace p365 := eq_true p365
                replace q365 := eq_true q365
                go_wp2
                repeat (go_quiet (fail); try go_wp2)
                go_ret
                exact ⟨Sqz.auS, by repeat (first | exact Drawn0.refl _ | apply Drawn0.step)⟩
            · rw [if_neg c6] at H
              exact absurd H (by simp)
          · rw [if_neg c5] at H
            exact absurd H (by simp)
        · rw [if_neg c4] at H
          have c4b0 : decide (x5_1 < (l0.length : Int)) = false := decide_eq_false c4
          clear c4
          obtain rfl := Option.some.inj H
          go_wp2
          repeat (go_quiet (fail); try go_wp2)
          go_ret
          exact ⟨Sqz.auS, by repeat (first | exact Drawn0.refl _ | apply Drawn0.step)⟩
  · rw [if_neg c3] at H
    have c3b0 : ((l0.length : Int) == (l1.length : Int)) = false := beq_eq_false_iff_ne.mpr c3
    have c3b1 : ((l0.length : Int) != (l1.length : Int)) = true := bne_iff_ne.mpr c3
    have c3b2 : (l0.length == l1.length) = false := by first | simpa using c3 | (simp at c3 ⊢; omega)
    obtain rfl := Option.some.inj H
    go_enter Try.func37, Try.ntmps37
    go_wp2
    repeat (go_quiet (fail); try go_wp2)
    go_ret
    exact ⟨Sqz.auS, by repeat (first | exact Drawn0.refl _ | apply Drawn0.step)⟩

/-! ### impl_LocalNames: function 38 -/
def impl_LocalNames.f (k : Nat) (a0 : Int) : Option (List Int × Bool) := (impl_PlaceValid.f k a0).bind fun t366 => (if t366 = true then ((impl_namesAt.f k a0).bind fun t367 => (some (t367, true))) else (some (([] : List Int), false)))
set_option maxHeartbeats 8000000 in
set_option maxRecDepth 100000 in
theorem impl_LocalNames.calls (k : Nat) (a0 : Int) (r1 : List Int) (r2 : Bool) (w : World) (h : impl_LocalNames.f k a0 = some (r1, r2)) :
    Calls Try.prog 38 #[.int .i64 a0] w fun e w' => ∃ v0_ : Value, e = .returned (.tuple #[v0_, .bool r2]) ∧ Kd.R (Kd.int .i64) 3 w' w.heap.size (fun _ => True) v0_ r1 ∧ Below w.heap.size w w' := by
  have HB := Aside0.mk (Below.refl w.heap.size w)
  have H : ((impl_PlaceValid.f k a0).bind fun t366 => (if t366 = true then ((impl_namesAt.f k a0).bind fun t367 => (some (t367, true))) else (some (([] : List Int), false)))) = some (r1, r2) := h
  clear h
  replace H := Option.bind_eq_some_iff.mp H
  obtain ⟨t366, A20, H⟩ := H
  replace H : (if t366 = true then ((impl_namesAt.f k a0).bind fun t367 => (some (t367, true))) else (some (([] : List Int), false))) = some (r1, r2) := H
  have A2 := Aside0.mk A20
  clear A20
  by_cases c3 : t366 = true
  · subst c3
    have H1 : ((impl_namesAt.f k a0).bind fun t367 => (some (t367, true))) = some (r1, r2) := by rw [if_pos rfl] at H; exact H
    clear H
    have H := H1
    clear H1
    replace H := Option.bind_eq_some_iff.mp H
    obtain ⟨t367, A40, H⟩ := H
    replace H : (some (t367, true)) = some (r1, r2) := H
    have A4 := Aside0.mk A40
    clear A40
    simp only [Option.some.injEq, Prod.mk.injEq] at H
    obtain ⟨rfl, rfl⟩ := H
    go_enter Try.func38, Try.ntmps38
    go_wp2_with (first | ((with_reducible refine gate_callee (f := 73) rfl ?_); refine goesL_ (some 5) rfl rfl Try.func73 (by kernel_rfl) rfl #[.int .i64 a0] rfl Sqz.auM ?_; (with_reducible refine (impl_PlaceValid.calls k a0 true _ A2.out).mono ?_); rintro e w' ⟨rfl, ⟨nd, rfl⟩⟩; refine ⟨_, rfl, ?_⟩) | ((with_reducible refine gate_callee (f := 93) rfl ?_); refine goesL_ (some 8) rfl rfl Try.func93 (by kernel_rfl) rfl #[.int .i64 a0] rfl Sqz.auM ?_; (with_reducible refine (impl_namesAt.calls k a0 t367 _ A4.out).mono ?_); rintro e w5 ⟨v368, rfl, ho0, hb⟩; refine ⟨_, rfl, ?_⟩; have n0_ := Aside0.mk (Kd.R_lower ho0 (below_size (Sqz.auHB))); have n1_ := Aside0.mk (below_step (Sqz.auHB) hb); clear HB; have HO369 := n0_; have HB := n1_; clear n0_ n1_; (try clear hb); (try clear hb2); (try clear hk); (try clear hi); (try clear ho0)))
    go_ret2
    exact ⟨_, Sqz.auR, (Sqz.mvR HO369.out), Sqz.auHB⟩
  · replace c3 := Bool.eq_false_iff.mpr c3
    subst c3
    have H1 : (some (([] : List Int), false)) = some (r1, r2) := by rw [if_neg (show ¬ (false = true) by decide)] at H; exact H
    clear H
    have H := H1
    clear H1
    simp only [Option.some.injEq, Prod.mk.injEq] at H
    obtain ⟨rfl, rfl⟩ := H
    go_enter Try.func38, Try.ntmps38
    go_wp2_with (first | ((with_reducible refine gate_callee (f := 73) rfl ?_); refine goesL_ (some 5) rfl rfl Try.func73 (by kernel_rfl) rfl #[.int .i64 a0] rfl Sqz.auM ?_; (with_reducible refine (impl_PlaceValid.calls k a0 false _ A2.out).mono ?_); rintro e w' ⟨rfl, ⟨nd, rfl⟩⟩; refine ⟨_, rfl, ?_⟩))
    go_ret2
    exact ⟨_, Sqz.auR, by first | exact Kd.R_nil _ _ _ _ _ | exact Kd.N_nil _ _ _ _ _ | exact Kd.V_nil _ _ _ _ _ | exact Kd.Q_nil _ _ _ _ _ | exact Kd.S_nil _ _ _ _ _, Sqz.auHB⟩

/-! ### laws_hasInt: function 39 -/
def laws_hasInt.l0 : Nat → List Int → Int → Int → Option (Bool)
  | 0, _, _, _ => none
  | k + 1, x0, x1, x5 => if x5 < (x0.length : Int) then (if 0 ≤ x5 then (if (rd x0 x5) = x1 then (some true) else (laws_hasInt.l0 k x0 x1 (wrap64 (x5 + 1)))) else (none)) else (some false)
def laws_hasInt.f (k : Nat) (l0 : List Int) (a1 : Int) : Option (Bool) := laws_hasInt.l0 k l0 a1 0
set_option maxHeartbeats 8000000 in
set_option maxRecDepth 100000 in
theorem laws_hasInt.calls (k : Nat) (A0 : Option Addr) (c0 : Nat) (l0 : List Int) (a1 : Int) (r : Bool) (w : World) (hr0 : Kd.C (Kd.int .i64) w A0 l0.length l0) (hc0 : l0.length ≤ c0) (h : laws_hasInt.f k l0 a1 = some r) :
    Calls Try.prog 39 #[.slice A0 l0.length c0, .int .i64 a1] w fun e w' => e = .returned (.bool r) ∧ Drawn0 w w' := by
  have HR0 := Aside0.mk hr0
  have HC0 := Aside0.mk hc0
  clear hr0 hc0
  have H : (laws_hasInt.l0 k l0 a1 0) = some r := h
  clear h
  have H' := Aside0.mk H
  clear H
  go_enter Try.func39, Try.ntmps39
  go_wp2
  go_loopg [5] k (fun kq v5 w' => ∃ (x5_1 : Int), v5 = .int .i64 x5_1 ∧ Aside0 (laws_hasInt.l0 kq l0 a1 x5_1 = some r) ∧ Aside0 (kq ≤ k) ∧ Drawn0 w w')
  case atStart => exact ⟨(0), Sqz.auS, H', ⟨Nat.le_refl _⟩, by repeat (first | exact Drawn0.refl _ | apply Drawn0.step)⟩
  case round =>
    clear H'
    try clear p2
    obtain ⟨x5_1, rfl, HA, HK1, ⟨m1, rfl⟩⟩ := hrel
    cases gk with
    | zero => exact absurd HA.out (by simp [laws_hasInt.l0])
    | succ k1 =>
      have H := HA.out
      clear HA
      simp only [laws_hasInt.l0] at H
      by_cases c3 : x5_1 < (l0.length : Int)
      · rw [if_pos c3] at H
        have c3b0 : decide (x5_1 < (l0.length : Int)) = true := decide_eq_true c3
        clear c3
        by_cases c4 : 0 ≤ x5_1
        · rw [if_pos c4] at H
          have c4b0 : decide (0 ≤ x5_1) = true := decide_eq_true c4
          clear c4
          by_cases c5 : (rd l0 x5_1) = a1
          · rw [if_pos c5] at H
            have c5b0 : ((rd l0 x5_1) == a1) = true := beq_iff_eq.mpr c5
            have c5b1 : ((rd l0 x5_1) != a1) = false := bne_eq_false_iff_eq.mpr c5
            clear c5
            obtain rfl := Option.some.inj H
            have p370 : 0 ≤ (x5_1 : Int) := of_decide_eq_true (by first | (with_reducible assumption) | assumption)
            have q370 : x5_1 < (l0.length : Int) := of_decide_eq_true (by first | (with_reducible assumption) | assumption)
            obtain ⟨ad370, e370, hx370_0⟩ := Kd.at_int HR0.out x5_1 p370 q370
            cases e370
            replace p370 := eq_true p370
            replace q370 := eq_true q370
            go_wp2
            go_ret
            exact ⟨Sqz.auS, by repeat (first | exact Drawn0.refl _ | apply Drawn0.step)⟩
          · rw [if_neg c5] at H
            have c5b0 : ((rd l0 x5_1) == a1) = false := beq_eq_false_iff_ne.mpr c5
            have c5b1 : ((rd l0 x5_1) != a1) = true := bne_iff_ne.mpr c5
            have H' := Aside0.mk H
            clear H
            have p370 : 0 ≤ (x5_1 : Int) := of_decide_eq_true (by first | (with_reducible assumption) | assumption)
            have q370 : x5_1 < (l0.length : Int) := of_decide_eq_true (by first | (with_reducible assumption) | assumption)
            obtain ⟨ad370, e370, hx370_0⟩ := Kd.at_int HR0.out x5_1 p370 q370
            cases e370
            replace p370 := eq_true p370
            replace q370 := eq_true q370
            go_wp2
            go_roundg k1
            case measure => have := HK1.out; omega
            case rel => exact ⟨(wrap64 (x5_1 + 1)), Sqz.auS, H', ⟨by have := HK1.out; omega⟩, by repeat (first | exact Drawn0.refl _ | apply Drawn0.step)⟩
        · rw [if_neg c4] at H
          exact absurd H (by simp)
      · rw [if_neg c3] at H
        have c3b0 : decide (x5_1 < (l0.length : Int)) = false := decide_eq_false c3
        clear c3
        obtain rfl := Option.some.inj H
        go_wp2
        go_ret
        exact ⟨Sqz.auS, by repeat (first | exact Drawn0.refl _ | apply Drawn0.step)⟩

end Go.Proofs.Ytihadpckmcebgaa.PFnClasses
