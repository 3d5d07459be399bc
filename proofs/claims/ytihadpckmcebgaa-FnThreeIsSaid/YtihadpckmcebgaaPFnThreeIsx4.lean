/- A function's Lean twin and its walk, written by a program of this session. -/
import Derived.Test.YtihadpckmcebgaaPFnThreeIsx0
import Derived.Test.YtihadpckmcebgaaPFnThreeIsx1
import Derived.Test.YtihadpckmcebgaaPFnThreeIsx2
import Derived.Test.YtihadpckmcebgaaPFnThreeIsx3
namespace Go.Proofs.Ytihadpckmcebgaa.PFnThreeIs
open Go.RowKit Go.Proofs.YtihadpckmcebgaaW.PrintWords Go.Proofs.YtihadpckmcebgaaW.PrintLast Go.Proofs.YtihadpckmcebgaaW.PrintMore
attribute [local go_sem] max2_int min2_int max_two min_two max_three min_three max_four min_four   -- for this text's walks alone
set_option linter.unusedVariables false
set_option linter.unusedSimpArgs false

/-! ### impl_FormVanishes: function 21 -/
def impl_FormVanishes.f (k : Nat) (l0 : List Int) (a1 : Int) : Option (Bool) := (impl_FormValid.f k l0).bind fun t186 => (if t186 = true then ((impl_PlaceValid.f k a1).bind fun t187 => (if t187 = true then ((impl_vanishes.f k l0 a1).bind fun t188 => (some t188)) else (some false))) else (some false))
set_option maxHeartbeats 8000000 in
set_option maxRecDepth 100000 in
theorem impl_FormVanishes.calls (k : Nat) (A0 : Option Addr) (c0 : Nat) (l0 : List Int) (a1 : Int) (r : Bool) (w : World) (hr0 : Kd.C (Kd.int .i64) w A0 l0.length l0) (hc0 : l0.length ≤ c0) (h : impl_FormVanishes.f k l0 a1 = some r) :
    Calls Try.prog 21 #[.slice A0 l0.length c0, .int .i64 a1] w fun e w' => e = .returned (.bool r) ∧ Below w.heap.size w w' := by
  have HR0 := Aside0.mk hr0
  have HC0 := Aside0.mk hc0
  clear hr0 hc0
  have HB := Aside0.mk (Below.refl w.heap.size w)
  have H : ((impl_FormValid.f k l0).bind fun t186 => (if t186 = true then ((impl_PlaceValid.f k a1).bind fun t187 => (if t187 = true then ((impl_vanishes.f k l0 a1).bind fun t188 => (some t188)) else (some false))) else (some false))) = some r := h
  clear h
  replace H := Option.bind_eq_some_iff.mp H
  obtain ⟨t186, A30, H⟩ := H
  replace H : (if t186 = true then ((impl_PlaceValid.f k a1).bind fun t187 => (if t187 = true then ((impl_vanishes.f k l0 a1).bind fun t188 => (some t188)) else (some false))) else (some false)) = some r := H
  have A3 := Aside0.mk A30
  clear A30
  by_cases c4 : t186 = true
  · subst c4
    have H1 : ((impl_PlaceValid.f k a1).bind fun t187 => (if t187 = true then ((impl_vanishes.f k l0 a1).bind fun t188 => (some t188)) else (some false))) = some r := by rw [if_pos rfl] at H; exact H
    clear H
    have H := H1
    clear H1
    replace H := Option.bind_eq_some_iff.mp H
    obtain ⟨t187, A50, H⟩ := H
    replace H : (if t187 = true then ((impl_vanishes.f k l0 a1).bind fun t188 => (some t188)) else (some false)) = some r := H
    have A5 := Aside0.mk A50
    clear A50
    by_cases c6 : t187 = true
    · subst c6
      have H1 : ((impl_vanishes.f k l0 a1).bind fun t188 => (some t188)) = some r := by rw [if_pos rfl] at H; exact H
      clear H
      have H := H1
      clear H1
      replace H := Option.bind_eq_some_iff.mp H
      obtain ⟨t188, A70, H⟩ := H
      replace H : (some t188) = some r := H
      have A7 := Aside0.mk A70
      clear A70
      obtain rfl := Option.some.inj H
      go_enter Try.func21, Try.ntmps21
      go_wp2_with (first | ((with_reducible refine gate_callee (f := 20) rfl ?_); refine goesL_ (some 6) rfl rfl Try.func20 (by kernel_rfl) rfl #[.slice A0 l0.length c0] rfl Sqz.auM ?_; (with_reducible refine (impl_FormValid.calls k _ _ l0 true _ ?side1 ?side2 A3.out).mono ?_); (case side1 => exact Sqz.mvC (HR0.out)); (case side2 => exact HC0.out); rintro e w8 ⟨rfl, hb⟩; refine ⟨_, rfl, ?_⟩; have n0_ := Aside0.mk (below_step (Sqz.auHB) hb); clear HB; have HB := n0_; clear n0_; (try clear hb); (try clear hb2); (try clear hk); (try clear hi)) | (go_at_call 73; (with_reducible refine (impl_PlaceValid.calls k a1 true _ A5.out).mono ?_); rintro e w' ⟨rfl, ⟨nd, rfl⟩⟩) | (go_at_call 74; (with_reducible refine (impl_vanishes.calls k _ _ l0 a1 t188 _ ?side1 ?side2 A7.out).mono ?_); (case side1 => repeat (first | exact (Kd.C_below HR0.out (Sqz.auHB)) | (with_reducible refine Kd.C_alloc ?_ _) | (with_reducible refine Kd.C_drewN ?_ _) | (with_reducible refine Kd.C_drew ?_))); (case side2 => exact HC0.out); rintro e w' ⟨rfl, ⟨nd, rfl⟩⟩))
      go_ret
      exact ⟨Sqz.auR, Sqz.auHB⟩
    · replace c6 := Bool.eq_false_iff.mpr c6
      subst c6
      have H1 : (some false) = some r := by rw [if_neg (show ¬ (false = true) by decide)] at H; exact H
      clear H
      have H := H1
      clear H1
      obtain rfl := Option.some.inj H
      go_enter Try.func21, Try.ntmps21
      go_wp2_with (first | ((with_reducible refine gate_callee (f := 20) rfl ?_); refine goesL_ (some 6) rfl rfl Try.func20 (by kernel_rfl) rfl #[.slice A0 l0.length c0] rfl Sqz.auM ?_; (with_reducible refine (impl_FormValid.calls k _ _ l0 true _ ?side1 ?side2 A3.out).mono ?_); (case side1 => exact Sqz.mvC (HR0.out)); (case side2 => exact HC0.out); rintro e w9 ⟨rfl, hb⟩; refine ⟨_, rfl, ?_⟩; have n0_ := Aside0.mk (below_step (Sqz.auHB) hb); clear HB; have HB := n0_; clear n0_; (try clear hb); (try clear hb2); (try clear hk); (try clear hi)) | (go_at_call 73; (with_reducible refine (impl_PlaceValid.calls k a1 false _ A5.out).mono ?_); rintro e w' ⟨rfl, ⟨nd, rfl⟩⟩))
      go_ret
      exact ⟨Sqz.auR, Sqz.auHB⟩
  · replace c4 := Bool.eq_false_iff.mpr c4
    subst c4
    have H1 : (some false) = some r := by rw [if_neg (show ¬ (false = true) by decide)] at H; exact H
    clear H
    have H := H1
    clear H1
    obtain rfl := Option.some.inj H
    go_enter Try.func21, Try.ntmps21
    go_wp2_with (first | ((with_reducible refine gate_callee (f := 20) rfl ?_); refine goesL_ (some 6) rfl rfl Try.func20 (by kernel_rfl) rfl #[.slice A0 l0.length c0] rfl Sqz.auM ?_; (with_reducible refine (impl_FormValid.calls k _ _ l0 false _ ?side1 ?side2 A3.out).mono ?_); (case side1 => exact Sqz.mvC (HR0.out)); (case side2 => exact HC0.out); rintro e w10 ⟨rfl, hb⟩; refine ⟨_, rfl, ?_⟩; have n0_ := Aside0.mk (below_step (Sqz.auHB) hb); clear HB; have HB := n0_; clear n0_; (try clear hb); (try clear hb2); (try clear hk); (try clear hi)))
    go_ret
    exact ⟨Sqz.auR, Sqz.auHB⟩

/-! ### laws_FnThreeIs: function 3 -/
def laws_FnThreeIs.j0 : Nat → Int → Bool → Bool → Bool → Option (Bool)
  | 0, _, _, _, _ => none
  | k + 1, x3, x4, x5, x27 => if x27 = true then (some (x4 == x5)) else ((impl_ThreeFind.f x3).bind fun bt192 => ((impl_CoreOf.f k x3).bind fun bt196 => ((some (([1, 1, 1, wrap64 (-bt196.1)] : List Int) : List Int)).bind fun y199 => (if bt192.2 = true then (if (wrap64 (4 * x3)) > 2000 then (if x3 = 0 then (some true) else (if bt196.2.2 = true then ((impl_FormValid.f k y199).bind fun t202 => (if t202 = true then ((impl_FormVanishes.f k y199 2).bind fun t203 => (some t203)) else (some true))) else (some false))) else ((impl_ThreeIs.f k (wrap64 (4 * x3))).bind fun t204 => (if t204 = true then (if x3 = 0 then (some true) else (if bt196.2.2 = true then ((impl_FormValid.f k y199).bind fun t205 => (if t205 = true then ((impl_FormVanishes.f k y199 2).bind fun t206 => (some t206)) else (some true))) else (some false))) else (some false)))) else (some false)))))
def laws_FnThreeIs.f (k : Nat) (l0 : List Int) : Option (Bool) := if (l0.length : Int) > 1048576 then (some true) else ((spec_DrawThreeIs.f k l0).bind fun t189 => ((impl_ThreeIs.f k t189).bind fun t190 => ((spec_ThreeIs.f k t189).bind fun t191 => (if (t190 != t191) = true then (laws_FnThreeIs.j0 k t189 t190 t191 true) else (laws_FnThreeIs.j0 k t189 t190 t191 (!t190))))))
set_option maxHeartbeats 8000000 in
set_option maxRecDepth 100000 in
theorem laws_FnThreeIs.calls (k : Nat) (A0 : Option Addr) (c0 : Nat) (l0 : List Int) (r : Bool) (w : World) (hr0 : Kd.C (Kd.int .u8) w A0 l0.length l0) (hc0 : l0.length ≤ c0) (h : laws_FnThreeIs.f k l0 = some r) :
    Calls Try.prog 3 #[.slice A0 l0.length c0] w fun e w' => e = .returned (.bool r) ∧ Below w.heap.size w w' := by
  have HR0 := Aside0.mk hr0
  have HC0 := Aside0.mk hc0
  clear hr0 hc0
  have HB := Aside0.mk (Below.refl w.heap.size w)
  have H : (if (l0.length : Int) > 1048576 then (some true) else ((spec_DrawThreeIs.f k l0).bind fun t189 => ((impl_ThreeIs.f k t189).bind fun t190 => ((spec_ThreeIs.f k t189).bind fun t191 => (if (t190 != t191) = true then (laws_FnThreeIs.j0 k t189 t190 t191 true) else (laws_FnThreeIs.j0 k t189 t190 t191 (!t190))))))) = some r := h
  clear h
  by_cases c2 : (l0.length : Int) > 1048576
  · rw [if_pos c2] at H
    have c2b0 : decide (1048576 < (l0.length : Int)) = true := decide_eq_true c2
    have c2b1 : decide (1048576 < l0.length) = true := decide_eq_true (by omega)
    clear c2
    obtain rfl := Option.some.inj H
    go_enter Try.func3, Try.ntmps3
    go_wp2
    go_ret
    exact ⟨Sqz.auR, Sqz.auHB⟩
  · rw [if_neg c2] at H
    have c2b0 : decide (1048576 < (l0.length : Int)) = false := decide_eq_false c2
    have c2b1 : decide (1048576 < l0.length) = false := decide_eq_false (by omega)
    clear c2
    replace H := Option.bind_eq_some_iff.mp H
    obtain ⟨t189, A30, H⟩ := H
    replace H : ((impl_ThreeIs.f k t189).bind fun t190 => ((spec_ThreeIs.f k t189).bind fun t191 => (if (t190 != t191) = true then (laws_FnThreeIs.j0 k t189 t190 t191 true) else (laws_FnThreeIs.j0 k t189 t190 t191 (!t190))))) = some r := H
    have A3 := Aside0.mk A30
    clear A30
    replace H := Option.bind_eq_some_iff.mp H
    obtain ⟨t190, A40, H⟩ := H
    replace H : ((spec_ThreeIs.f k t189).bind fun t191 => (if (t190 != t191) = true then (laws_FnThreeIs.j0 k t189 t190 t191 true) else (laws_FnThreeIs.j0 k t189 t190 t191 (!t190)))) = some r := H
    have A4 := Aside0.mk A40
    clear A40
    replace H := Option.bind_eq_some_iff.mp H
    obtain ⟨t191, A50, H⟩ := H
    replace H : (if (t190 != t191) = true then (laws_FnThreeIs.j0 k t189 t190 t191 true) else (laws_FnThreeIs.j0 k t189 t190 t191 (!t190))) = some r := H
    have A5 := Aside0.mk A50
    clear A50
    have HC6 := Aside0.mk H
    clear H
    go_enter Try.func3, Try.ntmps3
    go_upto_region 6 with (first | ((with_reducible refine gate_callee (f := 15) rfl ?_); refine goesL_ (some 16) rfl rfl Try.func15 (by kernel_rfl) rfl #[.slice A0 l0.length c0] rfl Sqz.auM ?_; (with_reducible refine (spec_DrawThreeIs.calls k _ _ l0 t189 _ ?side1 ?side2 A3.out).mono ?_); (case side1 => exact Sqz.mvC (HR0.out)); (case side2 => exact HC0.out); rintro e w7 ⟨rfl, hb⟩; refine ⟨_, rfl, ?_⟩; have n0_ := Aside0.mk (below_step (Sqz.auHB) hb); clear HB; have HB := n0_; clear n0_; (try clear hb); (try clear hb2); (try clear hk); (try clear hi)) | ((with_reducible refine gate_callee (f := 16) rfl ?_); refine goesL_ (some 18) rfl rfl Try.func16 (by kernel_rfl) rfl #[.int .i64 t189] rfl Sqz.auM ?_; (with_reducible refine (impl_ThreeIs.calls k t189 t190 _ A4.out).mono ?_); rintro e w' ⟨rfl, ⟨nd, rfl⟩⟩; refine ⟨_, rfl, ?_⟩) | ((with_reducible refine gate_callee (f := 17) rfl ?_); refine goesL_ (some 20) rfl rfl Try.func17 (by kernel_rfl) rfl #[.int .i64 t189] rfl Sqz.auM ?_; (with_reducible refine (spec_ThreeIs.calls k t189 t191 _ A5.out).mono ?_); rintro e w' ⟨rfl, ⟨nd, rfl⟩⟩; refine ⟨_, rfl, ?_⟩))
    (try simp only [Act.put, List.setIfInBounds_toArray, List.set_cons_zero, List.set_cons_succ])
    go_cut [27] (fun v27 wc => ∃ (kq : Nat) (x27_5 : Bool), v27 = .bool x27_5 ∧ Aside0 (laws_FnThreeIs.j0 kq t189 t190 t191 x27_5 = some r) ∧ Aside0 (kq ≤ k) ∧ Aside0 (Below w.heap.size w wc))
    case first =>
      have H := HC6.out
      clear HC6
      by_cases c8 : (t190 != t191) = true
      · rw [if_pos c8] at H
        have c8b0 : (t190 != t191) = true := c8
        (try (have c8b1 : decide (t190 = t191) = false := by simpa using c8))
        (try (have c8b2 : (t190 == t191) = false := by simpa using c8))
        (try (have c8b3 : ¬ (t190 = t191) := by simpa using c8))
        clear c8
        (first | rw [c8b0] | (simp only [i64_w, i32_w]; rw [c8b0]) | skip)
        have H' := Aside0.mk H
        clear H
        go_wp2
        go_meet
        case rel => exact ⟨_, (true), Sqz.auS, H', ⟨Sqz.auN⟩, ⟨Sqz.auHB⟩⟩
      · rw [if_neg c8] at H
        have c8b0 : (t190 != t191) = false := by simpa using c8
        (try (have c8b1 : decide (t190 = t191) = true := by simpa using c8))
        (try (have c8b2 : (t190 == t191) = true := by simpa using c8))
        clear c8
        (first | rw [c8b0] | (simp only [i64_w, i32_w]; rw [c8b0]) | skip)
        have H' := Aside0.mk H
        clear H
        go_wp2
        go_meet
        case rel => exact ⟨_, (!t190), Sqz.auS, H', ⟨Sqz.auN⟩, ⟨Sqz.auHB⟩⟩
    case rest =>
      clear HC6
      try clear c1
      try clear c2
      try clear c2b0
      try clear c2b1
      try clear p2
      try clear c3
      try clear c8
      try clear c8b0
      try clear c8b1
      try clear c8b2
      obtain ⟨kq, x27_5, rfl, HA, HJ5, HB⟩ := hcut
      cases kq with
      | zero => exact absurd HA.out (by simp [laws_FnThreeIs.j0])
      | succ kj5 =>
        have H := HA.out
        clear HA
        simp only [laws_FnThreeIs.j0] at H
        by_cases c9 : x27_5 = true
        · subst c9
          have H1 : (some (t190 == t191)) = some r := by rw [if_pos rfl] at H; exact H
          clear H
          have H := H1
          clear H1
          obtain rfl := Option.some.inj H
          go_wp2
          go_ret
          exact ⟨Sqz.auR, Sqz.auHB⟩
        · replace c9 := Bool.eq_false_iff.mpr c9
          subst c9
          have H1 : ((impl_ThreeFind.f t189).bind fun bt192 => ((impl_CoreOf.f kj5 t189).bind fun bt196 => ((some (([1, 1, 1, wrap64 (-bt196.1)] : List Int) : List Int)).bind fun y199 => (if bt192.2 = true then (if (wrap64 (4 * t189)) > 2000 then (if t189 = 0 then (some true) else (if bt196.2.2 = true then ((impl_FormValid.f kj5 y199).bind fun t202 => (if t202 = true then ((impl_FormVanishes.f kj5 y199 2).bind fun t203 => (some t203)) else (some true))) else (some false))) else ((impl_ThreeIs.f kj5 (wrap64 (4 * t189))).bind fun t204 => (if t204 = true then (if t189 = 0 then (some true) else (if bt196.2.2 = true then ((impl_FormValid.f kj5 y199).bind fun t205 => (if t205 = true then ((impl_FormVanishes.f kj5 y199 2).bind fun t206 => (some t206)) else (some true))) else (some false))) else (some false)))) else (some false))))) = some r := by rw [if_neg (show ¬ (false = true) by decide)] at H; exact H
          clear H
          have H := H1
          clear H1
          replace H := Option.bind_eq_some_iff.mp H
          obtain ⟨⟨t192, t193⟩, A100, H⟩ := H
          replace H : ((impl_CoreOf.f kj5 t189).bind fun bt196 => ((some (([1, 1, 1, wrap64 (-bt196.1)] : List Int) : List Int)).bind fun y199 => (if t193 = true then (if (wrap64 (4 * t189)) > 2000 then (if t189 = 0 then (some true) else (if bt196.2.2 = true then ((impl_FormValid.f kj5 y199).bind fun t202 => (if t202 = true then ((impl_FormVanishes.f kj5 y199 2).bind fun t203 => (some t203)) else (some true))) else (some false))) else ((impl_ThreeIs.f kj5 (wrap64 (4 * t189))).bind fun t204 => (if t204 = true then (if t189 = 0 then (some true) else (if bt196.2.2 = true then ((impl_FormValid.f kj5 y199).bind fun t205 => (if t205 = true then ((impl_FormVanishes.f kj5 y199 2).bind fun t206 => (some t206)) else (some true))) else (some false))) else (some false)))) else (some false)))) = some r := H
          have A10 := Aside0.mk A100
          clear A100
          replace H := Option.bind_eq_some_iff.mp H
          obtain ⟨⟨t196, t197, t198⟩, A110, H⟩ := H
          replace H : ((some (([1, 1, 1, wrap64 (-t196)] : List Int) : List Int)).bind fun y199 => (if t193 = true then (if (wrap64 (4 * t189)) > 2000 then (if t189 = 0 then (some true) else (if t198 = true then ((impl_FormValid.f kj5 y199).bind fun t202 => (if t202 = true then ((impl_FormVanishes.f kj5 y199 2).bind fun t203 => (some t203)) else (some true))) else (some false))) else ((impl_ThreeIs.f kj5 (wrap64 (4 * t189))).bind fun t204 => (if t204 = true then (if t189 = 0 then (some true) else (if t198 = true then ((impl_FormValid.f kj5 y199).bind fun t205 => (if t205 = true then ((impl_FormVanishes.f kj5 y199 2).bind fun t206 => (some t206)) else (some true))) else (some false))) else (some false)))) else (some false))) = some r := H
          have A11 := Aside0.mk A110
          clear A110
          obtain ⟨y199, hy199⟩ : ∃ y_ : List Int, y_ = (([1, 1, 1, wrap64 (-t196)] : List Int)) := ⟨_, rfl⟩
          replace H : (if t193 = true then (if (wrap64 (4 * t189)) > 2000 then (if t189 = 0 then (some true) else (if t198 = true then ((impl_FormValid.f kj5 y199).bind fun t202 => (if t202 = true then ((impl_FormVanishes.f kj5 y199 2).bind fun t203 => (some t203)) else (some true))) else (some false))) else ((impl_ThreeIs.f kj5 (wrap64 (4 * t189))).bind fun t204 => (if t204 = true then (if t189 = 0 then (some true) else (if t198 = true then ((impl_FormValid.f kj5 y199).bind fun t205 => (if t205 = true then ((impl_FormVanishes.f kj5 y199 2).bind fun t206 => (some t206)) else (some true))) else (some false))) else (some false)))) else (some false)) = some r := by first | (rw [hy199]; with_reducible exact H) | (have H2_ := (Option.bind_some _ _).symm.trans H; rw [hy199]; with_reducible exact H2_) | (have H2_ := (Option.bind_some _ _).symm.trans H; with_reducible exact H2_) | with_reducible exact H | (rw [hy199]; exact H) | exact H
          have Ny199 := Aside0.mk hy199
          clear hy199
          by_cases c12 : t193 = true
          · subst c12
            have H1 : (if (wrap64 (4 * t189)) > 2000 then (if t189 = 0 then (some true) else (if t198 = true then ((impl_FormValid.f kj5 y199).bind fun t202 => (if t202 = true then ((impl_FormVanishes.f kj5 y199 2).bind fun t203 => (some t203)) else (some true))) else (some false))) else ((impl_ThreeIs.f kj5 (wrap64 (4 * t189))).bind fun t204 => (if t204 = true then (if t189 = 0 then (some true) else (if t198 = true then ((impl_FormValid.f kj5 y199).bind fun t205 => (if t205 = true then ((impl_FormVanishes.f kj5 y199 2).bind fun t206 => (some t206)) else (some true))) else (some false))) else (some false)))) = some r := by rw [if_pos rfl] at H; exact H
            clear H
            have H := H1
            clear H1
            by_cases c13 : (wrap64 (4 * t189)) > 2000
            · rw [if_pos c13] at H
              have c13b0 : decide (2000 < (wrap64 (4 * t189))) = true := decide_eq_true c13
              clear c13
              by_cases c14 : t189 = 0
              · rw [if_pos c14] at H
                have c14b0 : (t189 == 0) = true := beq_iff_eq.mpr c14
                have c14b1 : (t189 != 0) = false := bne_eq_false_iff_eq.mpr c14
                clear c14
                obtain rfl := Option.some.inj H
                go_wp2_with (first | ((with_reducible refine gate_callee (f := 18) rfl ?_); refine goesL_ (some 33) rfl rfl Try.func18 (by kernel_rfl) rfl #[.int .i64 t189] rfl Sqz.auM ?_; (with_reducible refine (impl_ThreeFind.calls t189 t192 true _ A10.out).mono ?_); rintro e w15 ⟨v194, rfl, ho0, hb⟩; refine ⟨_, rfl, ?_⟩; have n0_ := Aside0.mk (Kd.R_lower ho0 (below_size (Sqz.auHB))); have n1_ := Aside0.mk (below_step (Sqz.auHB) hb); clear HB; have HO195 := n0_; have HB := n1_; clear n0_ n1_; (try clear hb); (try clear hb2); (try clear hk); (try clear hi); (try clear ho0)) | ((with_reducible refine gate_callee (f := 19) rfl ?_); refine goesL_ (some 38) rfl rfl Try.func19 (by kernel_rfl) rfl #[.int .i64 t189] rfl Sqz.auM ?_; (with_reducible refine (impl_CoreOf.calls kj5 t189 t196 t197 t198 _ A11.out).mono ?_); rintro e w16 ⟨rfl, hb⟩; refine ⟨_, rfl, ?_⟩; have n0_ := Aside0.mk (Kd.R_below ((Sqz.mvR HO195.out)) hb); have n1_ := Aside0.mk (below_step (Sqz.auHB) hb); clear HO195; clear HB; have HO195 := n0_; have HB := n1_; clear n0_ n1_; (try clear hb); (try clear hb2); (try clear hk); (try clear hi)) | ((with_reducible refine gate_dst (N := 44) rfl ?_); refine Kd.R_lit (Kd.int .i64) _ 3 ?hg (N := 44) ?hd (xs := ([1, 1, 1, wrap64 (-t196)] : List Int)) (inner := [.int .i64 1, .int .i64 1, .int .i64 1, .int .i64 (wrap64 (-t196))]) (ok := fun _ => True) (okp := fun _ => True) ?hr ?hp (fun _ hk => hk) trivial (Below.refl _ _) (Nat.le_refl _) (by simp) ?_; (case hd => rfl); (case hg => rfl); (case hr => first | (go_simp; done) | (go_simp; rfl)); (case hp => exact (Reps.one (show Kd.M (Kd.int .i64) _ _ _ 1 [.int .i64 1] from rfl) (Reps.one (show Kd.M (Kd.int .i64) _ _ _ 1 [.int .i64 1] from rfl) (Reps.one (show Kd.M (Kd.int .i64) _ _ _ 1 [.int .i64 1] from rfl) (Reps.one (show Kd.M (Kd.int .i64) _ _ _ (wrap64 (-t196)) [.int .i64 (wrap64 (-t196))] from rfl) (Reps.none _ _)))))); intro v200 w17 ho18 hb hg_ hnew_; clear hg_ hnew_; (first | rw [← Ny199.out] at ho18 | (simp only [Int.reduceToNat] at ho18; rw [← Ny199.out] at ho18)); have n0_ := Aside0.mk (Kd.R_elder' ((Sqz.mvR HO195.out)) (Kd.R_base ho18) hb); have n1_ := Aside0.mk (Kd.R_lower (Kd.R_new' ho18 (Kd.R_lt ((Sqz.mvR HO195.out)))) (below_size (Sqz.auHB))); have n2_ := Aside0.mk (below_step (Sqz.auHB) hb); clear HO195; clear HB; have HO195 := n0_; have HO201 := n1_; have HB := n2_; clear n0_ n1_ n2_; clear hb ho18))
                go_ret
                exact ⟨Sqz.auR, Sqz.auHB⟩
              · rw [if_neg c14] at H
                have c14b0 : (t189 == 0) = false := beq_eq_false_iff_ne.mpr c14
                have c14b1 : (t189 != 0) = true := bne_iff_ne.mpr c14
                by_cases c19 : t198 = true
                · subst c19
                  have H1 : ((impl_FormValid.f kj5 y199).bind fun t202 => (if t202 = true then ((impl_FormVanishes.f kj5 y199 2).bind fun t203 => (some t203)) else (some true))) = some r := by rw [if_pos rfl] at H; exact H
                  clear H
                  have H := H1
                  clear H1
                  replace H := Option.bind_eq_some_iff.mp H
                  obtain ⟨t202, A200, H⟩ := H
                  replace H : (if t202 = true then ((impl_FormVanishes.f kj5 y199 2).bind fun t203 => (some t203)) else (some true)) = some r := H
                  have A20 := Aside0.mk A200
                  clear A200
                  by_cases c21 : t202 = true
                  · subst c21
                    have H1 : ((impl_FormVanishes.f kj5 y199 2).bind fun t203 => (some t203)) = some r := by rw [if_pos rfl] at H; exact H
                    clear H
                    have H := H1
                    clear H1
                    replace H := Option.bind_eq_some_iff.mp H
                    obtain ⟨t203, A220, H⟩ := H
                    replace H : (some t203) = some r := H
                    have A22 := Aside0.mk A220
                    clear A220
                    obtain rfl := Option.some.inj H
                    go_wp2_with (first | ((with_reducible refine gate_callee (f := 18) rfl ?_); refine goesL_ (some 33) rfl rfl Try.func18 (by kernel_rfl) rfl #[.int .i64 t189] rfl Sqz.auM ?_; (with_reducible refine (impl_ThreeFind.calls t189 t192 true _ A10.out).mono ?_); rintro e w23 ⟨v194, rfl, ho0, hb⟩; refine ⟨_, rfl, ?_⟩; have n0_ := Aside0.mk (Kd.R_lower ho0 (below_size (Sqz.auHB))); have n1_ := Aside0.mk (below_step (Sqz.auHB) hb); clear HB; have HO195 := n0_; have HB := n1_; clear n0_ n1_; (try clear hb); (try clear hb2); (try clear hk); (try clear hi); (try clear ho0)) | ((with_reducible refine gate_callee (f := 19) rfl ?_); refine goesL_ (some 38) rfl rfl Try.func19 (by kernel_rfl) rfl #[.int .i64 t189] rfl Sqz.auM ?_; (with_reducible refine (impl_CoreOf.calls kj5 t189 t196 t197 true _ A11.out).mono ?_); rintro e w24 ⟨rfl, hb⟩; refine ⟨_, rfl, ?_⟩; have n0_ := Aside0.mk (Kd.R_below ((Sqz.mvR HO195.out)) hb); have n1_ := Aside0.mk (below_step (Sqz.auHB) hb); clear HO195; clear HB; have HO195 := n0_; have HB := n1_; clear n0_ n1_; (try clear hb); (try clear hb2); (try clear hk); (try clear hi)) | ((with_reducible refine gate_dst (N := 44) rfl ?_); refine Kd.R_lit (Kd.int .i64) _ 3 ?hg (N := 44) ?hd (xs := ([1, 1, 1, wrap64 (-t196)] : List Int)) (inner := [.int .i64 1, .int .i64 1, .int .i64 1, .int .i64 (wrap64 (-t196))]) (ok := fun _ => True) (okp := fun _ => True) ?hr ?hp (fun _ hk => hk) trivial (Below.refl _ _) (Nat.le_refl _) (by simp) ?_; (case hd => rfl); (case hg => rfl); (case hr => first | (go_simp; done) | (go_simp; rfl)); (case hp => exact (Reps.one (show Kd.M (Kd.int .i64) _ _ _ 1 [.int .i64 1] from rfl) (Reps.one (show Kd.M (Kd.int .i64) _ _ _ 1 [.int .i64 1] from rfl) (Reps.one (show Kd.M (Kd.int .i64) _ _ _ 1 [.int .i64 1] from rfl) (Reps.one (show Kd.M (Kd.int .i64) _ _ _ (wrap64 (-t196)) [.int .i64 (wrap64 (-t196))] from rfl) (Reps.none _ _)))))); intro v200 w25 ho26 hb hg_ hnew_; clear hg_ hnew_; (first | rw [← Ny199.out] at ho26 | (simp only [Int.reduceToNat] at ho26; rw [← Ny199.out] at ho26)); have n0_ := Aside0.mk (Kd.R_elder' ((Sqz.mvR HO195.out)) (Kd.R_base ho26) hb); have n1_ := Aside0.mk (Kd.R_lower (Kd.R_new' ho26 (Kd.R_lt ((Sqz.mvR HO195.out)))) (below_size (Sqz.auHB))); have n2_ := Aside0.mk (below_step (Sqz.auHB) hb); clear HO195; clear HB; have HO195 := n0_; have HO201 := n1_; have HB := n2_; clear n0_ n1_ n2_; clear hb ho26; obtain ⟨Ao27, co27, eo27⟩ := Kd.R_slice HO201.out; subst eo27) | (go_at_call 20; (with_reducible refine (impl_FormValid.calls kj5 _ _ y199 true _ ?side1 ?side2 A20.out).mono ?_); (case side1 => exact Sqz.mvC ((Kd.R_reads' HO201.out).2.2)); (case side2 => exact (Kd.R_reads' HO201.out).2.1); rintro e w28 ⟨rfl, hb⟩; have n0_ := Aside0.mk (Kd.R_below ((Sqz.mvR HO195.out)) hb); have n1_ := Aside0.mk (Kd.R_below ((Sqz.mvR HO201.out)) hb); have n2_ := Aside0.mk (below_step (Sqz.auHB) hb); clear HO195; clear HO201; clear HB; have HO195 := n0_; have HO201 := n1_; have HB := n2_; clear n0_ n1_ n2_; (try clear hb); (try clear hb2); (try clear hk); (try clear hi)) | (go_at_call 21; (with_reducible refine (impl_FormVanishes.calls kj5 _ _ y199 2 t203 _ ?side1 ?side2 A22.out).mono ?_); (case side1 => exact Sqz.mvC ((Kd.R_reads' HO201.out).2.2)); (case side2 => exact (Kd.R_reads' HO201.out).2.1); rintro e w29 ⟨rfl, hb⟩; have n0_ := Aside0.mk (Kd.R_below ((Sqz.mvR HO195.out)) hb); have n1_ := Aside0.mk (Kd.R_below ((Sqz.mvR HO201.out)) hb); have n2_ := Aside0.mk (below_step (Sqz.auHB) hb); clear HO195; clear HO201; clear HB; have HO195 := n0_; have HO201 := n1_; have HB := n2_; clear n0_ n1_ n2_; (try clear hb); (try clear hb2); (try clear hk); (try clear hi)))
                    go_ret
                    exact ⟨Sqz.auR, Sqz.auHB⟩
                  · replace c21 := Bool.eq_false_iff.mpr c21
                    subst c21
                    have H1 : (some true) = some r := by rw [if_neg (show ¬ (false = true) by decide)] at H; exact H
                    clear H
                    have H := H1
                    clear H1
                    obtain rfl := Option.some.inj H
                    go_wp2_with (first | ((with_reducible refine gate_callee (f := 18) rfl ?_); refine goesL_ (some 33) rfl rfl Try.func18 (by kernel_rfl) rfl #[.int .i64 t189] rfl Sqz.auM ?_; (with_reducible refine (impl_ThreeFind.calls t189 t192 true _ A10.out).mono ?_); rintro e w30 ⟨v194, rfl, ho0, hb⟩; refine ⟨_, rfl, ?_⟩; have n0_ := Aside0.mk (Kd.R_lower ho0 (below_size (Sqz.auHB))); have n1_ := Aside0.mk (below_step (Sqz.auHB) hb); clear HB; have HO195 := n0_; have HB := n1_; clear n0_ n1_; (try clear hb); (try clear hb2); (try clear hk); (try clear hi); (try clear ho0)) | ((with_reducible refine gate_callee (f := 19) rfl ?_); refine goesL_ (some 38) rfl rfl Try.func19 (by kernel_rfl) rfl #[.int .i64 t189] rfl Sqz.auM ?_; (with_reducible refine (impl_CoreOf.calls kj5 t189 t196 t197 true _ A11.out).mono ?_); rintro e w31 ⟨rfl, hb⟩; refine ⟨_, rfl, ?_⟩; have n0_ := Aside0.mk (Kd.R_below ((Sqz.mvR HO195.out)) hb); have n1_ := Aside0.mk (below_step (Sqz.auHB) hb); clear HO195; clear HB; have HO195 := n0_; have HB := n1_; clear n0_ n1_; (try clear hb); (try clear hb2); (try clear hk); (try clear hi)) | ((with_reducible refine gate_dst (N := 44) rfl ?_); refine Kd.R_lit (Kd.int .i64) _ 3 ?hg (N := 44) ?hd (xs := ([1, 1, 1, wrap64 (-t196)] : List Int)) (inner := [.int .i64 1, .int .i64 1, .int .i64 1, .int .i64 (wrap64 (-t196))]) (ok := fun _ => True) (okp := fun _ => True) ?hr ?hp (fun _ hk => hk) trivial (Below.refl _ _) (Nat.le_refl _) (by simp) ?_; (case hd => rfl); (case hg => rfl); (case hr => first | (go_simp; done) | (go_simp; rfl)); (case hp => exact (Reps.one (show Kd.M (Kd.int .i64) _ _ _ 1 [.int .i64 1] from rfl) (Reps.one (show Kd.M (Kd.int .i64) _ _ _ 1 [.int .i64 1] from rfl) (Reps.one (show Kd.M (Kd.int .i64) _ _ _ 1 [.int .i64 1] from rfl) (Reps.one (show Kd.M (Kd.int .i64) _ _ _ (wrap64 (-t196)) [.int .i64 (wrap64 (-t196))] from rfl) (Reps.none _ _)))))); intro v200 w32 ho33 hb hg_ hnew_; clear hg_ hnew_; (first | rw [← Ny199.out] at ho33 | (simp only [Int.reduceToNat] at ho33; rw [← Ny199.out] at ho33)); have n0_ := Aside0.mk (Kd.R_elder' ((Sqz.mvR HO195.out)) (Kd.R_base ho33) hb); have n1_ := Aside0.mk (Kd.R_lower (Kd.R_new' ho33 (Kd.R_lt ((Sqz.mvR HO195.out)))) (below_size (Sqz.auHB))); have n2_ := Aside0.mk (below_step (Sqz.auHB) hb); clear HO195; clear HB; have HO195 := n0_; have HO201 := n1_; have HB := n2_; clear n0_ n1_ n2_; clear hb ho33; obtain ⟨Ao34, co34, eo34⟩ := Kd.R_slice HO201.out; subst eo34) | (go_at_call 20; (with_reducible refine (impl_FormValid.calls kj5 _ _ y199 false _ ?side1 ?side2 A20.out).mono ?_); (case side1 => exact Sqz.mvC ((Kd.R_reads' HO201.out).2.2)); (case side2 => exact (Kd.R_reads' HO201.out).2.1); rintro e w35 ⟨rfl, hb⟩; have n0_ := Aside0.mk (Kd.R_below ((Sqz.mvR HO195.out)) hb); have n1_ := Aside0.mk (Kd.R_below ((Sqz.mvR HO201.out)) hb); have n2_ := Aside0.mk (below_step (Sqz.auHB) hb); clear HO195; clear HO201; clear HB; have HO195 := n0_; have HO201 := n1_; have HB := n2_; clear n0_ n1_ n2_; (try clear hb); (try clear hb2); (try clear hk); (try clear hi)))
                    go_ret
                    exact ⟨Sqz.auR, Sqz.auHB⟩
                · replace c19 := Bool.eq_false_iff.mpr c19
                  subst c19
                  have H1 : (some false) = some r := by rw [if_neg (show ¬ (false = true) by decide)] at H; exact H
                  clear H
                  have H := H1
                  clear H1
                  obtain rfl := Option.some.inj H
                  go_wp2_with (first | ((with_reducible refine gate_callee (f := 18) rfl ?_); refine goesL_ (some 33) rfl rfl Try.func18 (by kernel_rfl) rfl #[.int .i64 t189] rfl Sqz.auM ?_; (with_reducible refine (impl_ThreeFind.calls t189 t192 true _ A10.out).mono ?_); rintro e w36 ⟨v194, rfl, ho0, hb⟩; refine ⟨_, rfl, ?_⟩; have n0_ := Aside0.mk (Kd.R_lower ho0 (below_size (Sqz.auHB))); have n1_ := Aside0.mk (below_step (Sqz.auHB) hb); clear HB; have HO195 := n0_; have HB := n1_; clear n0_ n1_; (try clear hb); (try clear hb2); (try clear hk); (try clear hi); (try clear ho0)) | ((with_reducible refine gate_callee (f := 19) rfl ?_); refine goesL_ (some 38) rfl rfl Try.func19 (by kernel_rfl) rfl #[.int .i64 t189] rfl Sqz.auM ?_; (with_reducible refine (impl_CoreOf.calls kj5 t189 t196 t197 false _ A11.out).mono ?_); rintro e w37 ⟨rfl, hb⟩; refine ⟨_, rfl, ?_⟩; have n0_ := Aside0.mk (Kd.R_below ((Sqz.mvR HO195.out)) hb); have n1_ := Aside0.mk (below_step (Sqz.auHB) hb); clear HO195; clear HB; have HO195 := n0_; have HB := n1_; clear n0_ n1_; (try clear hb); (try clear hb2); (try clear hk); (try clear hi)) | ((with_reducible refine gate_dst (N := 44) rfl ?_); refine Kd.R_lit (Kd.int .i64) _ 3 ?hg (N := 44) ?hd (xs := ([1, 1, 1, wrap64 (-t196)] : List Int)) (inner := [.int .i64 1, .int .i64 1, .int .i64 1, .int .i64 (wrap64 (-t196))]) (ok := fun _ => True) (okp := fun _ => True) ?hr ?hp (fun _ hk => hk) trivial (Below.refl _ _) (Nat.le_refl _) (by simp) ?_; (case hd => rfl); (case hg => rfl); (case hr => first | (go_simp; done) | (go_simp; rfl)); (case hp => exact (Reps.one (show Kd.M (Kd.int .i64) _ _ _ 1 [.int .i64 1] from rfl) (Reps.one (show Kd.M (Kd.int .i64) _ _ _ 1 [.int .i64 1] from rfl) (Reps.one (show Kd.M (Kd.int .i64) _ _ _ 1 [.int .i64 1] from rfl) (Reps.one (show Kd.M (Kd.int .i64) _ _ _ (wrap64 (-t196)) [.int .i64 (wrap64 (-t196))] from rfl) (Reps.none _ _)))))); intro v200 w38 ho39 hb hg_ hnew_; clear hg_ hnew_; (first | rw [← Ny199.out] at ho39 | (simp only [Int.reduceToNat] at ho39; rw [← Ny199.out] at ho39)); have n0_ := Aside0.mk (Kd.R_elder' ((Sqz.mvR HO195.out)) (Kd.R_base ho39) hb); have n1_ := Aside0.mk (Kd.R_lower (Kd.R_new' ho39 (Kd.R_lt ((Sqz.mvR HO195.out)))) (below_size (Sqz.auHB))); have n2_ := Aside0.mk (below_step (Sqz.auHB) hb); clear HO195; clear HB; have HO195 := n0_; have HO201 := n1_; have HB := n2_; clear n0_ n1_ n2_; clear hb ho39))
                  go_ret
                  exact ⟨Sqz.auR, Sqz.auHB⟩
            · rw [if_neg c13] at H
              have c13b0 : decide (2000 < (wrap64 (4 * t189))) = false := decide_eq_false c13
              clear c13
              replace H := Option.bind_eq_some_iff.mp H
              obtain ⟨t204, A400, H⟩ := H
              replace H : (if t204 = true then (if t189 = 0 then (some true) else (if t198 = true then ((impl_FormValid.f kj5 y199).bind fun t205 => (if t205 = true then ((impl_FormVanishes.f kj5 y199 2).bind fun t206 => (some t206)) else (some true))) else (some false))) else (some false)) = some r := H
              have A40 := Aside0.mk A400
              clear A400
              by_cases c41 : t204 = true
              · subst c41
                have H1 : (if t189 = 0 then (some true) else (if t198 = true then ((impl_FormValid.f kj5 y199).bind fun t205 => (if t205 = true then ((impl_FormVanishes.f kj5 y199 2).bind fun t206 => (some t206)) else (some true))) else (some false))) = some r := by rw [if_pos rfl] at H; exact H
                clear H
                have H := H1
                clear H1
                by_cases c42 : t189 = 0
                · rw [if_pos c42] at H
                  have c42b0 : (t189 == 0) = true := beq_iff_eq.mpr c42
                  have c42b1 : (t189 != 0) = false := bne_eq_false_iff_eq.mpr c42
                  clear c42
                  obtain rfl := Option.some.inj H
                  go_wp2_with (first | ((with_reducible refine gate_callee (f := 18) rfl ?_); refine goesL_ (some 33) rfl rfl Try.func18 (by kernel_rfl) rfl #[.int .i64 t189] rfl Sqz.auM ?_; (with_reducible refine (impl_ThreeFind.calls t189 t192 true _ A10.out).mono ?_); rintro e w43 ⟨v194, rfl, ho0, hb⟩; refine ⟨_, rfl, ?_⟩; have n0_ := Aside0.mk (Kd.R_lower ho0 (below_size (Sqz.auHB))); have n1_ := Aside0.mk (below_step (Sqz.auHB) hb); clear HB; have HO195 := n0_; have HB := n1_; clear n0_ n1_; (try clear hb); (try clear hb2); (try clear hk); (try clear hi); (try clear ho0)) | ((with_reducible refine gate_callee (f := 19) rfl ?_); refine goesL_ (some 38) rfl rfl Try.func19 (by kernel_rfl) rfl #[.int .i64 t189] rfl Sqz.auM ?_; (with_reducible refine (impl_CoreOf.calls kj5 t189 t196 t197 t198 _ A11.out).mono ?_); rintro e w44 ⟨rfl, hb⟩; refine ⟨_, rfl, ?_⟩; have n0_ := Aside0.mk (Kd.R_below ((Sqz.mvR HO195.out)) hb); have n1_ := Aside0.mk (below_step (Sqz.auHB) hb); clear HO195; clear HB; have HO195 := n0_; have HB := n1_; clear n0_ n1_; (try clear hb); (try clear hb2); (try clear hk); (try clear hi)) | ((with_reducible refine gate_dst (N := 44) rfl ?_); refine Kd.R_lit (Kd.int .i64) _ 3 ?hg (N := 44) ?hd (xs := ([1, 1, 1, wrap64 (-t196)] : List Int)) (inner := [.int .i64 1, .int .i64 1, .int .i64 1, .int .i64 (wrap64 (-t196))]) (ok := fun _ => True) (okp := fun _ => True) ?hr ?hp (fun _ hk => hk) trivial (Below.refl _ _) (Nat.le_refl _) (by simp) ?_; (case hd => rfl); (case hg => rfl); (case hr => first | (go_simp; done) | (go_simp; rfl)); (case hp => exact (Reps.one (show Kd.M (Kd.int .i64) _ _ _ 1 [.int .i64 1] from rfl) (Reps.one (show Kd.M (Kd.int .i64) _ _ _ 1 [.int .i64 1] from rfl) (Reps.one (show Kd.M (Kd.int .i64) _ _ _ 1 [.int .i64 1] from rfl) (Reps.one (show Kd.M (Kd.int .i64) _ _ _ (wrap64 (-t196)) [.int .i64 (wrap64 (-t196))] from rfl) (Reps.none _ _)))))); intro v200 w45 ho46 hb hg_ hnew_; clear hg_ hnew_; (first | rw [← Ny199.out] at ho46 | (simp only [Int.reduceToNat] at ho46; rw [← Ny199.out] at ho46)); have n0_ := Aside0.mk (Kd.R_elder' ((Sqz.mvR HO195.out)) (Kd.R_base ho46) hb); have n1_ := Aside0.mk (Kd.R_lower (Kd.R_new' ho46 (Kd.R_lt ((Sqz.mvR HO195.out)))) (below_size (Sqz.auHB))); have n2_ := Aside0.mk (below_step (Sqz.auHB) hb); clear HO195; clear HB; have HO195 := n0_; have HO201 := n1_; have HB := n2_; clear n0_ n1_ n2_; clear hb ho46) | (go_at_call 16; (with_reducible refine (impl_ThreeIs.calls kj5 (wrap64 (4 * t189)) true _ A40.out).mono ?_); rintro e w' ⟨rfl, ⟨nd, rfl⟩⟩))
                  go_ret
                  exact ⟨Sqz.auR, Sqz.auHB⟩
                · rw [if_neg c42] at H
                  have c42b0 : (t189 == 0) = false := beq_eq_false_iff_ne.mpr c42
                  have c42b1 : (t189 != 0) = true := bne_iff_ne.mpr c42
                  by_cases c47 : t198 = true
                  · subst c47
                    have H1 : ((impl_FormValid.f kj5 y199).bind fun t205 => (if t205 = true then ((impl_FormVanishes.f kj5 y199 2).bind fun t206 => (some t206)) else (some true))) = some r := by rw [if_pos rfl] at H; exact H
                    clear H
                    have H := H1
                    clear H1
                    replace H := Option.bind_eq_some_iff.mp H
                    obtain ⟨t205, A480, H⟩ := H
                    replace H : (if t205 = true then ((impl_FormVanishes.f kj5 y199 2).bind fun t206 => (some t206)) else (some true)) = some r := H
                    have A48 := Aside0.mk A480
                    clear A480
                    by_cases c49 : t205 = true
                    · subst c49
                      have H1 : ((impl_FormVanishes.f kj5 y199 2).bind fun t206 => (some t206)) = some r := by rw [if_pos rfl] at H; exact H
                      clear H
                      have H := H1
                      clear H1
                      replace H := Option.bind_eq_some_iff.mp H
                      obtain ⟨t206, A500, H⟩ := H
                      replace H : (some t206) = some r := H
                      have A50 := Aside0.mk A500
                      clear A500
                      obtain rfl := Option.some.inj H
                      go_wp2_with (first | ((with_reducible refine gate_callee (f := 18) rfl ?_); refine goesL_ (some 33) rfl rfl Try.func18 (by kernel_rfl) rfl #[.int .i64 t189] rfl Sqz.auM ?_; (with_reducible refine (impl_ThreeFind.calls t189 t192 true _ A10.out).mono ?_); rintro e w51 ⟨v194, rfl, ho0, hb⟩; refine ⟨_, rfl, ?_⟩; have n0_ := Aside0.mk (Kd.R_lower ho0 (below_size (Sqz.auHB))); have n1_ := Aside0.mk (below_step (Sqz.auHB) hb); clear HB; have HO195 := n0_; have HB := n1_; clear n0_ n1_; (try clear hb); (try clear hb2); (try clear hk); (try clear hi); (try clear ho0)) | ((with_reducible refine gate_callee (f := 19) rfl ?_); refine goesL_ (some 38) rfl rfl Try.func19 (by kernel_rfl) rfl #[.int .i64 t189] rfl Sqz.auM ?_; (with_reducible refine (impl_CoreOf.calls kj5 t189 t196 t197 true _ A11.out).mono ?_); rintro e w52 ⟨rfl, hb⟩; refine ⟨_, rfl, ?_⟩; have n0_ := Aside0.mk (Kd.R_below ((Sqz.mvR HO195.out)) hb); have n1_ := Aside0.mk (below_step (Sqz.auHB) hb); clear HO195; clear HB; have HO195 := n0_; have HB := n1_; clear n0_ n1_; (try clear hb); (try clear hb2); (try clear hk); (try clear hi)) | ((with_reducible refine gate_dst (N := 44) rfl ?_); refine Kd.R_lit (Kd.int .i64) _ 3 ?hg (N := 44) ?hd (xs := ([1, 1, 1, wrap64 (-t196)] : List Int)) (inner := [.int .i64 1, .int .i64 1, .int .i64 1, .int .i64 (wrap64 (-t196))]) (ok := fun _ => True) (okp := fun _ => True) ?hr ?hp (fun _ hk => hk) trivial (Below.refl _ _) (Nat.le_refl _) (by simp) ?_; (case hd => rfl); (case hg => rfl); (case hr => first | (go_simp; done) | (go_simp; rfl)); (case hp => exact (Reps.one (show Kd.M (Kd.int .i64) _ _ _ 1 [.int .i64 1] from rfl) (Reps.one (show Kd.M (Kd.int .i64) _ _ _ 1 [.int .i64 1] from rfl) (Reps.one (show Kd.M (Kd.int .i64) _ _ _ 1 [.int .i64 1] from rfl) (Reps.one (show Kd.M (Kd.int .i64) _ _ _ (wrap64 (-t196)) [.int .i64 (wrap64 (-t196))] from rfl) (Reps.none _ _)))))); intro v200 w53 ho54 hb hg_ hnew_; clear hg_ hnew_; (first | rw [← Ny199.out] at ho54 | (simp only [Int.reduceToNat] at ho54; rw [← Ny199.out] at ho54)); have n0_ := Aside0.mk (Kd.R_elder' ((Sqz.mvR HO195.out)) (Kd.R_base ho54) hb); have n1_ := Aside0.mk (Kd.R_lower (Kd.R_new' ho54 (Kd.R_lt ((Sqz.mvR HO195.out)))) (below_size (Sqz.auHB))); have n2_ := Aside0.mk (below_step (Sqz.auHB) hb); clear HO195; clear HB; have HO195 := n0_; have HO201 := n1_; have HB := n2_; clear n0_ n1_ n2_; clear hb ho54) | (go_at_call 16; (with_reducible refine (impl_ThreeIs.calls kj5 (wrap64 (4 * t189)) true _ A40.out).mono ?_); rintro e w' ⟨rfl, ⟨nd, rfl⟩⟩; obtain ⟨Ao55, co55, eo55⟩ := Kd.R_slice HO201.out; subst eo55) | (go_at_call 20; (with_reducible refine (impl_FormValid.calls kj5 _ _ y199 true _ ?side1 ?side2 A48.out).mono ?_); (case side1 => exact Sqz.mvC ((Kd.R_reads' HO201.out).2.2)); (case side2 => exact (Kd.R_reads' HO201.out).2.1); rintro e w56 ⟨rfl, hb⟩; have n0_ := Aside0.mk (Kd.R_below ((Sqz.mvR HO195.out)) hb); have n1_ := Aside0.mk (Kd.R_below ((Sqz.mvR HO201.out)) hb); have n2_ := Aside0.mk (below_step (Sqz.auHB) hb); clear HO195; clear HO201; clear HB; have HO195 := n0_; have HO201 := n1_; have HB := n2_; clear n0_ n1_ n2_; (try clear hb); (try clear hb2); (try clear hk); (try clear hi)) | (go_at_call 21; (with_reducible refine (impl_FormVanishes.calls kj5 _ _ y199 2 t206 _ ?side1 ?side2 A50.out).mono ?_); (case side1 => exact Sqz.mvC ((Kd.R_reads' HO201.out).2.2)); (case side2 => exact (Kd.R_reads' HO201.out).2.1); rintro e w57 ⟨rfl, hb⟩; have n0_ := Aside0.mk (Kd.R_below ((Sqz.mvR HO195.out)) hb); have n1_ := Aside0.mk (Kd.R_below ((Sqz.mvR HO201.out)) hb); have n2_ := Aside0.mk (below_step (Sqz.auHB) hb); clear HO195; clear HO201; clear HB; have HO195 := n0_; have HO201 := n1_; have HB := n2_; clear n0_ n1_ n2_; (try clear hb); (try clear hb2); (try clear hk); (try clear hi)))
                      go_ret
                      exact ⟨Sqz.auR, Sqz.auHB⟩
                    · replace c49 := Bool.eq_false_iff.mpr c49
                      subst c49
                      have H1 : (some true) = some r := by rw [if_neg (show ¬ (false = true) by decide)] at H; exact H
                      clear H
                      have H := H1
                      clear H1
                      obtain rfl := Option.some.inj H
                      go_wp2_with (first | ((with_reducible refine gate_callee (f := 18) rfl ?_); refine goesL_ (some 33) rfl rfl Try.func18 (by kernel_rfl) rfl #[.int .i64 t189] rfl Sqz.auM ?_; (with_reducible refine (impl_ThreeFind.calls t189 t192 true _ A10.out).mono ?_); rintro e w58 ⟨v194, rfl, ho0, hb⟩; refine ⟨_, rfl, ?_⟩; have n0_ := Aside0.mk (Kd.R_lower ho0 (below_size (Sqz.auHB))); have n1_ := Aside0.mk (below_step (Sqz.auHB) hb); clear HB; have HO195 := n0_; have HB := n1_; clear n0_ n1_; (try clear hb); (try clear hb2); (try clear hk); (try clear hi); (try clear ho0)) | ((with_reducible refine gate_callee (f := 19) rfl ?_); refine goesL_ (some 38) rfl rfl Try.func19 (by kernel_rfl) rfl #[.int .i64 t189] rfl Sqz.auM ?_; (with_reducible refine (impl_CoreOf.calls kj5 t189 t196 t197 true _ A11.out).mono ?_); rintro e w59 ⟨rfl, hb⟩; refine ⟨_, rfl, ?_⟩; have n0_ := Aside0.mk (Kd.R_below ((Sqz.mvR HO195.out)) hb); have n1_ := Aside0.mk (below_step (Sqz.auHB) hb); clear HO195; clear HB; have HO195 := n0_; have HB := n1_; clear n0_ n1_; (try clear hb); (try clear hb2); (try clear hk); (try clear hi)) | ((with_reducible refine gate_dst (N := 44) rfl ?_); refine Kd.R_lit (Kd.int .i64) _ 3 ?hg (N := 44) ?hd (xs := ([1, 1, 1, wrap64 (-t196)] : List Int)) (inner := [.int .i64 1, .int .i64 1, .int .i64 1, .int .i64 (wrap64 (-t196))]) (ok := fun _ => True) (okp := fun _ => True) ?hr ?hp (fun _ hk => hk) trivial (Below.refl _ _) (Nat.le_refl _) (by simp) ?_; (case hd => rfl); (case hg => rfl); (case hr => first | (go_simp; done) | (go_simp; rfl)); (case hp => exact (Reps.one (show Kd.M (Kd.int .i64) _ _ _ 1 [.int .i64 1] from rfl) (Reps.one (show Kd.M (Kd.int .i64) _ _ _ 1 [.int .i64 1] from rfl) (Reps.one (show Kd.M (Kd.int .i64) _ _ _ 1 [.int .i64 1] from rfl) (Reps.one (show Kd.M (Kd.int .i64) _ _ _ (wrap64 (-t196)) [.int .i64 (wrap64 (-t196))] from rfl) (Reps.none _ _)))))); intro v200 w60 ho61 hb hg_ hnew_; clear hg_ hnew_; (first | rw [← Ny199.out] at ho61 | (simp only [Int.reduceToNat] at ho61; rw [← Ny199.out] at ho61)); have n0_ := Aside0.mk (Kd.R_elder' ((Sqz.mvR HO195.out)) (Kd.R_base ho61) hb); have n1_ := Aside0.mk (Kd.R_lower (Kd.R_new' ho61 (Kd.R_lt ((Sqz.mvR HO195.out)))) (below_size (Sqz.auHB))); have n2_ := Aside0.mk (below_step (Sqz.auHB) hb); clear HO195; clear HB; have HO195 := n0_; have HO201 := n1_; have HB := n2_; clear n0_ n1_ n2_; clear hb ho61) | (go_at_call 16; (with_reducible refine (impl_ThreeIs.calls kj5 (wrap64 (4 * t189)) true _ A40.out).mono ?_); rintro e w' ⟨rfl, ⟨nd, rfl⟩⟩; obtain ⟨Ao62, co62, eo62⟩ := Kd.R_slice HO201.out; subst eo62) | (go_at_call 20; (with_reducible refine (impl_FormValid.calls kj5 _ _ y199 false _ ?side1 ?side2 A48.out).mono ?_); (case side1 => exact Sqz.mvC ((Kd.R_reads' HO201.out).2.2)); (case side2 => exact (Kd.R_reads' HO201.out).2.1); rintro e w63 ⟨rfl, hb⟩; have n0_ := Aside0.mk (Kd.R_below ((Sqz.mvR HO195.out)) hb); have n1_ := Aside0.mk (Kd.R_below ((Sqz.mvR HO201.out)) hb); have n2_ := Aside0.mk (below_step (Sqz.auHB) hb); clear HO195; clear HO201; clear HB; have HO195 := n0_; have HO201 := n1_; have HB := n2_; clear n0_ n1_ n2_; (try clear hb); (try clear hb2); (try clear hk); (try clear hi)))
                      go_ret
                      exact ⟨Sqz.auR, Sqz.auHB⟩
                  · replace c47 := Bool.eq_false_iff.mpr c47
                    subst c47
                    have H1 : (some false) = some r := by rw [if_neg (show ¬ (false = true) by decide)] at H; exact H
                    clear H
                    have H := H1
                    clear H1
                    obtain rfl := Option.some.inj H
                    go_wp2_with (first | ((with_reducible refine gate_callee (f := 18) rfl ?_); refine goesL_ (some 33) rfl rfl Try.func18 (by kernel_rfl) rfl #[.int .i64 t189] rfl Sqz.auM ?_; (with_reducible refine (impl_ThreeFind.calls t189 t192 true _ A10.out).mono ?_); rintro e w64 ⟨v194, rfl, ho0, hb⟩; refine ⟨_, rfl, ?_⟩; have n0_ := Aside0.mk (Kd.R_lower ho0 (below_size (Sqz.auHB))); have n1_ := Aside0.mk (below_step (Sqz.auHB) hb); clear HB; have HO195 := n0_; have HB := n1_; clear n0_ n1_; (try clear hb); (try clear hb2); (try clear hk); (try clear hi); (try clear ho0)) | ((with_reducible refine gate_callee (f := 19) rfl ?_); refine goesL_ (some 38) rfl rfl Try.func19 (by kernel_rfl) rfl #[.int .i64 t189] rfl Sqz.auM ?_; (with_reducible refine (impl_CoreOf.calls kj5 t189 t196 t197 false _ A11.out).mono ?_); rintro e w65 ⟨rfl, hb⟩; refine ⟨_, rfl, ?_⟩; have n0_ := Aside0.mk (Kd.R_below ((Sqz.mvR HO195.out)) hb); have n1_ := Aside0.mk (below_step (Sqz.auHB) hb); clear HO195; clear HB; have HO195 := n0_; have HB := n1_; clear n0_ n1_; (try clear hb); (try clear hb2); (try clear hk); (try clear hi)) | ((with_reducible refine gate_dst (N := 44) rfl ?_); refine Kd.R_lit (Kd.int .i64) _ 3 ?hg (N := 44) ?hd (xs := ([1, 1, 1, wrap64 (-t196)] : List Int)) (inner := [.int .i64 1, .int .i64 1, .int .i64 1, .int .i64 (wrap64 (-t196))]) (ok := fun _ => True) (okp := fun _ => True) ?hr ?hp (fun _ hk => hk) trivial (Below.refl _ _) (Nat.le_refl _) (by simp) ?_; (case hd => rfl); (case hg => rfl); (case hr => first | (go_simp; done) | (go_simp; rfl)); (case hp => exact (Reps.one (show Kd.M (Kd.int .i64) _ _ _ 1 [.int .i64 1] from rfl) (Reps.one (show Kd.M (Kd.int .i64) _ _ _ 1 [.int .i64 1] from rfl) (Reps.one (show Kd.M (Kd.int .i64) _ _ _ 1 [.int .i64 1] from rfl) (Reps.one (show Kd.M (Kd.int .i64) _ _ _ (wrap64 (-t196)) [.int .i64 (wrap64 (-t196))] from rfl) (Reps.none _ _)))))); intro v200 w66 ho67 hb hg_ hnew_; clear hg_ hnew_; (first | rw [← Ny199.out] at ho67 | (simp only [Int.reduceToNat] at ho67; rw [← Ny199.out] at ho67)); have n0_ := Aside0.mk (Kd.R_elder' ((Sqz.mvR HO195.out)) (Kd.R_base ho67) hb); have n1_ := Aside0.mk (Kd.R_lower (Kd.R_new' ho67 (Kd.R_lt ((Sqz.mvR HO195.out)))) (below_size (Sqz.auHB))); have n2_ := Aside0.mk (below_step (Sqz.auHB) hb); clear HO195; clear HB; have HO195 := n0_; have HO201 := n1_; have HB := n2_; clear n0_ n1_ n2_; clear hb ho67) | (go_at_call 16; (with_reducible refine (impl_ThreeIs.calls kj5 (wrap64 (4 * t189)) true _ A40.out).mono ?_); rintro e w' ⟨rfl, ⟨nd, rfl⟩⟩))
                    go_ret
                    exact ⟨Sqz.auR, Sqz.auHB⟩
              · replace c41 := Bool.eq_false_iff.mpr c41
                subst c41
                have H1 : (some false) = some r := by rw [if_neg (show ¬ (false = true) by decide)] at H; exact H
                clear H
                have H := H1
                clear H1
                obtain rfl := Option.some.inj H
                go_wp2_with (first | ((with_reducible refine gate_callee (f := 18) rfl ?_); refine goesL_ (some 33) rfl rfl Try.func18 (by kernel_rfl) rfl #[.int .i64 t189] rfl Sqz.auM ?_; (with_reducible refine (impl_ThreeFind.calls t189 t192 true _ A10.out).mono ?_); rintro e w68 ⟨v194, rfl, ho0, hb⟩; refine ⟨_, rfl, ?_⟩; have n0_ := Aside0.mk (Kd.R_lower ho0 (below_size (Sqz.auHB))); have n1_ := Aside0.mk (below_step (Sqz.auHB) hb); clear HB; have HO195 := n0_; have HB := n1_; clear n0_ n1_; (try clear hb); (try clear hb2); (try clear hk); (try clear hi); (try clear ho0)) | ((with_reducible refine gate_callee (f := 19) rfl ?_); refine goesL_ (some 38) rfl rfl Try.func19 (by kernel_rfl) rfl #[.int .i64 t189] rfl Sqz.auM ?_; (with_reducible refine (impl_CoreOf.calls kj5 t189 t196 t197 t198 _ A11.out).mono ?_); rintro e w69 ⟨rfl, hb⟩; refine ⟨_, rfl, ?_⟩; have n0_ := Aside0.mk (Kd.R_below ((Sqz.mvR HO195.out)) hb); have n1_ := Aside0.mk (below_step (Sqz.auHB) hb); clear HO195; clear HB; have HO195 := n0_; have HB := n1_; clear n0_ n1_; (try clear hb); (try clear hb2); (try clear hk); (try clear hi)) | ((with_reducible refine gate_dst (N := 44) rfl ?_); refine Kd.R_lit (Kd.int .i64) _ 3 ?hg (N := 44) ?hd (xs := ([1, 1, 1, wrap64 (-t196)] : List Int)) (inner := [.int .i64 1, .int .i64 1, .int .i64 1, .int .i64 (wrap64 (-t196))]) (ok := fun _ => True) (okp := fun _ => True) ?hr ?hp (fun _ hk => hk) trivial (Below.refl _ _) (Nat.le_refl _) (by simp) ?_; (case hd => rfl); (case hg => rfl); (case hr => first | (go_simp; done) | (go_simp; rfl)); (case hp => exact (Reps.one (show Kd.M (Kd.int .i64) _ _ _ 1 [.int .i64 1] from rfl) (Reps.one (show Kd.M (Kd.int .i64) _ _ _ 1 [.int .i64 1] from rfl) (Reps.one (show Kd.M (Kd.int .i64) _ _ _ 1 [.int .i64 1] from rfl) (Reps.one (show Kd.M (Kd.int .i64) _ _ _ (wrap64 (-t196)) [.int .i64 (wrap64 (-t196))] from rfl) (Reps.none _ _)))))); intro v200 w70 ho71 hb hg_ hnew_; clear hg_ hnew_; (first | rw [← Ny199.out] at ho71 | (simp only [Int.reduceToNat] at ho71; rw [← Ny199.out] at ho71)); have n0_ := Aside0.mk (Kd.R_elder' ((Sqz.mvR HO195.out)) (Kd.R_base ho71) hb); have n1_ := Aside0.mk (Kd.R_lower (Kd.R_new' ho71 (Kd.R_lt ((Sqz.mvR HO195.out)))) (below_size (Sqz.auHB))); have n2_ := Aside0.mk (below_step (Sqz.auHB) hb); clear HO195; clear HB; have HO195 := n0_; have HO201 := n1_; have HB := n2_; clear n0_ n1_ n2_; clear hb ho71) | (go_at_call 16; (with_reducible refine (impl_ThreeIs.calls kj5 (wrap64 (4 * t189)) false _ A40.out).mono ?_); rintro e w' ⟨rfl, ⟨nd, rfl⟩⟩))
                go_ret
                exact ⟨Sqz.auR, Sqz.auHB⟩
          · replace c12 := Bool.eq_false_iff.mpr c12
            subst c12
            have H1 : (some false) = some r := by rw [if_neg (show ¬ (false = true) by decide)] at H; exact H
            clear H
            have H := H1
            clear H1
            obtain rfl := Option.some.inj H
            go_wp2_with (first | ((with_reducible refine gate_callee (f := 18) rfl ?_); refine goesL_ (some 33) rfl rfl Try.func18 (by kernel_rfl) rfl #[.int .i64 t189] rfl Sqz.auM ?_; (with_reducible refine (impl_ThreeFind.calls t189 t192 false _ A10.out).mono ?_); rintro e w72 ⟨v194, rfl, ho0, hb⟩; refine ⟨_, rfl, ?_⟩; have n0_ := Aside0.mk (Kd.R_lower ho0 (below_size (Sqz.auHB))); have n1_ := Aside0.mk (below_step (Sqz.auHB) hb); clear HB; have HO195 := n0_; have HB := n1_; clear n0_ n1_; (try clear hb); (try clear hb2); (try clear hk); (try clear hi); (try clear ho0)) | ((with_reducible refine gate_callee (f := 19) rfl ?_); refine goesL_ (some 38) rfl rfl Try.func19 (by kernel_rfl) rfl #[.int .i64 t189] rfl Sqz.auM ?_; (with_reducible refine (impl_CoreOf.calls kj5 t189 t196 t197 t198 _ A11.out).mono ?_); rintro e w73 ⟨rfl, hb⟩; refine ⟨_, rfl, ?_⟩; have n0_ := Aside0.mk (Kd.R_below ((Sqz.mvR HO195.out)) hb); have n1_ := Aside0.mk (below_step (Sqz.auHB) hb); clear HO195; clear HB; have HO195 := n0_; have HB := n1_; clear n0_ n1_; (try clear hb); (try clear hb2); (try clear hk); (try clear hi)) | ((with_reducible refine gate_dst (N := 44) rfl ?_); refine Kd.R_lit (Kd.int .i64) _ 3 ?hg (N := 44) ?hd (xs := ([1, 1, 1, wrap64 (-t196)] : List Int)) (inner := [.int .i64 1, .int .i64 1, .int .i64 1, .int .i64 (wrap64 (-t196))]) (ok := fun _ => True) (okp := fun _ => True) ?hr ?hp (fun _ hk => hk) trivial (Below.refl _ _) (Nat.le_refl _) (by simp) ?_; (case hd => rfl); (case hg => rfl); (case hr => first | (go_simp; done) | (go_simp; rfl)); (case hp => exact (Reps.one (show Kd.M (Kd.int .i64) _ _ _ 1 [.int .i64 1] from rfl) (Reps.one (show Kd.M (Kd.int .i64) _ _ _ 1 [.int .i64 1] from rfl) (Reps.one (show Kd.M (Kd.int .i64) _ _ _ 1 [.int .i64 1] from rfl) (Reps.one (show Kd.M (Kd.int .i64) _ _ _ (wrap64 (-t196)) [.int .i64 (wrap64 (-t196))] from rfl) (Reps.none _ _)))))); intro v200 w74 ho75 hb hg_ hnew_; clear hg_ hnew_; (first | rw [← Ny199.out] at ho75 | (simp only [Int.reduceToNat] at ho75; rw [← Ny199.out] at ho75)); have n0_ := Aside0.mk (Kd.R_elder' ((Sqz.mvR HO195.out)) (Kd.R_base ho75) hb); have n1_ := Aside0.mk (Kd.R_lower (Kd.R_new' ho75 (Kd.R_lt ((Sqz.mvR HO195.out)))) (below_size (Sqz.auHB))); have n2_ := Aside0.mk (below_step (Sqz.auHB) hb); clear HO195; clear HB; have HO195 := n0_; have HO201 := n1_; have HB := n2_; clear n0_ n1_ n2_; clear hb ho75))
            go_ret
            exact ⟨Sqz.auR, Sqz.auHB⟩

/-- THE ONE PURE STATEMENT of laws_FnThreeIs: yours. -/
def laws_FnThreeIs.Pure : Prop := ∀ (l0 : List Int), l0.length ≤ maxLen → l0.length * 1 ≤ 140737488351232 → (∀ x ∈ l0, (Lit.int .u8 x).wf = true) → ∃ k, laws_FnThreeIs.f k l0 = some true
theorem laws_FnThreeIs.walk (P : laws_FnThreeIs.Pure) (a0 : Option Addr) (len0 cap0 : Nat) (z0 : List Int) (w : World) (w0 : (a0 = none ∧ len0 = 0 ∧ cap0 = 0 ∧ z0 = []) ∨ ∃ x, a0 = some x ∧ len0 ≤ cap0 ∧ cap0 ≤ maxLen ∧ z0.length = cap0 ∧ (∀ i, i < z0.length → w.cell? (x.add i) = some (.int .u8 (z0.getD i 0))) ∧ ∀ n ∈ z0, (Lit.int .u8 n).wf = true) (y0 : len0 * 1 ≤ 140737488351232) :
    Calls Try.prog 3 #[.slice a0 len0 cap0] w fun e w' => e = .returned (.bool true) ∧ Below w.heap.size w w' := by
  obtain ⟨l0, rfl, hr0, hm0, hw0, hc0⟩ := ReadsInt.ofRowC w0
  obtain ⟨k, h⟩ := P l0 hm0 y0 hw0
  refine (laws_FnThreeIs.calls k _ _ l0 true w (Kd.C_of_reads (d := (0 : Int)) (h1 := fun _ => rfl) hr0) hc0 h).mono ?_
  rintro e w' ⟨rfl, hd⟩
  exact ⟨rfl, hd⟩

end Go.Proofs.Ytihadpckmcebgaa.PFnThreeIs
