/- A function's Lean twin and its walk, written by a program of this session. -/
import Derived.Test.YtihadpckmcebgaaTPFnPlanesAllx0
import Derived.Test.YtihadpckmcebgaaTPFnPlanesAllx1
import Derived.Test.YtihadpckmcebgaaTPFnPlanesAllx2
import Derived.Test.YtihadpckmcebgaaTPFnPlanesAllx3
import Derived.Test.YtihadpckmcebgaaTPFnPlanesAllx5
import Derived.Test.YtihadpckmcebgaaTPFnPlanesAllx7
namespace Go.Proofs.Ytihadpckmcebgaa.PFnPlanesAll
open Go.RowKit Go.Proofs.YtihadpckmcebgaaW.PrintWords Go.Proofs.YtihadpckmcebgaaW.PrintLast Go.Proofs.YtihadpckmcebgaaW.PrintMore
attribute [local go_sem] max2_int min2_int max_two min_two max_three min_three max_four min_four   -- for this text's walks alone
set_option linter.unusedVariables false
set_option linter.unusedSimpArgs false

/-! ### laws_FnPlanesAll: function 11 -/
mutual
def laws_FnPlanesAll.j0 : Nat → List Int → List Int → Bool → Option (Bool)
  | 0, _, _, _ => none
  | k + 1, x0, x1, x18 => if x18 = true then (some true) else ((spec_DrawPlanesAll.f k x0).bind fun t397 => ((impl_PlanesAll.f k t397).bind fun t400 => ((spec_PlanesAll.f k t397).bind fun t401 => (if t400 = t401 then (laws_FnPlanesAll.j1 k x1 t397 t400 t401 (decide (t400 < 0))) else (laws_FnPlanesAll.j1 k x1 t397 t400 t401 true)))))
def laws_FnPlanesAll.j1 : Nat → List Int → List Int → Int → Int → Bool → Option (Bool)
  | 0, _, _, _, _, _ => none
  | k + 1, x1, x5, x6, x7, x31 => if x31 = true then (some (x6 == x7)) else ((impl_FormJoin.f k x5 (([1, (-1)] : List Int))).bind fun bt405 => ((some (([0, 2, 3, 5, 7, 11] : List Int) : List Int)).bind fun y409 => (if 0 ≤ ((x1.length : Int) % 6) then (if ((x1.length : Int) % 6) < (y409.length : Int) then ((impl_FormBad.f k x5).bind fun t413 => (if ((decide (x6 > 0)) == ((t413.length : Int) == 0)) = true then ((impl_PlanesAt.f k x5 (rd y409 ((x1.length : Int) % 6))).bind fun t416 => (if x6 ≤ t416 then (if bt405.2 = true then ((impl_PlanesAll.f k bt405.1).bind fun t417 => (some (t417 == (wrap64 (x6 + 1))))) else (some true)) else (some false))) else (some false))) else (none)) else (none))))
end
def laws_FnPlanesAll.f (k : Nat) (l0 : List Int) (l1 : List Int) : Option (Bool) := if (l0.length : Int) > 1048576 then (laws_FnPlanesAll.j0 k l0 l1 true) else (laws_FnPlanesAll.j0 k l0 l1 (decide ((l1.length : Int) > 1048576)))
set_option maxHeartbeats 8000000 in
set_option maxRecDepth 100000 in
theorem laws_FnPlanesAll.calls (k : Nat) (A0 : Option Addr) (c0 : Nat) (l0 : List Int) (A1 : Option Addr) (c1 : Nat) (l1 : List Int) (r : Bool) (w : World) (hr0 : Kd.C (Kd.int .u8) w A0 l0.length l0) (hc0 : l0.length ≤ c0) (hr1 : Kd.C (Kd.int .u8) w A1 l1.length l1) (hc1 : l1.length ≤ c1) (h : laws_FnPlanesAll.f k l0 l1 = some r) :
    Calls Try.prog 11 #[.slice A0 l0.length c0, .slice A1 l1.length c1] w fun e w' => e = .returned (.bool r) ∧ Below w.heap.size w w' := by
  have HR0 := Aside0.mk hr0
  have HC0 := Aside0.mk hc0
  clear hr0 hc0
  have HR1 := Aside0.mk hr1
  have HC1 := Aside0.mk hc1
  clear hr1 hc1
  have HB := Aside0.mk (Below.refl w.heap.size w)
  have H : (if (l0.length : Int) > 1048576 then (laws_FnPlanesAll.j0 k l0 l1 true) else (laws_FnPlanesAll.j0 k l0 l1 (decide ((l1.length : Int) > 1048576)))) = some r := h
  clear h
  have HC3 := Aside0.mk H
  clear H
  go_enter Try.func11, Try.ntmps11
  go_upto_region 1 with (fail)
  go_cut [18] (fun v18 wc => ∃ (kq : Nat) (x18_2 : Bool), v18 = .bool x18_2 ∧ Aside0 (laws_FnPlanesAll.j0 kq l0 l1 x18_2 = some r) ∧ Aside0 (kq ≤ k) ∧ Aside0 (Below w.heap.size w wc))
  case first =>
    have H := HC3.out
    clear HC3
    by_cases c4 : (l0.length : Int) > 1048576
    · rw [if_pos c4] at H
      have c4b0 : decide (1048576 < (l0.length : Int)) = true := decide_eq_true c4
      have c4b1 : decide (1048576 < l0.length) = true := decide_eq_true (by omega)
      clear c4
      (first | rw [c4b0] | (simp only [i64_w, i32_w]; rw [c4b0]) | skip)
      have H' := Aside0.mk H
      clear H
      go_wp2
      go_meet
      case rel => exact ⟨_, (true), Sqz.auS, H', ⟨Sqz.auN⟩, ⟨Sqz.auHB⟩⟩
    · rw [if_neg c4] at H
      have c4b0 : decide (1048576 < (l0.length : Int)) = false := decide_eq_false c4
      have c4b1 : decide (1048576 < l0.length) = false := decide_eq_false (by omega)
      clear c4
      (first | rw [c4b0] | (simp only [i64_w, i32_w]; rw [c4b0]) | skip)
      have H' := Aside0.mk H
      clear H
      go_wp2
      go_meet
      case rel => exact ⟨_, (decide ((l1.length : Int) > 1048576)), Sqz.auS, H', ⟨Sqz.auN⟩, ⟨Sqz.auHB⟩⟩
  case rest =>
    clear HC3
    try clear c1
    try clear p2
    try clear c4
    try clear c4b0
    try clear c4b1
    obtain ⟨kq, x18_2, rfl, HA, HJ2, HB⟩ := hcut
    cases kq with
    | zero => exact absurd HA.out (by simp [laws_FnPlanesAll.j0])
    | succ kj2 =>
      have H := HA.out
      clear HA
      simp only [laws_FnPlanesAll.j0] at H
      by_cases c5 : x18_2 = true
      · subst c5
        have H1 : (some true) = some r := by rw [if_pos rfl] at H; exact H
        clear H
        have H := H1
        clear H1
        obtain rfl := Option.some.inj H
        go_wp2
        go_ret
        exact ⟨Sqz.auR, Sqz.auHB⟩
      · replace c5 := Bool.eq_false_iff.mpr c5
        subst c5
        have H1 : ((spec_DrawPlanesAll.f kj2 l0).bind fun t397 => ((impl_PlanesAll.f kj2 t397).bind fun t400 => ((spec_PlanesAll.f kj2 t397).bind fun t401 => (if t400 = t401 then (laws_FnPlanesAll.j1 kj2 l1 t397 t400 t401 (decide (t400 < 0))) else (laws_FnPlanesAll.j1 kj2 l1 t397 t400 t401 true))))) = some r := by rw [if_neg (show ¬ (false = true) by decide)] at H; exact H
        clear H
        have H := H1
        clear H1
        replace H := Option.bind_eq_some_iff.mp H
        obtain ⟨t397, A60, H⟩ := H
        replace H : ((impl_PlanesAll.f kj2 t397).bind fun t400 => ((spec_PlanesAll.f kj2 t397).bind fun t401 => (if t400 = t401 then (laws_FnPlanesAll.j1 kj2 l1 t397 t400 t401 (decide (t400 < 0))) else (laws_FnPlanesAll.j1 kj2 l1 t397 t400 t401 true)))) = some r := H
        have A6 := Aside0.mk A60
        clear A60
        replace H := Option.bind_eq_some_iff.mp H
        obtain ⟨t400, A70, H⟩ := H
        replace H : ((spec_PlanesAll.f kj2 t397).bind fun t401 => (if t400 = t401 then (laws_FnPlanesAll.j1 kj2 l1 t397 t400 t401 (decide (t400 < 0))) else (laws_FnPlanesAll.j1 kj2 l1 t397 t400 t401 true))) = some r := H
        have A7 := Aside0.mk A70
        clear A70
        replace H := Option.bind_eq_some_iff.mp H
        obtain ⟨t401, A80, H⟩ := H
        replace H : (if t400 = t401 then (laws_FnPlanesAll.j1 kj2 l1 t397 t400 t401 (decide (t400 < 0))) else (laws_FnPlanesAll.j1 kj2 l1 t397 t400 t401 true)) = some r := H
        have A8 := Aside0.mk A80
        clear A80
        have HC9 := Aside0.mk H
        clear H
        go_upto_region 6 with (first | ((with_reducible refine gate_callee (f := 51) rfl ?_); refine goesL_ (some 20) rfl rfl Try.func51 (by kernel_rfl) rfl #[.slice A0 l0.length c0] rfl Sqz.auM ?_; (with_reducible refine (spec_DrawPlanesAll.calls kj2 _ _ l0 t397 _ ?side1 ?side2 A6.out).mono ?_); (case side1 => exact Sqz.mvC ((Kd.C_below HR0.out HB.out))); (case side2 => exact HC0.out); rintro e w10 ⟨v398, rfl, ho0, hb⟩; refine ⟨_, rfl, ?_⟩; have n0_ := Aside0.mk (Kd.R_lower ho0 (below_size (Sqz.auHB))); have n1_ := Aside0.mk (below_step (Sqz.auHB) hb); clear HB; have HO399 := n0_; have HB := n1_; clear n0_ n1_; (try clear hb); (try clear hb2); (try clear hk); (try clear hi); (try clear ho0); obtain ⟨Ao11, co11, eo11⟩ := Kd.R_slice HO399.out; subst eo11) | ((with_reducible refine gate_callee (f := 47) rfl ?_); refine goesL_ (some 22) rfl rfl Try.func47 (by kernel_rfl) rfl #[.slice Ao11 t397.length co11] rfl Sqz.auM ?_; (with_reducible refine (impl_PlanesAll.calls kj2 _ _ t397 t400 _ ?side1 ?side2 A7.out).mono ?_); (case side1 => exact Sqz.mvC ((Kd.R_reads' HO399.out).2.2)); (case side2 => exact (Kd.R_reads' HO399.out).2.1); rintro e w12 ⟨rfl, hb⟩; refine ⟨_, rfl, ?_⟩; have n0_ := Aside0.mk (Kd.R_below ((Sqz.mvR HO399.out)) hb); have n1_ := Aside0.mk (below_step (Sqz.auHB) hb); clear HO399; clear HB; have HO399 := n0_; have HB := n1_; clear n0_ n1_; (try clear hb); (try clear hb2); (try clear hk); (try clear hi)) | ((with_reducible refine gate_callee (f := 52) rfl ?_); refine goesL_ (some 24) rfl rfl Try.func52 (by kernel_rfl) rfl #[.slice Ao11 t397.length co11] rfl Sqz.auM ?_; (with_reducible refine (spec_PlanesAll.calls kj2 _ _ t397 t401 _ ?side1 ?side2 A8.out).mono ?_); (case side1 => exact Sqz.mvC ((Kd.R_reads' HO399.out).2.2)); (case side2 => exact (Kd.R_reads' HO399.out).2.1); rintro e w13 ⟨rfl, hb⟩; refine ⟨_, rfl, ?_⟩; have n0_ := Aside0.mk (Kd.R_below ((Sqz.mvR HO399.out)) hb); have n1_ := Aside0.mk (below_step (Sqz.auHB) hb); clear HO399; clear HB; have HO399 := n0_; have HB := n1_; clear n0_ n1_; (try clear hb); (try clear hb2); (try clear hk); (try clear hi)))
        (try simp only [Act.put, List.setIfInBounds_toArray, List.set_cons_zero, List.set_cons_succ])
        go_cut [31] (fun v31 wc => ∃ (kq : Nat) (x31_8 : Bool), v31 = .bool x31_8 ∧ Aside0 (laws_FnPlanesAll.j1 kq l1 t397 t400 t401 x31_8 = some r) ∧ Aside0 (kq ≤ kj2) ∧ Aside0 (Kd.R (Kd.int .i64) 3 wc w.heap.size (fun _ => True) (.slice Ao11 t397.length co11) t397) ∧ Aside0 (Below w.heap.size w wc))
        case first =>
          have H := HC9.out
          clear HC9
          by_cases c14 : t400 = t401
          · rw [if_pos c14] at H
            have c14b0 : (t400 == t401) = true := beq_iff_eq.mpr c14
            have c14b1 : (t400 != t401) = false := bne_eq_false_iff_eq.mpr c14
            clear c14
            (first | rw [c14b0] | (simp only [i64_w, i32_w]; rw [c14b0]) | skip)
            have H' := Aside0.mk H
            clear H
            go_wp2
            go_meet
            case rel => exact ⟨_, (decide (t400 < 0)), Sqz.auS, H', ⟨by have := HJ2.out; first | omega | exact Nat.le_refl _⟩, ⟨(Sqz.mvR HO399.out)⟩, ⟨Sqz.auHB⟩⟩
          · rw [if_neg c14] at H
            have c14b0 : (t400 == t401) = false := beq_eq_false_iff_ne.mpr c14
            have c14b1 : (t400 != t401) = true := bne_iff_ne.mpr c14
            (first | rw [c14b0] | (simp only [i64_w, i32_w]; rw [c14b0]) | skip)
            have H' := Aside0.mk H
            clear H
            go_wp2
            go_meet
            case rel => exact ⟨_, (true), Sqz.auS, H', ⟨by have := HJ2.out; first | omega | exact Nat.le_refl _⟩, ⟨(Sqz.mvR HO399.out)⟩, ⟨Sqz.auHB⟩⟩
        case rest =>
          clear HC9
          try clear c1
          try clear p2
          try clear c4
          try clear c4b0
          try clear c4b1
          try clear c5
          try clear c11
          try clear c14
          try clear c14b0
          try clear c14b1
          try clear p2
          obtain ⟨kq, x31_8, rfl, HA, HJ8, HO_5, HB⟩ := hcut
          cases kq with
          | zero => exact absurd HA.out (by simp [laws_FnPlanesAll.j1])
          | succ kj8 =>
            have H := HA.out
            clear HA
            simp only [laws_FnPlanesAll.j1] at H
            by_cases c15 : x31_8 = true
            · subst c15
              have H1 : (some (t400 == t401)) = some r := by rw [if_pos rfl] at H; exact H
              clear H
              have H := H1
              clear H1
              obtain rfl := Option.some.inj H
              go_wp2
              go_ret
              exact ⟨Sqz.auR, Sqz.auHB⟩
            · replace c15 := Bool.eq_false_iff.mpr c15
              subst c15
              have H1 : ((impl_FormJoin.f kj8 t397 (([1, (-1)] : List Int))).bind fun bt405 => ((some (([0, 2, 3, 5, 7, 11] : List Int) : List Int)).bind fun y409 => (if 0 ≤ ((l1.length : Int) % 6) then (if ((l1.length : Int) % 6) < (y409.length : Int) then ((impl_FormBad.f kj8 t397).bind fun t413 => (if ((decide (t400 > 0)) == ((t413.length : Int) == 0)) = true then ((impl_PlanesAt.f kj8 t397 (rd y409 ((l1.length : Int) % 6))).bind fun t416 => (if t400 ≤ t416 then (if bt405.2 = true then ((impl_PlanesAll.f kj8 bt405.1).bind fun t417 => (some (t417 == (wrap64 (t400 + 1))))) else (some true)) else (some false))) else (some false))) else (none)) else (none)))) = some r := by rw [if_neg (show ¬ (false = true) by decide)] at H; exact H
              clear H
              have H := H1
              clear H1
              obtain ⟨y402, hy402⟩ : ∃ y_ : List Int, y_ = (([1, (-1)] : List Int)) := ⟨_, rfl⟩
              replace H : ((impl_FormJoin.f kj8 t397 y402).bind fun bt405 => ((some (([0, 2, 3, 5, 7, 11] : List Int) : List Int)).bind fun y409 => (if 0 ≤ ((l1.length : Int) % 6) then (if ((l1.length : Int) % 6) < (y409.length : Int) then ((impl_FormBad.f kj8 t397).bind fun t413 => (if ((decide (t400 > 0)) == ((t413.length : Int) == 0)) = true then ((impl_PlanesAt.f kj8 t397 (rd y409 ((l1.length : Int) % 6))).bind fun t416 => (if t400 ≤ t416 then (if bt405.2 = true then ((impl_PlanesAll.f kj8 bt405.1).bind fun t417 => (some (t417 == (wrap64 (t400 + 1))))) else (some true)) else (some false))) else (some false))) else (none)) else (none)))) = some r := by first | (rw [hy402]; with_reducible exact H) | (have H2_ := (Option.bind_some _ _).symm.trans H; rw [hy402]; with_reducible exact H2_) | (have H2_ := (Option.bind_some _ _).symm.trans H; with_reducible exact H2_) | with_reducible exact H | (rw [hy402]; exact H) | exact H
              have Ny402 := Aside0.mk hy402
              clear hy402
              replace H := Option.bind_eq_some_iff.mp H
              obtain ⟨⟨t405, t406⟩, A160, H⟩ := H
              replace H : ((some (([0, 2, 3, 5, 7, 11] : List Int) : List Int)).bind fun y409 => (if 0 ≤ ((l1.length : Int) % 6) then (if ((l1.length : Int) % 6) < (y409.length : Int) then ((impl_FormBad.f kj8 t397).bind fun t413 => (if ((decide (t400 > 0)) == ((t413.length : Int) == 0)) = true then ((impl_PlanesAt.f kj8 t397 (rd y409 ((l1.length : Int) % 6))).bind fun t416 => (if t400 ≤ t416 then (if t406 = true then ((impl_PlanesAll.f kj8 t405).bind fun t417 => (some (t417 == (wrap64 (t400 + 1))))) else (some true)) else (some false))) else (some false))) else (none)) else (none))) = some r := H
              have A16 := Aside0.mk A160
              clear A160
              obtain ⟨y409, hy409⟩ : ∃ y_ : List Int, y_ = (([0, 2, 3, 5, 7, 11] : List Int)) := ⟨_, rfl⟩
              replace H : (if 0 ≤ ((l1.length : Int) % 6) then (if ((l1.length : Int) % 6) < (y409.length : Int) then ((impl_FormBad.f kj8 t397).bind fun t413 => (if ((decide (t400 > 0)) == ((t413.length : Int) == 0)) = true then ((impl_PlanesAt.f kj8 t397 (rd y409 ((l1.length : Int) % 6))).bind fun t416 => (if t400 ≤ t416 then (if t406 = true then ((impl_PlanesAll.f kj8 t405).bind fun t417 => (some (t417 == (wrap64 (t400 + 1))))) else (some true)) else (some false))) else (some false))) else (none)) else (none)) = some r := by first | (rw [hy409]; with_reducible exact H) | (have H2_ := (Option.bind_some _ _).symm.trans H; rw [hy409]; with_reducible exact H2_) | (have H2_ := (Option.bind_some _ _).symm.trans H; with_reducible exact H2_) | with_reducible exact H | (rw [hy409]; exact H) | exact H
              have Ny409 := Aside0.mk hy409
              clear hy409
              obtain ⟨ji17, hji17⟩ : ∃ j_ : Int, ((l1.length : Int) % 6) = j_ := ⟨_, rfl⟩
              replace H : (if 0 ≤ (ji17) then (if (ji17) < (y409.length : Int) then ((impl_FormBad.f kj8 t397).bind fun t413 => (if ((decide (t400 > 0)) == ((t413.length : Int) == 0)) = true then ((impl_PlanesAt.f kj8 t397 (rd y409 (ji17))).bind fun t416 => (if t400 ≤ t416 then (if t406 = true then ((impl_PlanesAll.f kj8 t405).bind fun t417 => (some (t417 == (wrap64 (t400 + 1))))) else (some true)) else (some false))) else (some false))) else (none)) else (none)) = some r := by first | (rw [hji17] at H; exact H) | (simp only [hji17] at H ⊢; exact H)
              (try rw [hji17] at A16)
              by_cases c18 : 0 ≤ (ji17)
              · rw [if_pos c18] at H
                have c18b0 : decide (0 ≤ (ji17)) = true := decide_eq_true c18
                clear c18
                by_cases c19 : (ji17) < (y409.length : Int)
                · rw [if_pos c19] at H
                  have c19b0 : decide ((ji17) < (y409.length : Int)) = true := decide_eq_true c19
                  clear c19
                  replace H := Option.bind_eq_some_iff.mp H
                  obtain ⟨t413, A200, H⟩ := H
                  replace H : (if ((decide (t400 > 0)) == ((t413.length : Int) == 0)) = true then ((impl_PlanesAt.f kj8 t397 (rd y409 (ji17))).bind fun t416 => (if t400 ≤ t416 then (if t406 = true then ((impl_PlanesAll.f kj8 t405).bind fun t417 => (some (t417 == (wrap64 (t400 + 1))))) else (some true)) else (some false))) else (some false)) = some r := H
                  have A20 := Aside0.mk A200
                  clear A200
                  by_cases c21 : ((decide (t400 > 0)) == ((t413.length : Int) == 0)) = true
                  · rw [if_pos c21] at H
                    have c21b0 : ((decide (t400 > 0)) == ((t413.length : Int) == 0)) = true := c21
                    (try (have c21b1 : decide ((decide (t400 > 0)) = ((t413.length : Int) == 0)) = true := by simpa using c21))
                    (try (have c21b2 : ((decide (t400 > 0)) == ((t413.length : Int) == 0)) = true := by simpa using c21))
                    clear c21
                    replace H := Option.bind_eq_some_iff.mp H
                    obtain ⟨t416, A220, H⟩ := H
                    replace H : (if t400 ≤ t416 then (if t406 = true then ((impl_PlanesAll.f kj8 t405).bind fun t417 => (some (t417 == (wrap64 (t400 + 1))))) else (some true)) else (some false)) = some r := H
                    have A22 := Aside0.mk A220
                    clear A220
                    by_cases c23 : t400 ≤ t416
                    · rw [if_pos c23] at H
                      have c23b0 : decide (t400 ≤ t416) = true := decide_eq_true c23
                      clear c23
                      by_cases c24 : t406 = true
                      · subst c24
                        have H1 : ((impl_PlanesAll.f kj8 t405).bind fun t417 => (some (t417 == (wrap64 (t400 + 1))))) = some r := by rw [if_pos rfl] at H; exact H
                        clear H
                        have H := H1
                        clear H1
                        replace H := Option.bind_eq_some_iff.mp H
                        obtain ⟨t417, A250, H⟩ := H
                        replace H : (some (t417 == (wrap64 (t400 + 1)))) = some r := H
                        have A25 := Aside0.mk A250
                        clear A250
                        obtain rfl := Option.some.inj H
                        go_wp2_with (first | ((with_reducible refine gate_dst (N := 37) rfl ?_); (try (refine gate_guard (by rfl) ?_; dsimp only)); refine Kd.R_lit (Kd.int .i64) _ 3 ?hg (N := 37) ?hd (xs := ([1, (-1)] : List Int)) (inner := [.int .i64 1, .int .i64 (-1)]) (ok := fun _ => True) (okp := fun _ => True) ?hr ?hp (fun _ hk => hk) trivial (Below.refl _ _) (Nat.le_refl _) (by simp) ?_; (case hd => rfl); (case hg => rfl); (case hr => first | (go_simp; done) | (go_simp; rfl)); (case hp => exact (Reps.one (show Kd.M (Kd.int .i64) _ _ _ 1 [.int .i64 1] from rfl) (Reps.one (show Kd.M (Kd.int .i64) _ _ _ (-1) [.int .i64 (-1)] from rfl) (Reps.none _ _)))); intro v403 w26 ho27 hb hg_ hnew_; clear hg_ hnew_; (first | rw [← Ny402.out] at ho27 | (simp only [Int.reduceToNat] at ho27; rw [← Ny402.out] at ho27)); have n0_ := Aside0.mk (Kd.R_elder' ((Sqz.mvR HO_5.out)) (Kd.R_base ho27) hb); have n1_ := Aside0.mk (Kd.R_lower (Kd.R_new' ho27 (Kd.R_lt ((Sqz.mvR HO_5.out)))) (below_size (Sqz.auHB))); have n2_ := Aside0.mk (below_step (Sqz.auHB) hb); clear HO_5; clear HB; have HO_5 := n0_; have HO404 := n1_; have HB := n2_; clear n0_ n1_ n2_; clear hb ho27; obtain ⟨Ao28, co28, eo28⟩ := Kd.R_slice HO404.out; subst eo28) | ((with_reducible refine gate_callee (f := 25) rfl ?_); refine goesL_ (some 38) rfl rfl Try.func25 (by kernel_rfl) rfl #[.slice Ao11 t397.length co11, .slice Ao28 y402.length co28] rfl Sqz.auM ?_; (with_reducible refine (impl_FormJoin.calls kj8 _ _ t397 _ _ y402 t405 true _ ?side1 ?side2 ?side3 ?side4 A16.out).mono ?_); (case side1 => exact Sqz.mvC ((Kd.R_reads' HO_5.out).2.2)); (case side2 => exact (Kd.R_reads' HO_5.out).2.1); (case side3 => exact Sqz.mvC ((Kd.R_reads' HO404.out).2.2)); (case side4 => exact (Kd.R_reads' HO404.out).2.1); rintro e w29 ⟨v407, rfl, ho0, hb⟩; refine ⟨_, rfl, ?_⟩; have n0_ := Aside0.mk (Kd.R_elder' ((Sqz.mvR HO_5.out)) (Kd.R_base ho0) hb); have n1_ := Aside0.mk (Kd.R_elder' ((Sqz.mvR HO404.out)) (Kd.R_base ho0) hb); have n2_ := Aside0.mk (Kd.R_lower (Kd.R_new' (Kd.R_new' ho0 (Kd.R_lt ((Sqz.mvR HO_5.out)))) (Kd.R_lt ((Sqz.mvR HO404.out)))) (below_size (Sqz.auHB))); have n3_ := Aside0.mk (below_step (Sqz.auHB) hb); clear HO_5; clear HO404; clear HB; have HO_5 := n0_; have HO404 := n1_; have HO408 := n2_; have HB := n3_; clear n0_ n1_ n2_ n3_; (try clear hb); (try clear hb2); (try clear hk); (try clear hi); (try clear ho0)) | ((with_reducible refine gate_dst (N := 41) rfl ?_); (try (refine gate_guard (by rfl) ?_; dsimp only)); refine Kd.R_lit (Kd.int .i64) _ 3 ?hg (N := 41) ?hd (xs := ([0, 2, 3, 5, 7, 11] : List Int)) (inner := [.int .i64 0, .int .i64 2, .int .i64 3, .int .i64 5, .int .i64 7, .int .i64 11]) (ok := fun _ => True) (okp := fun _ => True) ?hr ?hp (fun _ hk => hk) trivial (Below.refl _ _) (Nat.le_refl _) (by simp) ?_; (case hd => rfl); (case hg => rfl); (case hr => first | (go_simp; done) | (go_simp; rfl)); (case hp => exact (Reps.one (show Kd.M (Kd.int .i64) _ _ _ 0 [.int .i64 0] from rfl) (Reps.one (show Kd.M (Kd.int .i64) _ _ _ 2 [.int .i64 2] from rfl) (Reps.one (show Kd.M (Kd.int .i64) _ _ _ 3 [.int .i64 3] from rfl) (Reps.one (show Kd.M (Kd.int .i64) _ _ _ 5 [.int .i64 5] from rfl) (Reps.one (show Kd.M (Kd.int .i64) _ _ _ 7 [.int .i64 7] from rfl) (Reps.one (show Kd.M (Kd.int .i64) _ _ _ 11 [.int .i64 11] from rfl) (Reps.none _ _)))))))); intro v410 w30 ho31 hb hg_ hnew_; clear hg_ hnew_; (first | rw [← Ny409.out] at ho31 | (simp only [Int.reduceToNat] at ho31; rw [← Ny409.out] at ho31)); have n0_ := Aside0.mk (Kd.R_elder' ((Sqz.mvR HO_5.out)) (Kd.R_base ho31) hb); have n1_ := Aside0.mk (Kd.R_elder' ((Sqz.mvR HO404.out)) (Kd.R_base ho31) hb); have n2_ := Aside0.mk (Kd.R_elder' ((Sqz.mvR HO408.out)) (Kd.R_base ho31) hb); have n3_ := Aside0.mk (Kd.R_lower (Kd.R_new' (Kd.R_new' (Kd.R_new' ho31 (Kd.R_lt ((Sqz.mvR HO_5.out)))) (Kd.R_lt ((Sqz.mvR HO404.out)))) (Kd.R_lt ((Sqz.mvR HO408.out)))) (below_size (Sqz.auHB))); have n4_ := Aside0.mk (below_step (Sqz.auHB) hb); clear HO_5; clear HO404; clear HO408; clear HB; have HO_5 := n0_; have HO404 := n1_; have HO408 := n2_; have HO411 := n3_; have HB := n4_; clear n0_ n1_ n2_ n3_ n4_; clear hb ho31; obtain ⟨Ao32, co32, eo32⟩ := Kd.R_slice HO411.out; subst eo32; have p412 : 0 ≤ ((ji17) : Int) := of_decide_eq_true (by first | (with_reducible assumption) | assumption); have q412 : (ji17) < (y409.length : Int) := of_decide_eq_true (by first | (with_reducible assumption) | assumption); obtain ⟨ad412, e412, hx412_0⟩ := Kd.at_int (Kd.R_reads' HO411.out).2.2 (ji17) p412 q412; cases e412; replace p412 := eq_true p412; replace q412 := eq_true q412) | ((with_reducible refine gate_callee (f := 53) rfl ?_); refine goesL_ (some 50) rfl rfl Try.func53 (by kernel_rfl) rfl #[.slice Ao11 t397.length co11] rfl Sqz.auM ?_; (with_reducible refine (impl_FormBad.calls kj8 _ _ t397 t413 _ ?side1 ?side2 A20.out).mono ?_); (case side1 => exact Sqz.mvC ((Kd.R_reads' HO_5.out).2.2)); (case side2 => exact (Kd.R_reads' HO_5.out).2.1); rintro e w33 ⟨v414, rfl, ho0, hb⟩; refine ⟨_, rfl, ?_⟩; have n0_ := Aside0.mk (Kd.R_elder' ((Sqz.mvR HO_5.out)) (Kd.R_base ho0) hb); have n1_ := Aside0.mk (Kd.R_elder' ((Sqz.mvR HO404.out)) (Kd.R_base ho0) hb); have n2_ := Aside0.mk (Kd.R_elder' ((Sqz.mvR HO408.out)) (Kd.R_base ho0) hb); have n3_ := Aside0.mk (Kd.R_elder' ((Sqz.mvR HO411.out)) (Kd.R_base ho0) hb); have n4_ := Aside0.mk (Kd.R_lower (Kd.R_new' (Kd.R_new' (Kd.R_new' (Kd.R_new' ho0 (Kd.R_lt ((Sqz.mvR HO_5.out)))) (Kd.R_lt ((Sqz.mvR HO404.out)))) (Kd.R_lt ((Sqz.mvR HO408.out)))) (Kd.R_lt ((Sqz.mvR HO411.out)))) (below_size (Sqz.auHB))); have n5_ := Aside0.mk (below_step (Sqz.auHB) hb); clear HO_5; clear HO404; clear HO408; clear HO411; clear HB; have HO_5 := n0_; have HO404 := n1_; have HO408 := n2_; have HO411 := n3_; have HO415 := n4_; have HB := n5_; clear n0_ n1_ n2_ n3_ n4_ n5_; (try clear hb); (try clear hb2); (try clear hk); (try clear hi); (try clear ho0); obtain ⟨Ao34, co34, eo34⟩ := Kd.R_slice HO415.out; subst eo34) | (go_at_call 32; (with_reducible refine (impl_PlanesAt.calls kj8 _ _ t397 (rd y409 (ji17)) t416 _ ?side1 ?side2 A22.out).mono ?_); (case side1 => exact Sqz.mvC ((Kd.R_reads' HO_5.out).2.2)); (case side2 => exact (Kd.R_reads' HO_5.out).2.1); rintro e w35 ⟨rfl, hb⟩; have n0_ := Aside0.mk (Kd.R_below ((Sqz.mvR HO_5.out)) hb); have n1_ := Aside0.mk (Kd.R_below ((Sqz.mvR HO404.out)) hb); have n2_ := Aside0.mk (Kd.R_below ((Sqz.mvR HO408.out)) hb); have n3_ := Aside0.mk (Kd.R_below ((Sqz.mvR HO411.out)) hb); have n4_ := Aside0.mk (Kd.R_below ((Sqz.mvR HO415.out)) hb); have n5_ := Aside0.mk (below_step (Sqz.auHB) hb); clear HO_5; clear HO404; clear HO408; clear HO411; clear HO415; clear HB; have HO_5 := n0_; have HO404 := n1_; have HO408 := n2_; have HO411 := n3_; have HO415 := n4_; have HB := n5_; clear n0_ n1_ n2_ n3_ n4_ n5_; (try clear hb); (try clear hb2); (try clear hk); (try clear hi); obtain ⟨Ao36, co36, eo36⟩ := Kd.R_slice HO408.out; subst eo36) | (go_at_call 47; (with_reducible refine (impl_PlanesAll.calls kj8 _ _ t405 t417 _ ?side1 ?side2 A25.out).mono ?_); (case side1 => exact Sqz.mvC ((Kd.R_reads' HO408.out).2.2)); (case side2 => exact (Kd.R_reads' HO408.out).2.1); rintro e w37 ⟨rfl, hb⟩; have n0_ := Aside0.mk (Kd.R_below ((Sqz.mvR HO_5.out)) hb); have n1_ := Aside0.mk (Kd.R_below ((Sqz.mvR HO404.out)) hb); have n2_ := Aside0.mk (Kd.R_below ((Sqz.mvR HO408.out)) hb); have n3_ := Aside0.mk (Kd.R_below ((Sqz.mvR HO411.out)) hb); have n4_ := Aside0.mk (Kd.R_below ((Sqz.mvR HO415.out)) hb); have n5_ := Aside0.mk (below_step (Sqz.auHB) hb); clear HO_5; clear HO404; clear HO408; clear HO411; clear HO415; clear HB; have HO_5 := n0_; have HO404 := n1_; have HO408 := n2_; have HO411 := n3_; have HO415 := n4_; have HB := n5_; clear n0_ n1_ n2_ n3_ n4_ n5_; (try clear hb); (try clear hb2); (try clear hk); (try clear hi)))
                        go_ret
                        exact ⟨by first | rfl | (simp [errW_none, errW_some] <;> rfl) | (simp only [← hji17]; first | rfl | (simp [errW_none, errW_some] <;> rfl)) | (simp [*, errW_none, errW_some] <;> rfl), Sqz.auHB⟩
                      · replace c24 := Bool.eq_false_iff.mpr c24
                        subst c24
                        have H1 : (some true) = some r := by rw [if_neg (show ¬ (false = true) by decide)] at H; exact H
                        clear H
                        have H := H1
                        clear H1
                        obtain rfl := Option.some.inj H
                        go_wp2_with (first | ((with_reducible refine gate_dst (N := 37) rfl ?_); (try (refine gate_guard (by rfl) ?_; dsimp only)); refine Kd.R_lit (Kd.int .i64) _ 3 ?hg (N := 37) ?hd (xs := ([1, (-1)] : List Int)) (inner := [.int .i64 1, .int .i64 (-1)]) (ok := fun _ => True) (okp := fun _ => True) ?hr ?hp (fun _ hk => hk) trivial (Below.refl _ _) (Nat.le_refl _) (by simp) ?_; (case hd => rfl); (case hg => rfl); (case hr => first | (go_simp; done) | (go_simp; rfl)); (case hp => exact (Reps.one (show Kd.M (Kd.int .i64) _ _ _ 1 [.int .i64 1] from rfl) (Reps.one (show Kd.M (Kd.int .i64) _ _ _ (-1) [.int .i64 (-1)] from rfl) (Reps.none _ _)))); intro v403 w38 ho39 hb hg_ hnew_; clear hg_ hnew_; (first | rw [← Ny402.out] at ho39 | (simp only [Int.reduceToNat] at ho39; rw [← Ny402.out] at ho39)); have n0_ := Aside0.mk (Kd.R_elder' ((Sqz.mvR HO_5.out)) (Kd.R_base ho39) hb); have n1_ := Aside0.mk (Kd.R_lower (Kd.R_new' ho39 (Kd.R_lt ((Sqz.mvR HO_5.out)))) (below_size (Sqz.auHB))); have n2_ := Aside0.mk (below_step (Sqz.auHB) hb); clear HO_5; clear HB; have HO_5 := n0_; have HO404 := n1_; have HB := n2_; clear n0_ n1_ n2_; clear hb ho39; obtain ⟨Ao40, co40, eo40⟩ := Kd.R_slice HO404.out; subst eo40) | ((with_reducible refine gate_callee (f := 25) rfl ?_); refine goesL_ (some 38) rfl rfl Try.func25 (by kernel_rfl) rfl #[.slice Ao11 t397.length co11, .slice Ao40 y402.length co40] rfl Sqz.auM ?_; (with_reducible refine (impl_FormJoin.calls kj8 _ _ t397 _ _ y402 t405 false _ ?side1 ?side2 ?side3 ?side4 A16.out).mono ?_); (case side1 => exact Sqz.mvC ((Kd.R_reads' HO_5.out).2.2)); (case side2 => exact (Kd.R_reads' HO_5.out).2.1); (case side3 => exact Sqz.mvC ((Kd.R_reads' HO404.out).2.2)); (case side4 => exact (Kd.R_reads' HO404.out).2.1); rintro e w41 ⟨v407, rfl, ho0, hb⟩; refine ⟨_, rfl, ?_⟩; have n0_ := Aside0.mk (Kd.R_elder' ((Sqz.mvR HO_5.out)) (Kd.R_base ho0) hb); have n1_ := Aside0.mk (Kd.R_elder' ((Sqz.mvR HO404.out)) (Kd.R_base ho0) hb); have n2_ := Aside0.mk (Kd.R_lower (Kd.R_new' (Kd.R_new' ho0 (Kd.R_lt ((Sqz.mvR HO_5.out)))) (Kd.R_lt ((Sqz.mvR HO404.out)))) (below_size (Sqz.auHB))); have n3_ := Aside0.mk (below_step (Sqz.auHB) hb); clear HO_5; clear HO404; clear HB; have HO_5 := n0_; have HO404 := n1_; have HO408 := n2_; have HB := n3_; clear n0_ n1_ n2_ n3_; (try clear hb); (try clear hb2); (try clear hk); (try clear hi); (try clear ho0)) | ((with_reducible refine gate_dst (N := 41) rfl ?_); (try (refine gate_guard (by rfl) ?_; dsimp only)); refine Kd.R_lit (Kd.int .i64) _ 3 ?hg (N := 41) ?hd (xs := ([0, 2, 3, 5, 7, 11] : List Int)) (inner := [.int .i64 0, .int .i64 2, .int .i64 3, .int .i64 5, .int .i64 7, .int .i64 11]) (ok := fun _ => True) (okp := fun _ => True) ?hr ?hp (fun _ hk => hk) trivial (Below.refl _ _) (Nat.le_refl _) (by simp) ?_; (case hd => rfl); (case hg => rfl); (case hr => first | (go_simp; done) | (go_simp; rfl)); (case hp => exact (Reps.one (show Kd.M (Kd.int .i64) _ _ _ 0 [.int .i64 0] from rfl) (Reps.one (show Kd.M (Kd.int .i64) _ _ _ 2 [.int .i64 2] from rfl) (Reps.one (show Kd.M (Kd.int .i64) _ _ _ 3 [.int .i64 3] from rfl) (Reps.one (show Kd.M (Kd.int .i64) _ _ _ 5 [.int .i64 5] from rfl) (Reps.one (show Kd.M (Kd.int .i64) _ _ _ 7 [.int .i64 7] from rfl) (Reps.one (show Kd.M (Kd.int .i64) _ _ _ 11 [.int .i64 11] from rfl) (Reps.none _ _)))))))); intro v410 w42 ho43 hb hg_ hnew_; clear hg_ hnew_; (first | rw [← Ny409.out] at ho43 | (simp only [Int.reduceToNat] at ho43; rw [← Ny409.out] at ho43)); have n0_ := Aside0.mk (Kd.R_elder' ((Sqz.mvR HO_5.out)) (Kd.R_base ho43) hb); have n1_ := Aside0.mk (Kd.R_elder' ((Sqz.mvR HO404.out)) (Kd.R_base ho43) hb); have n2_ := Aside0.mk (Kd.R_elder' ((Sqz.mvR HO408.out)) (Kd.R_base ho43) hb); have n3_ := Aside0.mk (Kd.R_lower (Kd.R_new' (Kd.R_new' (Kd.R_new' ho43 (Kd.R_lt ((Sqz.mvR HO_5.out)))) (Kd.R_lt ((Sqz.mvR HO404.out)))) (Kd.R_lt ((Sqz.mvR HO408.out)))) (below_size (Sqz.auHB))); have n4_ := Aside0.mk (below_step (Sqz.auHB) hb); clear HO_5; clear HO404; clear HO408; clear HB; have HO_5 := n0_; have HO404 := n1_; have HO408 := n2_; have HO411 := n3_; have HB := n4_; clear n0_ n1_ n2_ n3_ n4_; clear hb ho43; obtain ⟨Ao44, co44, eo44⟩ := Kd.R_slice HO411.out; subst eo44; have p412 : 0 ≤ ((ji17) : Int) := of_decide_eq_true (by first | (with_reducible assumption) | assumption); have q412 : (ji17) < (y409.length : Int) := of_decide_eq_true (by first | (with_reducible assumption) | assumption); obtain ⟨ad412, e412, hx412_0⟩ := Kd.at_int (Kd.R_reads' HO411.out).2.2 (ji17) p412 q412; cases e412; replace p412 := eq_true p412; replace q412 := eq_true q412) | ((with_reducible refine gate_callee (f := 53) rfl ?_); refine goesL_ (some 50) rfl rfl Try.func53 (by kernel_rfl) rfl #[.slice Ao11 t397.length co11] rfl Sqz.auM ?_; (with_reducible refine (impl_FormBad.calls kj8 _ _ t397 t413 _ ?side1 ?side2 A20.out).mono ?_); (case side1 => exact Sqz.mvC ((Kd.R_reads' HO_5.out).2.2)); (case side2 => exact (Kd.R_reads' HO_5.out).2.1); rintro e w45 ⟨v414, rfl, ho0, hb⟩; refine ⟨_, rfl, ?_⟩; have n0_ := Aside0.mk (Kd.R_elder' ((Sqz.mvR HO_5.out)) (Kd.R_base ho0) hb); have n1_ := Aside0.mk (Kd.R_elder' ((Sqz.mvR HO404.out)) (Kd.R_base ho0) hb); have n2_ := Aside0.mk (Kd.R_elder' ((Sqz.mvR HO408.out)) (Kd.R_base ho0) hb); have n3_ := Aside0.mk (Kd.R_elder' ((Sqz.mvR HO411.out)) (Kd.R_base ho0) hb); have n4_ := Aside0.mk (Kd.R_lower (Kd.R_new' (Kd.R_new' (Kd.R_new' (Kd.R_new' ho0 (Kd.R_lt ((Sqz.mvR HO_5.out)))) (Kd.R_lt ((Sqz.mvR HO404.out)))) (Kd.R_lt ((Sqz.mvR HO408.out)))) (Kd.R_lt ((Sqz.mvR HO411.out)))) (below_size (Sqz.auHB))); have n5_ := Aside0.mk (below_step (Sqz.auHB) hb); clear HO_5; clear HO404; clear HO408; clear HO411; clear HB; have HO_5 := n0_; have HO404 := n1_; have HO408 := n2_; have HO411 := n3_; have HO415 := n4_; have HB := n5_; clear n0_ n1_ n2_ n3_ n4_ n5_; (try clear hb); (try clear hb2); (try clear hk); (try clear hi); (try clear ho0); obtain ⟨Ao46, co46, eo46⟩ := Kd.R_slice HO415.out; subst eo46) | (go_at_call 32; (with_reducible refine (impl_PlanesAt.calls kj8 _ _ t397 (rd y409 (ji17)) t416 _ ?side1 ?side2 A22.out).mono ?_); (case side1 => exact Sqz.mvC ((Kd.R_reads' HO_5.out).2.2)); (case side2 => exact (Kd.R_reads' HO_5.out).2.1); rintro e w47 ⟨rfl, hb⟩; have n0_ := Aside0.mk (Kd.R_below ((Sqz.mvR HO_5.out)) hb); have n1_ := Aside0.mk (Kd.R_below ((Sqz.mvR HO404.out)) hb); have n2_ := Aside0.mk (Kd.R_below ((Sqz.mvR HO408.out)) hb); have n3_ := Aside0.mk (Kd.R_below ((Sqz.mvR HO411.out)) hb); have n4_ := Aside0.mk (Kd.R_below ((Sqz.mvR HO415.out)) hb); have n5_ := Aside0.mk (below_step (Sqz.auHB) hb); clear HO_5; clear HO404; clear HO408; clear HO411; clear HO415; clear HB; have HO_5 := n0_; have HO404 := n1_; have HO408 := n2_; have HO411 := n3_; have HO415 := n4_; have HB := n5_; clear n0_ n1_ n2_ n3_ n4_ n5_; (try clear hb); (try clear hb2); (try clear hk); (try clear hi)))
                        go_ret
                        exact ⟨by first | rfl | (simp [errW_none, errW_some] <;> rfl) | (simp only [← hji17]; first | rfl | (simp [errW_none, errW_some] <;> rfl)) | (simp [*, errW_none, errW_some] <;> rfl), Sqz.auHB⟩
                    · rw [if_neg c23] at H
                      have c23b0 : decide (t400 ≤ t416) = false := decide_eq_false c23
                      clear c23
                      obtain rfl := Option.some.inj H
                      go_wp2_with (first | ((with_reducible refine gate_dst (N := 37) rfl ?_); (try (refine gate_guard (by rfl) ?_; dsimp only)); refine Kd.R_lit (Kd.int .i64) _ 3 ?hg (N := 37) ?hd (xs := ([1, (-1)] : List Int)) (inner := [.int .i64 1, .int .i64 (-1)]) (ok := fun _ => True) (okp := fun _ => True) ?hr ?hp (fun _ hk => hk) trivial (Below.refl _ _) (Nat.le_refl _) (by simp) ?_; (case hd => rfl); (case hg => rfl); (case hr => first | (go_simp; done) | (go_simp; rfl)); (case hp => exact (Reps.one (show Kd.M (Kd.int .i64) _ _ _ 1 [.int .i64 1] from rfl) (Reps.one (show Kd.M (Kd.int .i64) _ _ _ (-1) [.int .i64 (-1)] from rfl) (Reps.none _ _)))); intro v403 w48 ho49 hb hg_ hnew_; clear hg_ hnew_; (first | rw [← Ny402.out] at ho49 | (simp only [Int.reduceToNat] at ho49; rw [← Ny402.out] at ho49)); have n0_ := Aside0.mk (Kd.R_elder' ((Sqz.mvR HO_5.out)) (Kd.R_base ho49) hb); have n1_ := Aside0.mk (Kd.R_lower (Kd.R_new' ho49 (Kd.R_lt ((Sqz.mvR HO_5.out)))) (below_size (Sqz.auHB))); have n2_ := Aside0.mk (below_step (Sqz.auHB) hb); clear HO_5; clear HB; have HO_5 := n0_; have HO404 := n1_; have HB := n2_; clear n0_ n1_ n2_; clear hb ho49; obtain ⟨Ao50, co50, eo50⟩ := Kd.R_slice HO404.out; subst eo50) | ((with_reducible refine gate_callee (f := 25) rfl ?_); refine goesL_ (some 38) rfl rfl Try.func25 (by kernel_rfl) rfl #[.slice Ao11 t397.length co11, .slice Ao50 y402.length co50] rfl Sqz.auM ?_; (with_reducible refine (impl_FormJoin.calls kj8 _ _ t397 _ _ y402 t405 t406 _ ?side1 ?side2 ?side3 ?side4 A16.out).mono ?_); (case side1 => exact Sqz.mvC ((Kd.R_reads' HO_5.out).2.2)); (case side2 => exact (Kd.R_reads' HO_5.out).2.1); (case side3 => exact Sqz.mvC ((Kd.R_reads' HO404.out).2.2)); (case side4 => exact (Kd.R_reads' HO404.out).2.1); rintro e w51 ⟨v407, rfl, ho0, hb⟩; refine ⟨_, rfl, ?_⟩; have n0_ := Aside0.mk (Kd.R_elder' ((Sqz.mvR HO_5.out)) (Kd.R_base ho0) hb); have n1_ := Aside0.mk (Kd.R_elder' ((Sqz.mvR HO404.out)) (Kd.R_base ho0) hb); have n2_ := Aside0.mk (Kd.R_lower (Kd.R_new' (Kd.R_new' ho0 (Kd.R_lt ((Sqz.mvR HO_5.out)))) (Kd.R_lt ((Sqz.mvR HO404.out)))) (below_size (Sqz.auHB))); have n3_ := Aside0.mk (below_step (Sqz.auHB) hb); clear HO_5; clear HO404; clear HB; have HO_5 := n0_; have HO404 := n1_; have HO408 := n2_; have HB := n3_; clear n0_ n1_ n2_ n3_; (try clear hb); (try clear hb2); (try clear hk); (try clear hi); (try clear ho0)) | ((with_reducible refine gate_dst (N := 41) rfl ?_); (try (refine gate_guard (by rfl) ?_; dsimp only)); refine Kd.R_lit (Kd.int .i64) _ 3 ?hg (N := 41) ?hd (xs := ([0, 2, 3, 5, 7, 11] : List Int)) (inner := [.int .i64 0, .int .i64 2, .int .i64 3, .int .i64 5, .int .i64 7, .int .i64 11]) (ok := fun _ => True) (okp := fun _ => True) ?hr ?hp (fun _ hk => hk) trivial (Below.refl _ _) (Nat.le_refl _) (by simp) ?_; (case hd => rfl); (case hg => rfl); (case hr => first | (go_simp; done) | (go_simp; rfl)); (case hp => exact (Reps.one (show Kd.M (Kd.int .i64) _ _ _ 0 [.int .i64 0] from rfl) (Reps.one (show Kd.M (Kd.int .i64) _ _ _ 2 [.int .i64 2] from rfl) (Reps.one (show Kd.M (Kd.int .i64) _ _ _ 3 [.int .i64 3] from rfl) (Reps.one (show Kd.M (Kd.int .i64) _ _ _ 5 [.int .i64 5] from rfl) (Reps.one (show Kd.M (Kd.int .i64) _ _ _ 7 [.int .i64 7] from rfl) (Reps.one (show Kd.M (Kd.int .i64) _ _ _ 11 [.int .i64 11] from rfl) (Reps.none _ _)))))))); intro v410 w52 ho53 hb hg_ hnew_; clear hg_ hnew_; (first | rw [← Ny409.out] at ho53 | (simp only [Int.reduceToNat] at ho53; rw [← Ny409.out] at ho53)); have n0_ := Aside0.mk (Kd.R_elder' ((Sqz.mvR HO_5.out)) (Kd.R_base ho53) hb); have n1_ := Aside0.mk (Kd.R_elder' ((Sqz.mvR HO404.out)) (Kd.R_base ho53) hb); have n2_ := Aside0.mk (Kd.R_elder' ((Sqz.mvR HO408.out)) (Kd.R_base ho53) hb); have n3_ := Aside0.mk (Kd.R_lower (Kd.R_new' (Kd.R_new' (Kd.R_new' ho53 (Kd.R_lt ((Sqz.mvR HO_5.out)))) (Kd.R_lt ((Sqz.mvR HO404.out)))) (Kd.R_lt ((Sqz.mvR HO408.out)))) (below_size (Sqz.auHB))); have n4_ := Aside0.mk (below_step (Sqz.auHB) hb); clear HO_5; clear HO404; clear HO408; clear HB; have HO_5 := n0_; have HO404 := n1_; have HO408 := n2_; have HO411 := n3_; have HB := n4_; clear n0_ n1_ n2_ n3_ n4_; clear hb ho53; obtain ⟨Ao54, co54, eo54⟩ := Kd.R_slice HO411.out; subst eo54; have p412 : 0 ≤ ((ji17) : Int) := of_decide_eq_true (by first | (with_reducible assumption) | assumption); have q412 : (ji17) < (y409.length : Int) := of_decide_eq_true (by first | (with_reducible assumption) | assumption); obtain ⟨ad412, e412, hx412_0⟩ := Kd.at_int (Kd.R_reads' HO411.out).2.2 (ji17) p412 q412; cases e412; replace p412 := eq_true p412; replace q412 := eq_true q412) | ((with_reducible refine gate_callee (f := 53) rfl ?_); refine goesL_ (some 50) rfl rfl Try.func53 (by kernel_rfl) rfl #[.slice Ao11 t397.length co11] rfl Sqz.auM ?_; (with_reducible refine (impl_FormBad.calls kj8 _ _ t397 t413 _ ?side1 ?side2 A20.out).mono ?_); (case side1 => exact Sqz.mvC ((Kd.R_reads' HO_5.out).2.2)); (case side2 => exact (Kd.R_reads' HO_5.out).2.1); rintro e w55 ⟨v414, rfl, ho0, hb⟩; refine ⟨_, rfl, ?_⟩; have n0_ := Aside0.mk (Kd.R_elder' ((Sqz.mvR HO_5.out)) (Kd.R_base ho0) hb); have n1_ := Aside0.mk (Kd.R_elder' ((Sqz.mvR HO404.out)) (Kd.R_base ho0) hb); have n2_ := Aside0.mk (Kd.R_elder' ((Sqz.mvR HO408.out)) (Kd.R_base ho0) hb); have n3_ := Aside0.mk (Kd.R_elder' ((Sqz.mvR HO411.out)) (Kd.R_base ho0) hb); have n4_ := Aside0.mk (Kd.R_lower (Kd.R_new' (Kd.R_new' (Kd.R_new' (Kd.R_new' ho0 (Kd.R_lt ((Sqz.mvR HO_5.out)))) (Kd.R_lt ((Sqz.mvR HO404.out)))) (Kd.R_lt ((Sqz.mvR HO408.out)))) (Kd.R_lt ((Sqz.mvR HO411.out)))) (below_size (Sqz.auHB))); have n5_ := Aside0.mk (below_step (Sqz.auHB) hb); clear HO_5; clear HO404; clear HO408; clear HO411; clear HB; have HO_5 := n0_; have HO404 := n1_; have HO408 := n2_; have HO411 := n3_; have HO415 := n4_; have HB := n5_; clear n0_ n1_ n2_ n3_ n4_ n5_; (try clear hb); (try clear hb2); (try clear hk); (try clear hi); (try clear ho0); obtain ⟨Ao56, co56, eo56⟩ := Kd.R_slice HO415.out; subst eo56) | (go_at_call 32; (with_reducible refine (impl_PlanesAt.calls kj8 _ _ t397 (rd y409 (ji17)) t416 _ ?side1 ?side2 A22.out).mono ?_); (case side1 => exact Sqz.mvC ((Kd.R_reads' HO_5.out).2.2)); (case side2 => exact (Kd.R_reads' HO_5.out).2.1); rintro e w57 ⟨rfl, hb⟩; have n0_ := Aside0.mk (Kd.R_below ((Sqz.mvR HO_5.out)) hb); have n1_ := Aside0.mk (Kd.R_below ((Sqz.mvR HO404.out)) hb); have n2_ := Aside0.mk (Kd.R_below ((Sqz.mvR HO408.out)) hb); have n3_ := Aside0.mk (Kd.R_below ((Sqz.mvR HO411.out)) hb); have n4_ := Aside0.mk (Kd.R_below ((Sqz.mvR HO415.out)) hb); have n5_ := Aside0.mk (below_step (Sqz.auHB) hb); clear HO_5; clear HO404; clear HO408; clear HO411; clear HO415; clear HB; have HO_5 := n0_; have HO404 := n1_; have HO408 := n2_; have HO411 := n3_; have HO415 := n4_; have HB := n5_; clear n0_ n1_ n2_ n3_ n4_ n5_; (try clear hb); (try clear hb2); (try clear hk); (try clear hi)))
                      go_ret
                      exact ⟨by first | rfl | (simp [errW_none, errW_some] <;> rfl) | (simp only [← hji17]; first | rfl | (simp [errW_none, errW_some] <;> rfl)) | (simp [*, errW_none, errW_some] <;> rfl), Sqz.auHB⟩
                  · rw [if_neg c21] at H
                    have c21b0 : ((decide (t400 > 0)) == ((t413.length : Int) == 0)) = false := by simpa using c21
                    (try (have c21b1 : decide ((decide (t400 > 0)) = ((t413.length : Int) == 0)) = false := by simpa using c21))
                    (try (have c21b2 : ((decide (t400 > 0)) == ((t413.length : Int) == 0)) = false := by simpa using c21))
                    (try (have c21b3 : ¬ ((decide (t400 > 0)) = ((t413.length : Int) == 0)) := by simpa using c21))
                    clear c21
                    obtain rfl := Option.some.inj H
                    go_wp2_with (first | ((with_reducible refine gate_dst (N := 37) rfl ?_); (try (refine gate_guard (by rfl) ?_; dsimp only)); refine Kd.R_lit (Kd.int .i64) _ 3 ?hg (N := 37) ?hd (xs := ([1, (-1)] : List Int)) (inner := [.int .i64 1, .int .i64 (-1)]) (ok := fun _ => True) (okp := fun _ => True) ?hr ?hp (fun _ hk => hk) trivial (Below.refl _ _) (Nat.le_refl _) (by simp) ?_; (case hd => rfl); (case hg => rfl); (case hr => first | (go_simp; done) | (go_simp; rfl)); (case hp => exact (Reps.one (show Kd.M (Kd.int .i64) _ _ _ 1 [.int .i64 1] from rfl) (Reps.one (show Kd.M (Kd.int .i64) _ _ _ (-1) [.int .i64 (-1)] from rfl) (Reps.none _ _)))); intro v403 w58 ho59 hb hg_ hnew_; clear hg_ hnew_; (first | rw [← Ny402.out] at ho59 | (simp only [Int.reduceToNat] at ho59; rw [← Ny402.out] at ho59)); have n0_ := Aside0.mk (Kd.R_elder' ((Sqz.mvR HO_5.out)) (Kd.R_base ho59) hb); have n1_ := Aside0.mk (Kd.R_lower (Kd.R_new' ho59 (Kd.R_lt ((Sqz.mvR HO_5.out)))) (below_size (Sqz.auHB))); have n2_ := Aside0.mk (below_step (Sqz.auHB) hb); clear HO_5; clear HB; have HO_5 := n0_; have HO404 := n1_; have HB := n2_; clear n0_ n1_ n2_; clear hb ho59; obtain ⟨Ao60, co60, eo60⟩ := Kd.R_slice HO404.out; subst eo60) | ((with_reducible refine gate_callee (f := 25) rfl ?_); refine goesL_ (some 38) rfl rfl Try.func25 (by kernel_rfl) rfl #[.slice Ao11 t397.length co11, .slice Ao60 y402.length co60] rfl Sqz.auM ?_; (with_reducible refine (impl_FormJoin.calls kj8 _ _ t397 _ _ y402 t405 t406 _ ?side1 ?side2 ?side3 ?side4 A16.out).mono ?_); (case side1 => exact Sqz.mvC ((Kd.R_reads' HO_5.out).2.2)); (case side2 => exact (Kd.R_reads' HO_5.out).2.1); (case side3 => exact Sqz.mvC ((Kd.R_reads' HO404.out).2.2)); (case side4 => exact (Kd.R_reads' HO404.out).2.1); rintro e w61 ⟨v407, rfl, ho0, hb⟩; refine ⟨_, rfl, ?_⟩; have n0_ := Aside0.mk (Kd.R_elder' ((Sqz.mvR HO_5.out)) (Kd.R_base ho0) hb); have n1_ := Aside0.mk (Kd.R_elder' ((Sqz.mvR HO404.out)) (Kd.R_base ho0) hb); have n2_ := Aside0.mk (Kd.R_lower (Kd.R_new' (Kd.R_new' ho0 (Kd.R_lt ((Sqz.mvR HO_5.out)))) (Kd.R_lt ((Sqz.mvR HO404.out)))) (below_size (Sqz.auHB))); have n3_ := Aside0.mk (below_step (Sqz.auHB) hb); clear HO_5; clear HO404; clear HB; have HO_5 := n0_; have HO404 := n1_; have HO408 := n2_; have HB := n3_; clear n0_ n1_ n2_ n3_; (try clear hb); (try clear hb2); (try clear hk); (try clear hi); (try clear ho0)) | ((with_reducible refine gate_dst (N := 41) rfl ?_); (try (refine gate_guard (by rfl) ?_; dsimp only)); refine Kd.R_lit (Kd.int .i64) _ 3 ?hg (N := 41) ?hd (xs := ([0, 2, 3, 5, 7, 11] : List Int)) (inner := [.int .i64 0, .int .i64 2, .int .i64 3, .int .i64 5, .int .i64 7, .int .i64 11]) (ok := fun _ => True) (okp := fun _ => True) ?hr ?hp (fun _ hk => hk) trivial (Below.refl _ _) (Nat.le_refl _) (by simp) ?_; (case hd => rfl); (case hg => rfl); (case hr => first | (go_simp; done) | (go_simp; rfl)); (case hp => exact (Reps.one (show Kd.M (Kd.int .i64) _ _ _ 0 [.int .i64 0] from rfl) (Reps.one (show Kd.M (Kd.int .i64) _ _ _ 2 [.int .i64 2] from rfl) (Reps.one (show Kd.M (Kd.int .i64) _ _ _ 3 [.int .i64 3] from rfl) (Reps.one (show Kd.M (Kd.int .i64) _ _ _ 5 [.int .i64 5] from rfl) (Reps.one (show Kd.M (Kd.int .i64) _ _ _ 7 [.int .i64 7] from rfl) (Reps.one (show Kd.M (Kd.int .i64) _ _ _ 11 [.int .i64 11] from rfl) (Reps.none _ _)))))))); intro v410 w62 ho63 hb hg_ hnew_; clear hg_ hnew_; (first | rw [← Ny409.out] at ho63 | (simp only [Int.reduceToNat] at ho63; rw [← Ny409.out] at ho63)); have n0_ := Aside0.mk (Kd.R_elder' ((Sqz.mvR HO_5.out)) (Kd.R_base ho63) hb); have n1_ := Aside0.mk (Kd.R_elder' ((Sqz.mvR HO404.out)) (Kd.R_base ho63) hb); have n2_ := Aside0.mk (Kd.R_elder' ((Sqz.mvR HO408.out)) (Kd.R_base ho63) hb); have n3_ := Aside0.mk (Kd.R_lower (Kd.R_new' (Kd.R_new' (Kd.R_new' ho63 (Kd.R_lt ((Sqz.mvR HO_5.out)))) (Kd.R_lt ((Sqz.mvR HO404.out)))) (Kd.R_lt ((Sqz.mvR HO408.out)))) (below_size (Sqz.auHB))); have n4_ := Aside0.mk (below_step (Sqz.auHB) hb); clear HO_5; clear HO404; clear HO408; clear HB; have HO_5 := n0_; have HO404 := n1_; have HO408 := n2_; have HO411 := n3_; have HB := n4_; clear n0_ n1_ n2_ n3_ n4_; clear hb ho63; obtain ⟨Ao64, co64, eo64⟩ := Kd.R_slice HO411.out; subst eo64; have p412 : 0 ≤ ((ji17) : Int) := of_decide_eq_true (by first | (with_reducible assumption) | assumption); have q412 : (ji17) < (y409.length : Int) := of_decide_eq_true (by first | (with_reducible assumption) | assumption); obtain ⟨ad412, e412, hx412_0⟩ := Kd.at_int (Kd.R_reads' HO411.out).2.2 (ji17) p412 q412; cases e412; replace p412 := eq_true p412; replace q412 := eq_true q412) | ((with_reducible refine gate_callee (f := 53) rfl ?_); refine goesL_ (some 50) rfl rfl Try.func53 (by kernel_rfl) rfl #[.slice Ao11 t397.length co11] rfl Sqz.auM ?_; (with_reducible refine (impl_FormBad.calls kj8 _ _ t397 t413 _ ?side1 ?side2 A20.out).mono ?_); (case side1 => exact Sqz.mvC ((Kd.R_reads' HO_5.out).2.2)); (case side2 => exact (Kd.R_reads' HO_5.out).2.1); rintro e w65 ⟨v414, rfl, ho0, hb⟩; refine ⟨_, rfl, ?_⟩; have n0_ := Aside0.mk (Kd.R_elder' ((Sqz.mvR HO_5.out)) (Kd.R_base ho0) hb); have n1_ := Aside0.mk (Kd.R_elder' ((Sqz.mvR HO404.out)) (Kd.R_base ho0) hb); have n2_ := Aside0.mk (Kd.R_elder' ((Sqz.mvR HO408.out)) (Kd.R_base ho0) hb); have n3_ := Aside0.mk (Kd.R_elder' ((Sqz.mvR HO411.out)) (Kd.R_base ho0) hb); have n4_ := Aside0.mk (Kd.R_lower (Kd.R_new' (Kd.R_new' (Kd.R_new' (Kd.R_new' ho0 (Kd.R_lt ((Sqz.mvR HO_5.out)))) (Kd.R_lt ((Sqz.mvR HO404.out)))) (Kd.R_lt ((Sqz.mvR HO408.out)))) (Kd.R_lt ((Sqz.mvR HO411.out)))) (below_size (Sqz.auHB))); have n5_ := Aside0.mk (below_step (Sqz.auHB) hb); clear HO_5; clear HO404; clear HO408; clear HO411; clear HB; have HO_5 := n0_; have HO404 := n1_; have HO408 := n2_; have HO411 := n3_; have HO415 := n4_; have HB := n5_; clear n0_ n1_ n2_ n3_ n4_ n5_; (try clear hb); (try clear hb2); (try clear hk); (try clear hi); (try clear ho0); obtain ⟨Ao66, co66, eo66⟩ := Kd.R_slice HO415.out; subst eo66))
                    go_ret
                    exact ⟨by first | rfl | (simp [errW_none, errW_some] <;> rfl) | (simp only [← hji17]; first | rfl | (simp [errW_none, errW_some] <;> rfl)) | (simp [*, errW_none, errW_some] <;> rfl), Sqz.auHB⟩
                · rw [if_neg c19] at H
                  exact absurd H (by simp)
              · rw [if_neg c18] at H
                exact absurd H (by simp)

/-- THE ONE PURE STATEMENT of laws_FnPlanesAll: yours. -/
def laws_FnPlanesAll.Pure : Prop := ∀ (l0 : List Int) (l1 : List Int), l0.length ≤ maxLen → l0.length * 1 ≤ 140737488351232 → (∀ x ∈ l0, (Lit.int .u8 x).wf = true) → l1.length ≤ maxLen → l1.length * 1 ≤ 140737488351232 → (∀ x ∈ l1, (Lit.int .u8 x).wf = true) → ∃ k, laws_FnPlanesAll.f k l0 l1 = some true
theorem laws_FnPlanesAll.walk (P : laws_FnPlanesAll.Pure) (a0 : Option Addr) (len0 cap0 : Nat) (z0 : List Int) (a1 : Option Addr) (len1 cap1 : Nat) (z1 : List Int) (w : World) (w0 : (a0 = none ∧ len0 = 0 ∧ cap0 = 0 ∧ z0 = []) ∨ ∃ x, a0 = some x ∧ len0 ≤ cap0 ∧ cap0 ≤ maxLen ∧ z0.length = cap0 ∧ (∀ i, i < z0.length → w.cell? (x.add i) = some (.int .u8 (z0.getD i 0))) ∧ ∀ n ∈ z0, (Lit.int .u8 n).wf = true) (y0 : len0 * 1 ≤ 140737488351232) (w1 : (a1 = none ∧ len1 = 0 ∧ cap1 = 0 ∧ z1 = []) ∨ ∃ x, a1 = some x ∧ len1 ≤ cap1 ∧ cap1 ≤ maxLen ∧ z1.length = cap1 ∧ (∀ i, i < z1.length → w.cell? (x.add i) = some (.int .u8 (z1.getD i 0))) ∧ ∀ n ∈ z1, (Lit.int .u8 n).wf = true) (y1 : len1 * 1 ≤ 140737488351232) :
    Calls Try.prog 11 #[.slice a0 len0 cap0, .slice a1 len1 cap1] w fun e w' => e = .returned (.bool true) ∧ Below w.heap.size w w' := by
  obtain ⟨l0, rfl, hr0, hm0, hw0, hc0⟩ := ReadsInt.ofRowC w0
  obtain ⟨l1, rfl, hr1, hm1, hw1, hc1⟩ := ReadsInt.ofRowC w1
  obtain ⟨k, h⟩ := P l0 l1 hm0 y0 hw0 hm1 y1 hw1
  refine (laws_FnPlanesAll.calls k _ _ l0 _ _ l1 true w (Kd.C_of_reads (d := (0 : Int)) (h1 := fun _ => rfl) hr0) hc0 (Kd.C_of_reads (d := (0 : Int)) (h1 := fun _ => rfl) hr1) hc1 h).mono ?_
  rintro e w' ⟨rfl, hd⟩
  exact ⟨rfl, hd⟩

end Go.Proofs.Ytihadpckmcebgaa.PFnPlanesAll
