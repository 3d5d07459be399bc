/- A function's Lean twin and its walk, written by a program of this session. -/
import Derived.Test.YtihadpckmcebgaaPFnTermsValuex0
import Derived.Test.YtihadpckmcebgaaPFnTermsValuex1
import Derived.Test.YtihadpckmcebgaaPFnTermsValuex2
import Derived.Test.YtihadpckmcebgaaPFnTermsValuex3
import Derived.Test.YtihadpckmcebgaaPFnTermsValuex5
namespace Go.Proofs.Ytihadpckmcebgaa.PFnTermsValue
open Go.RowKit Go.Proofs.YtihadpckmcebgaaW.PrintWords Go.Proofs.YtihadpckmcebgaaW.PrintLast Go.Proofs.YtihadpckmcebgaaW.PrintMore
attribute [local go_sem] max2_int min2_int max_two min_two max_three min_three max_four min_four   -- for this text's walks alone
set_option linter.unusedVariables false
set_option linter.unusedSimpArgs false

/-! ### impl_planes: function 91 -/
def impl_planes.f (k : Nat) (l0 : List Int) (a1 : Int) : Option (Int) := if a1 = 0 then ((impl_lessTerms.f k l0).bind fun t339 => (some (mn t339 (wrap64 ((l0.length : Int) - t339))))) else ((impl_vanishes.f k l0 a1).bind fun t340 => (if t340 = true then (if (l0.length : Int) = 4 then ((impl_product.f k l0).bind fun t341 => ((impl_localSquare.f k t341 a1).bind fun t342 => (if t342 = true then ((impl_invariant.f k l0 a1).bind fun t343 => ((impl_symbol.f k (-1) (-1) a1).bind fun t344 => (if t343 = t344 then (some 2) else (some 1)))) else (some 1)))) else (some 1)) else (some 0)))
set_option maxHeartbeats 8000000 in
set_option maxRecDepth 100000 in
theorem impl_planes.calls (k : Nat) (A0 : Option Addr) (c0 : Nat) (l0 : List Int) (a1 : Int) (r : Int) (w : World) (hr0 : Kd.C (Kd.int .i64) w A0 l0.length l0) (hc0 : l0.length ≤ c0) (h : impl_planes.f k l0 a1 = some r) :
    Calls Try.prog 91 #[.slice A0 l0.length c0, .int .i64 a1] w fun e w' => e = .returned (.int .i64 r) ∧ Below w.heap.size w w' := by
  have HR0 := Aside0.mk hr0
  have HC0 := Aside0.mk hc0
  clear hr0 hc0
  have HB := Aside0.mk (Below.refl w.heap.size w)
  have H : (if a1 = 0 then ((impl_lessTerms.f k l0).bind fun t339 => (some (mn t339 (wrap64 ((l0.length : Int) - t339))))) else ((impl_vanishes.f k l0 a1).bind fun t340 => (if t340 = true then (if (l0.length : Int) = 4 then ((impl_product.f k l0).bind fun t341 => ((impl_localSquare.f k t341 a1).bind fun t342 => (if t342 = true then ((impl_invariant.f k l0 a1).bind fun t343 => ((impl_symbol.f k (-1) (-1) a1).bind fun t344 => (if t343 = t344 then (some 2) else (some 1)))) else (some 1)))) else (some 1)) else (some 0)))) = some r := h
  clear h
  by_cases c3 : a1 = 0
  · rw [if_pos c3] at H
    have c3b0 : (a1 == 0) = true := beq_iff_eq.mpr c3
    have c3b1 : (a1 != 0) = false := bne_eq_false_iff_eq.mpr c3
    clear c3
    replace H := Option.bind_eq_some_iff.mp H
    obtain ⟨t339, A40, H⟩ := H
    replace H : (some (mn t339 (wrap64 ((l0.length : Int) - t339)))) = some r := H
    have A4 := Aside0.mk A40
    clear A40
    obtain ⟨ji5, hji5⟩ : ∃ j_ : Int, (mn t339 (wrap64 ((l0.length : Int) - t339))) = j_ := ⟨_, rfl⟩
    replace H : (some ji5) = some r := by first | (rw [hji5] at H; exact H) | (simp only [hji5] at H ⊢; exact H)
    (try rw [hji5] at A4)
    have hji5_ : (if (wrap64 ((l0.length : Int) - t339)) < t339 then (wrap64 ((l0.length : Int) - t339)) else t339) = ji5 := hji5
    obtain rfl := Option.some.inj H
    go_enter Try.func91, Try.ntmps91
    go_wp2_with (first | ((with_reducible refine gate_callee (f := 125) rfl ?_); refine goesL_ (some 9) rfl rfl Try.func125 (by kernel_rfl) rfl #[.slice A0 l0.length c0] rfl Sqz.auM ?_; (with_reducible refine (impl_lessTerms.calls k _ _ l0 t339 _ ?side1 ?side2 A4.out).mono ?_); (case side1 => exact Sqz.mvC (HR0.out)); (case side2 => exact HC0.out); rintro e w' ⟨rfl, ⟨nd, rfl⟩⟩; refine ⟨_, rfl, ?_⟩))
    go_ret
    exact ⟨by first | rfl | (simp [errW_none, errW_some] <;> rfl) | (simp only [← hji5]; first | rfl | (simp [errW_none, errW_some] <;> rfl)) | (simp [*, errW_none, errW_some] <;> rfl), Sqz.auHB⟩
  · rw [if_neg c3] at H
    have c3b0 : (a1 == 0) = false := beq_eq_false_iff_ne.mpr c3
    have c3b1 : (a1 != 0) = true := bne_iff_ne.mpr c3
    replace H := Option.bind_eq_some_iff.mp H
    obtain ⟨t340, A60, H⟩ := H
    replace H : (if t340 = true then (if (l0.length : Int) = 4 then ((impl_product.f k l0).bind fun t341 => ((impl_localSquare.f k t341 a1).bind fun t342 => (if t342 = true then ((impl_invariant.f k l0 a1).bind fun t343 => ((impl_symbol.f k (-1) (-1) a1).bind fun t344 => (if t343 = t344 then (some 2) else (some 1)))) else (some 1)))) else (some 1)) else (some 0)) = some r := H
    have A6 := Aside0.mk A60
    clear A60
    by_cases c7 : t340 = true
    · subst c7
      have H1 : (if (l0.length : Int) = 4 then ((impl_product.f k l0).bind fun t341 => ((impl_localSquare.f k t341 a1).bind fun t342 => (if t342 = true then ((impl_invariant.f k l0 a1).bind fun t343 => ((impl_symbol.f k (-1) (-1) a1).bind fun t344 => (if t343 = t344 then (some 2) else (some 1)))) else (some 1)))) else (some 1)) = some r := by rw [if_pos rfl] at H; exact H
      clear H
      have H := H1
      clear H1
      by_cases c8 : (l0.length : Int) = 4
      · rw [if_pos c8] at H
        have c8b0 : ((l0.length : Int) == 4) = true := beq_iff_eq.mpr c8
        have c8b1 : ((l0.length : Int) != 4) = false := bne_eq_false_iff_eq.mpr c8
        clear c8
        replace H := Option.bind_eq_some_iff.mp H
        obtain ⟨t341, A90, H⟩ := H
        replace H : ((impl_localSquare.f k t341 a1).bind fun t342 => (if t342 = true then ((impl_invariant.f k l0 a1).bind fun t343 => ((impl_symbol.f k (-1) (-1) a1).bind fun t344 => (if t343 = t344 then (some 2) else (some 1)))) else (some 1))) = some r := H
        have A9 := Aside0.mk A90
        clear A90
        replace H := Option.bind_eq_some_iff.mp H
        obtain ⟨t342, A100, H⟩ := H
        replace H : (if t342 = true then ((impl_invariant.f k l0 a1).bind fun t343 => ((impl_symbol.f k (-1) (-1) a1).bind fun t344 => (if t343 = t344 then (some 2) else (some 1)))) else (some 1)) = some r := H
        have A10 := Aside0.mk A100
        clear A100
        by_cases c11 : t342 = true
        · subst c11
          have H1 : ((impl_invariant.f k l0 a1).bind fun t343 => ((impl_symbol.f k (-1) (-1) a1).bind fun t344 => (if t343 = t344 then (some 2) else (some 1)))) = some r := by rw [if_pos rfl] at H; exact H
          clear H
          have H := H1
          clear H1
          replace H := Option.bind_eq_some_iff.mp H
          obtain ⟨t343, A120, H⟩ := H
          replace H : ((impl_symbol.f k (-1) (-1) a1).bind fun t344 => (if t343 = t344 then (some 2) else (some 1))) = some r := H
          have A12 := Aside0.mk A120
          clear A120
          replace H := Option.bind_eq_some_iff.mp H
          obtain ⟨t344, A130, H⟩ := H
          replace H : (if t343 = t344 then (some 2) else (some 1)) = some r := H
          have A13 := Aside0.mk A130
          clear A130
          by_cases c14 : t343 = t344
          · rw [if_pos c14] at H
            have c14b0 : (t343 == t344) = true := beq_iff_eq.mpr c14
            have c14b1 : (t343 != t344) = false := bne_eq_false_iff_eq.mpr c14
            clear c14
            obtain rfl := Option.some.inj H
            go_enter Try.func91, Try.ntmps91
            go_wp2_with (first | ((with_reducible refine gate_callee (f := 74) rfl ?_); refine goesL_ (some 18) rfl rfl Try.func74 (by kernel_rfl) rfl #[.slice A0 l0.length c0, .int .i64 a1] rfl Sqz.auM ?_; (with_reducible refine (impl_vanishes.calls k _ _ l0 a1 true _ ?side1 ?side2 A6.out).mono ?_); (case side1 => exact Sqz.mvC (HR0.out)); (case side2 => exact HC0.out); rintro e w' ⟨rfl, ⟨nd, rfl⟩⟩; refine ⟨_, rfl, ?_⟩) | (go_at_call 124; (with_reducible refine (impl_product.calls k _ _ l0 t341 _ ?side1 ?side2 A9.out).mono ?_); (case side1 => exact Sqz.mvC (HR0.out)); (case side2 => exact HC0.out); rintro e w' ⟨rfl, ⟨nd, rfl⟩⟩) | (go_at_call 89; (with_reducible refine (impl_localSquare.calls k t341 a1 true _ A10.out).mono ?_); rintro e w' ⟨rfl, ⟨nd, rfl⟩⟩) | (go_at_call 126; (with_reducible refine (impl_invariant.calls k _ _ l0 a1 t343 _ ?side1 ?side2 A12.out).mono ?_); (case side1 => exact Sqz.mvC (HR0.out)); (case side2 => exact HC0.out); rintro e w' ⟨rfl, ⟨nd, rfl⟩⟩) | (go_at_call 127; (with_reducible refine (impl_symbol.calls k (-1) (-1) a1 t344 _ A13.out).mono ?_); rintro e w' ⟨rfl, ⟨nd, rfl⟩⟩))
            go_ret
            exact ⟨Sqz.auR, Sqz.auHB⟩
          · rw [if_neg c14] at H
            have c14b0 : (t343 == t344) = false := beq_eq_false_iff_ne.mpr c14
            have c14b1 : (t343 != t344) = true := bne_iff_ne.mpr c14
            obtain rfl := Option.some.inj H
            go_enter Try.func91, Try.ntmps91
            go_wp2_with (first | ((with_reducible refine gate_callee (f := 74) rfl ?_); refine goesL_ (some 18) rfl rfl Try.func74 (by kernel_rfl) rfl #[.slice A0 l0.length c0, .int .i64 a1] rfl Sqz.auM ?_; (with_reducible refine (impl_vanishes.calls k _ _ l0 a1 true _ ?side1 ?side2 A6.out).mono ?_); (case side1 => exact Sqz.mvC (HR0.out)); (case side2 => exact HC0.out); rintro e w' ⟨rfl, ⟨nd, rfl⟩⟩; refine ⟨_, rfl, ?_⟩) | (go_at_call 124; (with_reducible refine (impl_product.calls k _ _ l0 t341 _ ?side1 ?side2 A9.out).mono ?_); (case side1 => exact Sqz.mvC (HR0.out)); (case side2 => exact HC0.out); rintro e w' ⟨rfl, ⟨nd, rfl⟩⟩) | (go_at_call 89; (with_reducible refine (impl_localSquare.calls k t341 a1 true _ A10.out).mono ?_); rintro e w' ⟨rfl, ⟨nd, rfl⟩⟩) | (go_at_call 126; (with_reducible refine (impl_invariant.calls k _ _ l0 a1 t343 _ ?side1 ?side2 A12.out).mono ?_); (case side1 => exact Sqz.mvC (HR0.out)); (case side2 => exact HC0.out); rintro e w' ⟨rfl, ⟨nd, rfl⟩⟩) | (go_at_call 127; (with_reducible refine (impl_symbol.calls k (-1) (-1) a1 t344 _ A13.out).mono ?_); rintro e w' ⟨rfl, ⟨nd, rfl⟩⟩))
            go_ret
            exact ⟨Sqz.auR, Sqz.auHB⟩
        · replace c11 := Bool.eq_false_iff.mpr c11
          subst c11
          have H1 : (some 1) = some r := by rw [if_neg (show ¬ (false = true) by decide)] at H; exact H
          clear H
          have H := H1
          clear H1
          obtain rfl := Option.some.inj H
          go_enter Try.func91, Try.ntmps91
          go_wp2_with (first | ((with_reducible refine gate_callee (f := 74) rfl ?_); refine goesL_ (some 18) rfl rfl Try.func74 (by kernel_rfl) rfl #[.slice A0 l0.length c0, .int .i64 a1] rfl Sqz.auM ?_; (with_reducible refine (impl_vanishes.calls k _ _ l0 a1 true _ ?side1 ?side2 A6.out).mono ?_); (case side1 => exact Sqz.mvC (HR0.out)); (case side2 => exact HC0.out); rintro e w' ⟨rfl, ⟨nd, rfl⟩⟩; refine ⟨_, rfl, ?_⟩) | (go_at_call 124; (with_reducible refine (impl_product.calls k _ _ l0 t341 _ ?side1 ?side2 A9.out).mono ?_); (case side1 => exact Sqz.mvC (HR0.out)); (case side2 => exact HC0.out); rintro e w' ⟨rfl, ⟨nd, rfl⟩⟩) | (go_at_call 89; (with_reducible refine (impl_localSquare.calls k t341 a1 false _ A10.out).mono ?_); rintro e w' ⟨rfl, ⟨nd, rfl⟩⟩))
          go_ret
          exact ⟨Sqz.auR, Sqz.auHB⟩
      · rw [if_neg c8] at H
        have c8b0 : ((l0.length : Int) == 4) = false := beq_eq_false_iff_ne.mpr c8
        have c8b1 : ((l0.length : Int) != 4) = true := bne_iff_ne.mpr c8
        obtain rfl := Option.some.inj H
        go_enter Try.func91, Try.ntmps91
        go_wp2_with (first | ((with_reducible refine gate_callee (f := 74) rfl ?_); refine goesL_ (some 18) rfl rfl Try.func74 (by kernel_rfl) rfl #[.slice A0 l0.length c0, .int .i64 a1] rfl Sqz.auM ?_; (with_reducible refine (impl_vanishes.calls k _ _ l0 a1 true _ ?side1 ?side2 A6.out).mono ?_); (case side1 => exact Sqz.mvC (HR0.out)); (case side2 => exact HC0.out); rintro e w' ⟨rfl, ⟨nd, rfl⟩⟩; refine ⟨_, rfl, ?_⟩))
        go_ret
        exact ⟨Sqz.auR, Sqz.auHB⟩
    · replace c7 := Bool.eq_false_iff.mpr c7
      subst c7
      have H1 : (some 0) = some r := by rw [if_neg (show ¬ (false = true) by decide)] at H; exact H
      clear H
      have H := H1
      clear H1
      obtain rfl := Option.some.inj H
      go_enter Try.func91, Try.ntmps91
      go_wp2_with (first | ((with_reducible refine gate_callee (f := 74) rfl ?_); refine goesL_ (some 18) rfl rfl Try.func74 (by kernel_rfl) rfl #[.slice A0 l0.length c0, .int .i64 a1] rfl Sqz.auM ?_; (with_reducible refine (impl_vanishes.calls k _ _ l0 a1 false _ ?side1 ?side2 A6.out).mono ?_); (case side1 => exact Sqz.mvC (HR0.out)); (case side2 => exact HC0.out); rintro e w' ⟨rfl, ⟨nd, rfl⟩⟩; refine ⟨_, rfl, ?_⟩))
      go_ret
      exact ⟨Sqz.auR, Sqz.auHB⟩

/-! ### impl_PlanesAll: function 47 -/
def impl_PlanesAll.l0 : Nat → List Int → Int → List Int → Int → Int → Option (Int)
  | 0, _, _, _, _, _ => none
  | k + 1, x0, x3, x12, x13, x14 => if x14 < x13 then (if 0 ≤ x14 then (if x14 < (x12.length : Int) then ((impl_planes.f k x0 (rd x12 x14)).bind fun t350 => (impl_PlanesAll.l0 k x0 (mn x3 t350) x12 x13 (wrap64 (x14 + 1)))) else (none)) else (none)) else (some x3)
def impl_PlanesAll.f (k : Nat) (l0 : List Int) : Option (Int) := (impl_FormValid.f k l0).bind fun t345 => (if t345 = true then ((impl_placesOf.f k l0).bind fun t346 => (impl_PlanesAll.l0 k l0 (l0.length : Int) t346 (t346.length : Int) 0)) else (some (-1)))
set_option maxHeartbeats 8000000 in
set_option maxRecDepth 100000 in
theorem impl_PlanesAll.calls (k : Nat) (A0 : Option Addr) (c0 : Nat) (l0 : List Int) (r : Int) (w : World) (hr0 : Kd.C (Kd.int .i64) w A0 l0.length l0) (hc0 : l0.length ≤ c0) (h : impl_PlanesAll.f k l0 = some r) :
    Calls Try.prog 47 #[.slice A0 l0.length c0] w fun e w' => e = .returned (.int .i64 r) ∧ Below w.heap.size w w' := by
  have HR0 := Aside0.mk hr0
  have HC0 := Aside0.mk hc0
  clear hr0 hc0
  have HB := Aside0.mk (Below.refl w.heap.size w)
  have H : ((impl_FormValid.f k l0).bind fun t345 => (if t345 = true then ((impl_placesOf.f k l0).bind fun t346 => (impl_PlanesAll.l0 k l0 (l0.length : Int) t346 (t346.length : Int) 0)) else (some (-1)))) = some r := h
  clear h
  replace H := Option.bind_eq_some_iff.mp H
  obtain ⟨t345, A20, H⟩ := H
  replace H : (if t345 = true then ((impl_placesOf.f k l0).bind fun t346 => (impl_PlanesAll.l0 k l0 (l0.length : Int) t346 (t346.length : Int) 0)) else (some (-1))) = some r := H
  have A2 := Aside0.mk A20
  clear A20
  by_cases c3 : t345 = true
  · subst c3
    have H1 : ((impl_placesOf.f k l0).bind fun t346 => (impl_PlanesAll.l0 k l0 (l0.length : Int) t346 (t346.length : Int) 0)) = some r := by rw [if_pos rfl] at H; exact H
    clear H
    have H := H1
    clear H1
    replace H := Option.bind_eq_some_iff.mp H
    obtain ⟨t346, A40, H⟩ := H
    replace H : (impl_PlanesAll.l0 k l0 (l0.length : Int) t346 (t346.length : Int) 0) = some r := H
    have A4 := Aside0.mk A40
    clear A40
    have H' := Aside0.mk H
    clear H
    go_enter Try.func47, Try.ntmps47
    go_wp2_with (first | ((with_reducible refine gate_callee (f := 20) rfl ?_); refine goesL_ (some 7) rfl rfl Try.func20 (by kernel_rfl) rfl #[.slice A0 l0.length c0] rfl Sqz.auM ?_; (with_reducible refine (impl_FormValid.calls k _ _ l0 true _ ?side1 ?side2 A2.out).mono ?_); (case side1 => exact Sqz.mvC (HR0.out)); (case side2 => exact HC0.out); rintro e w5 ⟨rfl, hb⟩; refine ⟨_, rfl, ?_⟩; have n0_ := Aside0.mk (below_step (Sqz.auHB) hb); clear HB; have HB := n0_; clear n0_; (try clear hb); (try clear hb2); (try clear hk); (try clear hi)) | ((with_reducible refine gate_callee (f := 101) rfl ?_); refine goesL_ (some 12) rfl rfl Try.func101 (by kernel_rfl) rfl #[.slice A0 l0.length c0] rfl Sqz.auM ?_; (with_reducible refine (impl_placesOf.calls k _ _ l0 t346 _ ?side1 ?side2 A4.out).mono ?_); (case side1 => exact Sqz.mvC ((Kd.C_below HR0.out HB.out))); (case side2 => exact HC0.out); rintro e w6 ⟨v347, rfl, ho0, hb⟩; refine ⟨_, rfl, ?_⟩; have n0_ := Aside0.mk (Kd.R_lower ho0 (below_size (Sqz.auHB))); have n1_ := Aside0.mk (below_step (Sqz.auHB) hb); clear HB; have HO348 := n0_; have HB := n1_; clear n0_ n1_; (try clear hb); (try clear hb2); (try clear hk); (try clear hi); (try clear ho0); obtain ⟨Ao7, co7, eo7⟩ := Kd.R_slice HO348.out; subst eo7))
    go_loopg [3, 14] k (fun kq v3 v14 w' => ∃ (x3_1 : Int) (x14_1 : Int), v3 = .int .i64 x3_1 ∧ v14 = .int .i64 x14_1 ∧ Aside0 (impl_PlanesAll.l0 kq l0 x3_1 t346 (t346.length : Int) x14_1 = some r) ∧ Aside0 (kq ≤ k) ∧ Aside0 (Kd.R (Kd.int .i64) 3 w' w.heap.size (fun _ => True) (.slice Ao7 t346.length co7) t346) ∧ Aside0 (Below w.heap.size w w'))
    case atStart => exact ⟨((l0.length : Int)), (0), Sqz.auS, Sqz.auS, H', ⟨Nat.le_refl _⟩, ⟨(Sqz.mvR HO348.out)⟩, ⟨Sqz.auHB⟩⟩
    case round =>
      clear H'
      try clear c1
      try clear c2
      try clear p2
      try clear c3
      try clear c4
      obtain ⟨x3_1, x14_1, rfl, rfl, HA, HK1, HO_12, HB⟩ := hrel
      cases gk with
      | zero => exact absurd HA.out (by simp [impl_PlanesAll.l0])
      | succ k1 =>
        have H := HA.out
        clear HA
        simp only [impl_PlanesAll.l0] at H
        by_cases c8 : x14_1 < (t346.length : Int)
        · rw [if_pos c8] at H
          have c8b0 : decide (x14_1 < (t346.length : Int)) = true := decide_eq_true c8
          clear c8
          by_cases c9 : 0 ≤ x14_1
          · rw [if_pos c9] at H
            have c9b0 : decide (0 ≤ x14_1) = true := decide_eq_true c9
            clear c9
            by_cases c10 : x14_1 < (t346.length : Int)
            · rw [if_pos c10] at H
              have c10b0 : decide (x14_1 < (t346.length : Int)) = true := decide_eq_true c10
              clear c10
              replace H := Option.bind_eq_some_iff.mp H
              obtain ⟨t350, A110, H⟩ := H
              replace H : (impl_PlanesAll.l0 k1 l0 (mn x3_1 t350) t346 (t346.length : Int) (wrap64 (x14_1 + 1))) = some r := H
              have A11 := Aside0.mk A110
              clear A110
              obtain ⟨ji12, hji12⟩ : ∃ j_ : Int, (mn x3_1 t350) = j_ := ⟨_, rfl⟩
              replace H : (impl_PlanesAll.l0 k1 l0 ji12 t346 (t346.length : Int) (wrap64 (x14_1 + 1))) = some r := by first | (rw [hji12] at H; exact H) | (simp only [hji12] at H ⊢; exact H)
              (try rw [hji12] at A11)
              have hji12_ : (if t350 < x3_1 then t350 else x3_1) = ji12 := hji12
              have H' := Aside0.mk H
              clear H
              have p349 : 0 ≤ (x14_1 : Int) := of_decide_eq_true (by first | (with_reducible assumption) | assumption)
              have q349 : x14_1 < (t346.length : Int) := of_decide_eq_true (by first | (with_reducible assumption) | assumption)
              obtain ⟨ad349, e349, hx349_0⟩ := Kd.at_int (Kd.R_reads' HO_12.out).2.2 x14_1 p349 q349
              cases e349
              replace p349 := eq_true p349
              replace q349 := eq_true q349
              go_wp2_with (first | ((with_reducible refine gate_callee (f := 91) rfl ?_); refine goesL_ (some 21) rfl rfl Try.func91 (by kernel_rfl) rfl #[.slice A0 l0.length c0, .int .i64 (rd t346 x14_1)] rfl Sqz.auM ?_; (with_reducible refine (impl_planes.calls k1 _ _ l0 (rd t346 x14_1) t350 _ ?side1 ?side2 A11.out).mono ?_); (case side1 => exact Sqz.mvC ((Kd.C_below HR0.out HB.out))); (case side2 => exact HC0.out); rintro e w13 ⟨rfl, hb⟩; refine ⟨_, rfl, ?_⟩; have n0_ := Aside0.mk (Kd.R_below ((Sqz.mvR HO_12.out)) hb); have n1_ := Aside0.mk (below_step (Sqz.auHB) hb); clear HO_12; clear HB; have HO_12 := n0_; have HB := n1_; clear n0_ n1_; (try clear hb); (try clear hb2); (try clear hk); (try clear hi)))
              go_roundg k1
              case measure => have := HK1.out; omega
              case rel => exact ⟨(ji12), (wrap64 (x14_1 + 1)), (by first | rfl | (simp; done) | (simp only [← hji12] <;> (first | rfl | simp)) | (simp [*]; done)), Sqz.auS, H', ⟨by have := HK1.out; omega⟩, ⟨(Sqz.mvR HO_12.out)⟩, ⟨Sqz.auHB⟩⟩
            · rw [if_neg c10] at H
              exact absurd H (by simp)
          · rw [if_neg c9] at H
            exact absurd H (by simp)
        · rw [if_neg c8] at H
          have c8b0 : decide (x14_1 < (t346.length : Int)) = false := decide_eq_false c8
          clear c8
          obtain rfl := Option.some.inj H
          go_wp2
          go_ret
          exact ⟨Sqz.auR, Sqz.auHB⟩
  · replace c3 := Bool.eq_false_iff.mpr c3
    subst c3
    have H1 : (some (-1)) = some r := by rw [if_neg (show ¬ (false = true) by decide)] at H; exact H
    clear H
    have H := H1
    clear H1
    obtain rfl := Option.some.inj H
    go_enter Try.func47, Try.ntmps47
    go_wp2_with (first | ((with_reducible refine gate_callee (f := 20) rfl ?_); refine goesL_ (some 7) rfl rfl Try.func20 (by kernel_rfl) rfl #[.slice A0 l0.length c0] rfl Sqz.auM ?_; (with_reducible refine (impl_FormValid.calls k _ _ l0 false _ ?side1 ?side2 A2.out).mono ?_); (case side1 => exact Sqz.mvC (HR0.out)); (case side2 => exact HC0.out); rintro e w14 ⟨rfl, hb⟩; refine ⟨_, rfl, ?_⟩; have n0_ := Aside0.mk (below_step (Sqz.auHB) hb); clear HB; have HB := n0_; clear n0_; (try clear hb); (try clear hb2); (try clear hk); (try clear hi)))
    go_ret
    exact ⟨Sqz.auR, Sqz.auHB⟩

/-! ### laws_FnTermsValue: function 9 -/
mutual
def laws_FnTermsValue.l0 : Nat → List Int → Int → Bool → Int → Option (Bool)
  | 0, _, _, _, _ => none
  | k + 1, x3, x4, x5, x6 => if x6 < (x3.length : Int) then ((impl_FormValid.f k x3).bind fun t357 => (laws_FnTermsValue.j1 k x3 x4 x5 x6 t357)) else (laws_FnTermsValue.j1 k x3 x4 x5 x6 false)
def laws_FnTermsValue.j1 : Nat → List Int → Int → Bool → Int → Bool → Option (Bool)
  | 0, _, _, _, _, _ => none
  | k + 1, x3, x4, x5, x6, x30 => if x30 = true then (if 0 ≤ x6 then (if x6 < (x3.length : Int) then ((impl_ValueEverywhere.f k x3 (rd x3 x6)).bind fun t359 => (if t359 = true then (laws_FnTermsValue.l0 k x3 x4 x5 (wrap64 (x6 + 1))) else (some false))) else (none)) else (none)) else ((impl_PlanesAll.f k x3).bind fun t360 => (if t360 < 1 then (some true) else (if x4 = 0 then (some true) else ((laws_sizeOf.f x4).bind fun t361 => (if t361 > 30 then (some true) else (some x5))))))
end
def laws_FnTermsValue.f (k : Nat) (l0 : List Int) : Option (Bool) := if (l0.length : Int) > 1048576 then (some true) else ((spec_DrawValueEverywhere.f k l0).bind fun bt351 => ((impl_ValueEverywhere.f k bt351.1 bt351.2).bind fun t355 => ((spec_ValueEverywhere.f k bt351.1 bt351.2).bind fun t356 => (if (t355 != t356) = true then (some false) else (laws_FnTermsValue.l0 k bt351.1 bt351.2 t355 0)))))
set_option maxHeartbeats 8000000 in
set_option maxRecDepth 100000 in
theorem laws_FnTermsValue.calls (k : Nat) (A0 : Option Addr) (c0 : Nat) (l0 : List Int) (r : Bool) (w : World) (hr0 : Kd.C (Kd.int .u8) w A0 l0.length l0) (hc0 : l0.length ≤ c0) (h : laws_FnTermsValue.f k l0 = some r) :
    Calls Try.prog 9 #[.slice A0 l0.length c0] w fun e w' => e = .returned (.bool r) ∧ Below w.heap.size w w' := by
  have HR0 := Aside0.mk hr0
  have HC0 := Aside0.mk hc0
  clear hr0 hc0
  have HB := Aside0.mk (Below.refl w.heap.size w)
  have H : (if (l0.length : Int) > 1048576 then (some true) else ((spec_DrawValueEverywhere.f k l0).bind fun bt351 => ((impl_ValueEverywhere.f k bt351.1 bt351.2).bind fun t355 => ((spec_ValueEverywhere.f k bt351.1 bt351.2).bind fun t356 => (if (t355 != t356) = true then (some false) else (laws_FnTermsValue.l0 k bt351.1 bt351.2 t355 0)))))) = some r := h
  clear h
  by_cases c2 : (l0.length : Int) > 1048576
  · rw [if_pos c2] at H
    have c2b0 : decide (1048576 < (l0.length : Int)) = true := decide_eq_true c2
    have c2b1 : decide (1048576 < l0.length) = true := decide_eq_true (by omega)
    clear c2
    obtain rfl := Option.some.inj H
    go_enter Try.func9, Try.ntmps9
    go_wp2
    go_ret
    exact ⟨Sqz.auR, Sqz.auHB⟩
  · rw [if_neg c2] at H
    have c2b0 : decide (1048576 < (l0.length : Int)) = false := decide_eq_false c2
    have c2b1 : decide (1048576 < l0.length) = false := decide_eq_false (by omega)
    clear c2
    replace H := Option.bind_eq_some_iff.mp H
    obtain ⟨⟨t351, t352⟩, A30, H⟩ := H
    replace H : ((impl_ValueEverywhere.f k t351 t352).bind fun t355 => ((spec_ValueEverywhere.f k t351 t352).bind fun t356 => (if (t355 != t356) = true then (some false) else (laws_FnTermsValue.l0 k t351 t352 t355 0)))) = some r := H
    have A3 := Aside0.mk A30
    clear A30
    replace H := Option.bind_eq_some_iff.mp H
    obtain ⟨t355, A40, H⟩ := H
    replace H : ((spec_ValueEverywhere.f k t351 t352).bind fun t356 => (if (t355 != t356) = true then (some false) else (laws_FnTermsValue.l0 k t351 t352 t355 0))) = some r := H
    have A4 := Aside0.mk A40
    clear A40
    replace H := Option.bind_eq_some_iff.mp H
    obtain ⟨t356, A50, H⟩ := H
    replace H : (if (t355 != t356) = true then (some false) else (laws_FnTermsValue.l0 k t351 t352 t355 0)) = some r := H
    have A5 := Aside0.mk A50
    clear A50
    by_cases c6 : (t355 != t356) = true
    · rw [if_pos c6] at H
      have c6b0 : (t355 != t356) = true := c6
      (try (have c6b1 : decide (t355 = t356) = false := by simpa using c6))
      (try (have c6b2 : (t355 == t356) = false := by simpa using c6))
      (try (have c6b3 : ¬ (t355 = t356) := by simpa using c6))
      clear c6
      obtain rfl := Option.some.inj H
      go_enter Try.func9, Try.ntmps9
      go_wp2_with (first | ((with_reducible refine gate_callee (f := 44) rfl ?_); refine goesL_ (some 12) rfl rfl Try.func44 (by kernel_rfl) rfl #[.slice A0 l0.length c0] rfl Sqz.auM ?_; (with_reducible refine (spec_DrawValueEverywhere.calls k _ _ l0 t351 t352 _ ?side1 ?side2 A3.out).mono ?_); (case side1 => exact Sqz.mvC (HR0.out)); (case side2 => exact HC0.out); rintro e w7 ⟨v353, rfl, ho0, hb⟩; refine ⟨_, rfl, ?_⟩; have n0_ := Aside0.mk (Kd.R_lower ho0 (below_size (Sqz.auHB))); have n1_ := Aside0.mk (below_step (Sqz.auHB) hb); clear HB; have HO354 := n0_; have HB := n1_; clear n0_ n1_; (try clear hb); (try clear hb2); (try clear hk); (try clear hi); (try clear ho0); obtain ⟨Ao8, co8, eo8⟩ := Kd.R_slice HO354.out; subst eo8) | ((with_reducible refine gate_callee (f := 45) rfl ?_); refine goesL_ (some 17) rfl rfl Try.func45 (by kernel_rfl) rfl #[.slice Ao8 t351.length co8, .int .i64 t352] rfl Sqz.auM ?_; (with_reducible refine (impl_ValueEverywhere.calls k _ _ t351 t352 t355 _ ?side1 ?side2 A4.out).mono ?_); (case side1 => exact Sqz.mvC ((Kd.R_reads' HO354.out).2.2)); (case side2 => exact (Kd.R_reads' HO354.out).2.1); rintro e w9 ⟨rfl, hb⟩; refine ⟨_, rfl, ?_⟩; have n0_ := Aside0.mk (Kd.R_below ((Sqz.mvR HO354.out)) hb); have n1_ := Aside0.mk (below_step (Sqz.auHB) hb); clear HO354; clear HB; have HO354 := n0_; have HB := n1_; clear n0_ n1_; (try clear hb); (try clear hb2); (try clear hk); (try clear hi)) | ((with_reducible refine gate_callee (f := 46) rfl ?_); refine goesL_ (some 21) rfl rfl Try.func46 (by kernel_rfl) rfl #[.slice Ao8 t351.length co8, .int .i64 t352] rfl Sqz.auM ?_; (with_reducible refine (spec_ValueEverywhere.calls k _ _ t351 t352 t356 _ ?side1 ?side2 A5.out).mono ?_); (case side1 => exact Sqz.mvC ((Kd.R_reads' HO354.out).2.2)); (case side2 => exact (Kd.R_reads' HO354.out).2.1); rintro e w10 ⟨rfl, hb⟩; refine ⟨_, rfl, ?_⟩; have n0_ := Aside0.mk (Kd.R_below ((Sqz.mvR HO354.out)) hb); have n1_ := Aside0.mk (below_step (Sqz.auHB) hb); clear HO354; clear HB; have HO354 := n0_; have HB := n1_; clear n0_ n1_; (try clear hb); (try clear hb2); (try clear hk); (try clear hi)))
      go_ret
      exact ⟨Sqz.auR, Sqz.auHB⟩
    · rw [if_neg c6] at H
      have c6b0 : (t355 != t356) = false := by simpa using c6
      (try (have c6b1 : decide (t355 = t356) = true := by simpa using c6))
      (try (have c6b2 : (t355 == t356) = true := by simpa using c6))
      clear c6
      have H' := Aside0.mk H
      clear H
      go_enter Try.func9, Try.ntmps9
      go_wp2_with (first | ((with_reducible refine gate_callee (f := 44) rfl ?_); refine goesL_ (some 12) rfl rfl Try.func44 (by kernel_rfl) rfl #[.slice A0 l0.length c0] rfl Sqz.auM ?_; (with_reducible refine (spec_DrawValueEverywhere.calls k _ _ l0 t351 t352 _ ?side1 ?side2 A3.out).mono ?_); (case side1 => exact Sqz.mvC (HR0.out)); (case side2 => exact HC0.out); rintro e w11 ⟨v353, rfl, ho0, hb⟩; refine ⟨_, rfl, ?_⟩; have n0_ := Aside0.mk (Kd.R_lower ho0 (below_size (Sqz.auHB))); have n1_ := Aside0.mk (below_step (Sqz.auHB) hb); clear HB; have HO354 := n0_; have HB := n1_; clear n0_ n1_; (try clear hb); (try clear hb2); (try clear hk); (try clear hi); (try clear ho0); obtain ⟨Ao12, co12, eo12⟩ := Kd.R_slice HO354.out; subst eo12) | ((with_reducible refine gate_callee (f := 45) rfl ?_); refine goesL_ (some 17) rfl rfl Try.func45 (by kernel_rfl) rfl #[.slice Ao12 t351.length co12, .int .i64 t352] rfl Sqz.auM ?_; (with_reducible refine (impl_ValueEverywhere.calls k _ _ t351 t352 t355 _ ?side1 ?side2 A4.out).mono ?_); (case side1 => exact Sqz.mvC ((Kd.R_reads' HO354.out).2.2)); (case side2 => exact (Kd.R_reads' HO354.out).2.1); rintro e w13 ⟨rfl, hb⟩; refine ⟨_, rfl, ?_⟩; have n0_ := Aside0.mk (Kd.R_below ((Sqz.mvR HO354.out)) hb); have n1_ := Aside0.mk (below_step (Sqz.auHB) hb); clear HO354; clear HB; have HO354 := n0_; have HB := n1_; clear n0_ n1_; (try clear hb); (try clear hb2); (try clear hk); (try clear hi)) | ((with_reducible refine gate_callee (f := 46) rfl ?_); refine goesL_ (some 21) rfl rfl Try.func46 (by kernel_rfl) rfl #[.slice Ao12 t351.length co12, .int .i64 t352] rfl Sqz.auM ?_; (with_reducible refine (spec_ValueEverywhere.calls k _ _ t351 t352 t356 _ ?side1 ?side2 A5.out).mono ?_); (case side1 => exact Sqz.mvC ((Kd.R_reads' HO354.out).2.2)); (case side2 => exact (Kd.R_reads' HO354.out).2.1); rintro e w14 ⟨rfl, hb⟩; refine ⟨_, rfl, ?_⟩; have n0_ := Aside0.mk (Kd.R_below ((Sqz.mvR HO354.out)) hb); have n1_ := Aside0.mk (below_step (Sqz.auHB) hb); clear HO354; clear HB; have HO354 := n0_; have HB := n1_; clear n0_ n1_; (try clear hb); (try clear hb2); (try clear hk); (try clear hi)))
      go_loopg [6] k (fun kq v6 w' => ∃ (x6_1 : Int), v6 = .int .i64 x6_1 ∧ Aside0 (laws_FnTermsValue.l0 kq t351 t352 t355 x6_1 = some r) ∧ Aside0 (kq ≤ k) ∧ Aside0 (Kd.R (Kd.int .i64) 3 w' w.heap.size (fun _ => True) (.slice Ao12 t351.length co12) t351) ∧ Aside0 (Below w.heap.size w w'))
      case atStart => exact ⟨(0), Sqz.auS, H', ⟨Nat.le_refl _⟩, ⟨(Sqz.mvR HO354.out)⟩, ⟨Sqz.auHB⟩⟩
      case round =>
        clear H'
        try clear c2
        try clear c2b0
        try clear c2b1
        try clear p2
        try clear c4
        try clear c6
        try clear c6b0
        try clear c6b1
        try clear c6b2
        try clear c9
        obtain ⟨x6_1, rfl, HA, HK1, HO_3, HB⟩ := hrel
        cases gk with
        | zero => exact absurd HA.out (by simp [laws_FnTermsValue.l0])
        | succ k1 =>
          have H := HA.out
          clear HA
          simp only [laws_FnTermsValue.l0] at H
          have HC15 := Aside0.mk H
          clear H
          go_upto_region 8 with (fail)
          go_cut [30] (fun v30 wc => ∃ (kq : Nat) (x30_14 : Bool), v30 = .bool x30_14 ∧ Aside0 (laws_FnTermsValue.j1 kq t351 t352 t355 x6_1 x30_14 = some r) ∧ Aside0 (kq ≤ k1) ∧ Aside0 (Kd.R (Kd.int .i64) 3 wc w.heap.size (fun _ => True) (.slice Ao12 t351.length co12) t351) ∧ Aside0 (Below w.heap.size w wc))
          case first =>
            have H := HC15.out
            clear HC15
            by_cases c16 : x6_1 < (t351.length : Int)
            · rw [if_pos c16] at H
              have c16b0 : decide (x6_1 < (t351.length : Int)) = true := decide_eq_true c16
              clear c16
              (first | rw [c16b0] | (simp only [i64_w, i32_w]; rw [c16b0]) | skip)
              replace H := Option.bind_eq_some_iff.mp H
              obtain ⟨t357, A170, H⟩ := H
              replace H : (laws_FnTermsValue.j1 k1 t351 t352 t355 x6_1 t357) = some r := H
              have A17 := Aside0.mk A170
              clear A170
              have H' := Aside0.mk H
              clear H
              go_wp2_with (first | (go_at_call 20; (with_reducible refine (impl_FormValid.calls k1 _ _ t351 t357 _ ?side1 ?side2 A17.out).mono ?_); (case side1 => exact Sqz.mvC ((Kd.R_reads' HO_3.out).2.2)); (case side2 => exact (Kd.R_reads' HO_3.out).2.1); rintro e w18 ⟨rfl, hb⟩; have n0_ := Aside0.mk (Kd.R_below ((Sqz.mvR HO_3.out)) hb); have n1_ := Aside0.mk (below_step (Sqz.auHB) hb); clear HO_3; clear HB; have HO_3 := n0_; have HB := n1_; clear n0_ n1_; (try clear hb); (try clear hb2); (try clear hk); (try clear hi)))
              go_meet
              case rel => exact ⟨_, (t357), Sqz.auS, H', ⟨by have := HK1.out; first | omega | exact Nat.le_refl _⟩, ⟨(Sqz.mvR HO_3.out)⟩, ⟨Sqz.auHB⟩⟩
            · rw [if_neg c16] at H
              have c16b0 : decide (x6_1 < (t351.length : Int)) = false := decide_eq_false c16
              clear c16
              (first | rw [c16b0] | (simp only [i64_w, i32_w]; rw [c16b0]) | skip)
              have H' := Aside0.mk H
              clear H
              go_wp2
              go_meet
              case rel => exact ⟨_, (false), Sqz.auS, H', ⟨by have := HK1.out; first | omega | exact Nat.le_refl _⟩, ⟨(Sqz.mvR HO_3.out)⟩, ⟨Sqz.auHB⟩⟩
          case rest =>
            clear HC15
            try clear c1
            try clear c2
            try clear c2b0
            try clear c2b1
            try clear p2
            try clear c4
            try clear c6
            try clear c6b0
            try clear c6b1
            try clear c6b2
            try clear c9
            try clear c16
            try clear c16b0
            try clear p2
            obtain ⟨kq, x30_14, rfl, HA, HJ14, HO_3, HB⟩ := hcut
            cases kq with
            | zero => exact absurd HA.out (by simp [laws_FnTermsValue.j1])
            | succ kj14 =>
              have H := HA.out
              clear HA
              simp only [laws_FnTermsValue.j1] at H
              by_cases c19 : x30_14 = true
              · subst c19
                have H1 : (if 0 ≤ x6_1 then (if x6_1 < (t351.length : Int) then ((impl_ValueEverywhere.f kj14 t351 (rd t351 x6_1)).bind fun t359 => (if t359 = true then (laws_FnTermsValue.l0 kj14 t351 t352 t355 (wrap64 (x6_1 + 1))) else (some false))) else (none)) else (none)) = some r := by rw [if_pos rfl] at H; exact H
                clear H
                have H := H1
                clear H1
                by_cases c20 : 0 ≤ x6_1
                · rw [if_pos c20] at H
                  have c20b0 : decide (0 ≤ x6_1) = true := decide_eq_true c20
                  clear c20
                  by_cases c21 : x6_1 < (t351.length : Int)
                  · rw [if_pos c21] at H
                    have c21b0 : decide (x6_1 < (t351.length : Int)) = true := decide_eq_true c21
                    clear c21
                    replace H := Option.bind_eq_some_iff.mp H
                    obtain ⟨t359, A220, H⟩ := H
                    replace H : (if t359 = true then (laws_FnTermsValue.l0 kj14 t351 t352 t355 (wrap64 (x6_1 + 1))) else (some false)) = some r := H
                    have A22 := Aside0.mk A220
                    clear A220
                    by_cases c23 : t359 = true
                    · subst c23
                      have H1 : (laws_FnTermsValue.l0 kj14 t351 t352 t355 (wrap64 (x6_1 + 1))) = some r := by rw [if_pos rfl] at H; exact H
                      clear H
                      have H := H1
                      clear H1
                      have H' := Aside0.mk H
                      clear H
                      have p358 : 0 ≤ (x6_1 : Int) := of_decide_eq_true (by first | (with_reducible assumption) | assumption)
                      have q358 : x6_1 < (t351.length : Int) := of_decide_eq_true (by first | (with_reducible assumption) | assumption)
                      obtain ⟨ad358, e358, hx358_0⟩ := Kd.at_int (Kd.R_reads' HO_3.out).2.2 x6_1 p358 q358
                      cases e358
                      replace p358 := eq_true p358
                      replace q358 := eq_true q358
                      go_wp2_with (first | ((with_reducible refine gate_callee (f := 45) rfl ?_); refine goesL_ (some 38) rfl rfl Try.func45 (by kernel_rfl) rfl #[.slice (some ad358) t351.length co12, .int .i64 (rd t351 x6_1)] rfl Sqz.auM ?_; (with_reducible refine (impl_ValueEverywhere.calls kj14 _ _ t351 (rd t351 x6_1) true _ ?side1 ?side2 A22.out).mono ?_); (case side1 => exact Sqz.mvC ((Kd.R_reads' HO_3.out).2.2)); (case side2 => exact (Kd.R_reads' HO_3.out).2.1); rintro e w24 ⟨rfl, hb⟩; refine ⟨_, rfl, ?_⟩; have n0_ := Aside0.mk (Kd.R_below ((Sqz.mvR HO_3.out)) hb); have n1_ := Aside0.mk (below_step (Sqz.auHB) hb); clear HO_3; clear HB; have HO_3 := n0_; have HB := n1_; clear n0_ n1_; (try clear hb); (try clear hb2); (try clear hk); (try clear hi)))
                      go_roundg kj14
                      case measure => have := HK1.out; have := HJ14.out; omega
                      case rel => exact ⟨(wrap64 (x6_1 + 1)), Sqz.auS, H', ⟨by have := HK1.out; have := HJ14.out; omega⟩, ⟨(Sqz.mvR HO_3.out)⟩, ⟨Sqz.auHB⟩⟩
                    · replace c23 := Bool.eq_false_iff.mpr c23
                      subst c23
                      have H1 : (some false) = some r := by rw [if_neg (show ¬ (false = true) by decide)] at H; exact H
                      clear H
                      have H := H1
                      clear H1
                      obtain rfl := Option.some.inj H
                      have p358 : 0 ≤ (x6_1 : Int) := of_decide_eq_true (by first | (with_reducible assumption) | assumption)
                      have q358 : x6_1 < (t351.length : Int) := of_decide_eq_true (by first | (with_reducible assumption) | assumption)
                      obtain ⟨ad358, e358, hx358_0⟩ := Kd.at_int (Kd.R_reads' HO_3.out).2.2 x6_1 p358 q358
                      cases e358
                      replace p358 := eq_true p358
                      replace q358 := eq_true q358
                      go_wp2_with (first | ((with_reducible refine gate_callee (f := 45) rfl ?_); refine goesL_ (some 38) rfl rfl Try.func45 (by kernel_rfl) rfl #[.slice (some ad358) t351.length co12, .int .i64 (rd t351 x6_1)] rfl Sqz.auM ?_; (with_reducible refine (impl_ValueEverywhere.calls kj14 _ _ t351 (rd t351 x6_1) false _ ?side1 ?side2 A22.out).mono ?_); (case side1 => exact Sqz.mvC ((Kd.R_reads' HO_3.out).2.2)); (case side2 => exact (Kd.R_reads' HO_3.out).2.1); rintro e w25 ⟨rfl, hb⟩; refine ⟨_, rfl, ?_⟩; have n0_ := Aside0.mk (Kd.R_below ((Sqz.mvR HO_3.out)) hb); have n1_ := Aside0.mk (below_step (Sqz.auHB) hb); clear HO_3; clear HB; have HO_3 := n0_; have HB := n1_; clear n0_ n1_; (try clear hb); (try clear hb2); (try clear hk); (try clear hi)))
                      go_ret
                      exact ⟨Sqz.auR, Sqz.auHB⟩
                  · rw [if_neg c21] at H
                    exact absurd H (by simp)
                · rw [if_neg c20] at H
                  exact absurd H (by simp)
              · replace c19 := Bool.eq_false_iff.mpr c19
                subst c19
                have H1 : ((impl_PlanesAll.f kj14 t351).bind fun t360 => (if t360 < 1 then (some true) else (if t352 = 0 then (some true) else ((laws_sizeOf.f t352).bind fun t361 => (if t361 > 30 then (some true) else (some t355)))))) = some r := by rw [if_neg (show ¬ (false = true) by decide)] at H; exact H
                clear H
                have H := H1
                clear H1
                replace H := Option.bind_eq_some_iff.mp H
                obtain ⟨t360, A260, H⟩ := H
                replace H : (if t360 < 1 then (some true) else (if t352 = 0 then (some true) else ((laws_sizeOf.f t352).bind fun t361 => (if t361 > 30 then (some true) else (some t355))))) = some r := H
                have A26 := Aside0.mk A260
                clear A260
                by_cases c27 : t360 < 1
                · rw [if_pos c27] at H
                  have c27b0 : decide (t360 < 1) = true := decide_eq_true c27
                  clear c27
                  obtain rfl := Option.some.inj H
                  go_wp2_with (first | ((with_reducible refine gate_callee (f := 47) rfl ?_); refine goesL_ (some 41) rfl rfl Try.func47 (by kernel_rfl) rfl #[.slice Ao12 t351.length co12] rfl Sqz.auM ?_; (with_reducible refine (impl_PlanesAll.calls kj14 _ _ t351 t360 _ ?side1 ?side2 A26.out).mono ?_); (case side1 => exact Sqz.mvC ((Kd.R_reads' HO_3.out).2.2)); (case side2 => exact (Kd.R_reads' HO_3.out).2.1); rintro e w28 ⟨rfl, hb⟩; refine ⟨_, rfl, ?_⟩; have n0_ := Aside0.mk (Kd.R_below ((Sqz.mvR HO_3.out)) hb); have n1_ := Aside0.mk (below_step (Sqz.auHB) hb); clear HO_3; clear HB; have HO_3 := n0_; have HB := n1_; clear n0_ n1_; (try clear hb); (try clear hb2); (try clear hk); (try clear hi)))
                  go_ret
                  exact ⟨Sqz.auR, Sqz.auHB⟩
                · rw [if_neg c27] at H
                  have c27b0 : decide (t360 < 1) = false := decide_eq_false c27
                  clear c27
                  by_cases c29 : t352 = 0
                  · rw [if_pos c29] at H
                    have c29b0 : (t352 == 0) = true := beq_iff_eq.mpr c29
                    have c29b1 : (t352 != 0) = false := bne_eq_false_iff_eq.mpr c29
                    clear c29
                    obtain rfl := Option.some.inj H
                    go_wp2_with (first | ((with_reducible refine gate_callee (f := 47) rfl ?_); refine goesL_ (some 41) rfl rfl Try.func47 (by kernel_rfl) rfl #[.slice Ao12 t351.length co12] rfl Sqz.auM ?_; (with_reducible refine (impl_PlanesAll.calls kj14 _ _ t351 t360 _ ?side1 ?side2 A26.out).mono ?_); (case side1 => exact Sqz.mvC ((Kd.R_reads' HO_3.out).2.2)); (case side2 => exact (Kd.R_reads' HO_3.out).2.1); rintro e w30 ⟨rfl, hb⟩; refine ⟨_, rfl, ?_⟩; have n0_ := Aside0.mk (Kd.R_below ((Sqz.mvR HO_3.out)) hb); have n1_ := Aside0.mk (below_step (Sqz.auHB) hb); clear HO_3; clear HB; have HO_3 := n0_; have HB := n1_; clear n0_ n1_; (try clear hb); (try clear hb2); (try clear hk); (try clear hi)))
                    go_ret
                    exact ⟨Sqz.auR, Sqz.auHB⟩
                  · rw [if_neg c29] at H
                    have c29b0 : (t352 == 0) = false := beq_eq_false_iff_ne.mpr c29
                    have c29b1 : (t352 != 0) = true := bne_iff_ne.mpr c29
                    replace H := Option.bind_eq_some_iff.mp H
                    obtain ⟨t361, A310, H⟩ := H
                    replace H : (if t361 > 30 then (some true) else (some t355)) = some r := H
                    have A31 := Aside0.mk A310
                    clear A310
                    by_cases c32 : t361 > 30
                    · rw [if_pos c32] at H
                      have c32b0 : decide (30 < t361) = true := decide_eq_true c32
                      clear c32
                      obtain rfl := Option.some.inj H
                      go_wp2_with (first | ((with_reducible refine gate_callee (f := 47) rfl ?_); refine goesL_ (some 41) rfl rfl Try.func47 (by kernel_rfl) rfl #[.slice Ao12 t351.length co12] rfl Sqz.auM ?_; (with_reducible refine (impl_PlanesAll.calls kj14 _ _ t351 t360 _ ?side1 ?side2 A26.out).mono ?_); (case side1 => exact Sqz.mvC ((Kd.R_reads' HO_3.out).2.2)); (case side2 => exact (Kd.R_reads' HO_3.out).2.1); rintro e w33 ⟨rfl, hb⟩; refine ⟨_, rfl, ?_⟩; have n0_ := Aside0.mk (Kd.R_below ((Sqz.mvR HO_3.out)) hb); have n1_ := Aside0.mk (below_step (Sqz.auHB) hb); clear HO_3; clear HB; have HO_3 := n0_; have HB := n1_; clear n0_ n1_; (try clear hb); (try clear hb2); (try clear hk); (try clear hi)) | (go_at_call 29; (with_reducible refine (laws_sizeOf.calls t352 t361 _ A31.out).mono ?_); rintro e w34 ⟨rfl, hb⟩; have n0_ := Aside0.mk (Kd.R_below ((Sqz.mvR HO_3.out)) hb); have n1_ := Aside0.mk (below_step (Sqz.auHB) hb); clear HO_3; clear HB; have HO_3 := n0_; have HB := n1_; clear n0_ n1_; (try clear hb); (try clear hb2); (try clear hk); (try clear hi)))
                      go_ret
                      exact ⟨Sqz.auR, Sqz.auHB⟩
                    · rw [if_neg c32] at H
                      have c32b0 : decide (30 < t361) = false := decide_eq_false c32
                      clear c32
                      obtain rfl := Option.some.inj H
                      go_wp2_with (first | ((with_reducible refine gate_callee (f := 47) rfl ?_); refine goesL_ (some 41) rfl rfl Try.func47 (by kernel_rfl) rfl #[.slice Ao12 t351.length co12] rfl Sqz.auM ?_; (with_reducible refine (impl_PlanesAll.calls kj14 _ _ t351 t360 _ ?side1 ?side2 A26.out).mono ?_); (case side1 => exact Sqz.mvC ((Kd.R_reads' HO_3.out).2.2)); (case side2 => exact (Kd.R_reads' HO_3.out).2.1); rintro e w35 ⟨rfl, hb⟩; refine ⟨_, rfl, ?_⟩; have n0_ := Aside0.mk (Kd.R_below ((Sqz.mvR HO_3.out)) hb); have n1_ := Aside0.mk (below_step (Sqz.auHB) hb); clear HO_3; clear HB; have HO_3 := n0_; have HB := n1_; clear n0_ n1_; (try clear hb); (try clear hb2); (try clear hk); (try clear hi)) | (go_at_call 29; (with_reducible refine (laws_sizeOf.calls t352 t361 _ A31.out).mono ?_); rintro e w36 ⟨rfl, hb⟩; have n0_ := Aside0.mk (Kd.R_below ((Sqz.mvR HO_3.out)) hb); have n1_ := Aside0.mk (below_step (Sqz.auHB) hb); clear HO_3; clear HB; have HO_3 := n0_; have HB := n1_; clear n0_ n1_; (try clear hb); (try clear hb2); (try clear hk); (try clear hi)))
                      go_ret
                      exact ⟨Sqz.auR, Sqz.auHB⟩

/-- THE ONE PURE STATEMENT of laws_FnTermsValue: yours. -/
def laws_FnTermsValue.Pure : Prop := ∀ (l0 : List Int), l0.length ≤ maxLen → l0.length * 1 ≤ 140737488351232 → (∀ x ∈ l0, (Lit.int .u8 x).wf = true) → ∃ k, laws_FnTermsValue.f k l0 = some true
theorem laws_FnTermsValue.walk (P : laws_FnTermsValue.Pure) (a0 : Option Addr) (len0 cap0 : Nat) (z0 : List Int) (w : World) (w0 : (a0 = none ∧ len0 = 0 ∧ cap0 = 0 ∧ z0 = []) ∨ ∃ x, a0 = some x ∧ len0 ≤ cap0 ∧ cap0 ≤ maxLen ∧ z0.length = cap0 ∧ (∀ i, i < z0.length → w.cell? (x.add i) = some (.int .u8 (z0.getD i 0))) ∧ ∀ n ∈ z0, (Lit.int .u8 n).wf = true) (y0 : len0 * 1 ≤ 140737488351232) :
    Calls Try.prog 9 #[.slice a0 len0 cap0] w fun e w' => e = .returned (.bool true) ∧ Below w.heap.size w w' := by
  obtain ⟨l0, rfl, hr0, hm0, hw0, hc0⟩ := ReadsInt.ofRowC w0
  obtain ⟨k, h⟩ := P l0 hm0 y0 hw0
  refine (laws_FnTermsValue.calls k _ _ l0 true w (Kd.C_of_reads (d := (0 : Int)) (h1 := fun _ => rfl) hr0) hc0 h).mono ?_
  rintro e w' ⟨rfl, hd⟩
  exact ⟨rfl, hd⟩

end Go.Proofs.Ytihadpckmcebgaa.PFnTermsValue
