/- A function's Lean twin and its walk, written by a program of this session. -/
import Derived.Test.YtihadpckmcebgaaTPFnTwoIsx0
import Derived.Test.YtihadpckmcebgaaTPFnTwoIsx1
import Derived.Test.YtihadpckmcebgaaTPFnTwoIsx2
import Derived.Test.YtihadpckmcebgaaTPFnTwoIsx3
import Derived.Test.YtihadpckmcebgaaTPFnTwoIsx4
namespace Go.Proofs.Ytihadpckmcebgaa.PFnTwoIs
open Go.RowKit Go.Proofs.YtihadpckmcebgaaW.PrintWords Go.Proofs.YtihadpckmcebgaaW.PrintLast Go.Proofs.YtihadpckmcebgaaW.PrintMore
attribute [local go_sem] max2_int min2_int max_two min_two max_three min_three max_four min_four   -- for this text's walks alone
set_option linter.unusedVariables false
set_option linter.unusedSimpArgs false

/-! ### laws_FnTwoIs: function 13 -/
def laws_FnTwoIs.j0 : Nat → Int → Bool → Bool → Bool → Option (Bool)
  | 0, _, _, _, _ => none
  | k + 1, x3, x4, x5, x28 => if x28 = true then (some (x4 == x5)) else ((impl_TwoFind.f x3).bind fun bt248 => ((impl_CoreOf.f k x3).bind fun bt251 => ((some (([1, 1, wrap64 (-bt251.1)] : List Int) : List Int)).bind fun y254 => (if bt248.2.2 = true then (if x3 = 0 then (if (wrap64 (2 * x3)) > 2000 then (some true) else ((impl_TwoIs.f k (wrap64 (2 * x3))).bind fun t257 => (if t257 = true then (some true) else (some false)))) else (if bt251.2.2 = true then ((impl_TwoMany.f k x3).bind fun t258 => (if t258 > 0 then (if (wrap64 (2 * x3)) > 2000 then ((impl_FormValid.f k y254).bind fun t259 => (if t259 = true then ((impl_FormBad.f k y254).bind fun t260 => (some ((t260.length : Int) == 0))) else (some true))) else ((impl_TwoIs.f k (wrap64 (2 * x3))).bind fun t263 => (if t263 = true then ((impl_FormValid.f k y254).bind fun t264 => (if t264 = true then ((impl_FormBad.f k y254).bind fun t265 => (some ((t265.length : Int) == 0))) else (some true))) else (some false)))) else (some false))) else (some false))) else (some false)))))
def laws_FnTwoIs.f (k : Nat) (l0 : List Int) : Option (Bool) := if (l0.length : Int) > 1048576 then (some true) else ((spec_DrawTwoIs.f k l0).bind fun t245 => ((impl_TwoIs.f k t245).bind fun t246 => ((spec_TwoIs.f k t245).bind fun t247 => (if (t246 != t247) = true then (laws_FnTwoIs.j0 k t245 t246 t247 true) else (laws_FnTwoIs.j0 k t245 t246 t247 (!t246))))))
set_option maxHeartbeats 8000000 in
set_option maxRecDepth 100000 in
theorem laws_FnTwoIs.calls (k : Nat) (A0 : Option Addr) (c0 : Nat) (l0 : List Int) (r : Bool) (w : World) (hr0 : Kd.C (Kd.int .u8) w A0 l0.length l0) (hc0 : l0.length ≤ c0) (h : laws_FnTwoIs.f k l0 = some r) :
    Calls Try.prog 13 #[.slice A0 l0.length c0] w fun e w' => e = .returned (.bool r) ∧ Below w.heap.size w w' := by
  have HR0 := Aside0.mk hr0
  have HC0 := Aside0.mk hc0
  clear hr0 hc0
  have HB := Aside0.mk (Below.refl w.heap.size w)
  have H : (if (l0.length : Int) > 1048576 then (some true) else ((spec_DrawTwoIs.f k l0).bind fun t245 => ((impl_TwoIs.f k t245).bind fun t246 => ((spec_TwoIs.f k t245).bind fun t247 => (if (t246 != t247) = true then (laws_FnTwoIs.j0 k t245 t246 t247 true) else (laws_FnTwoIs.j0 k t245 t246 t247 (!t246))))))) = some r := h
  clear h
  by_cases c2 : (l0.length : Int) > 1048576
  · rw [if_pos c2] at H
    have c2b0 : decide (1048576 < (l0.length : Int)) = true := decide_eq_true c2
    have c2b1 : decide (1048576 < l0.length) = true := decide_eq_true (by omega)
    clear c2
    obtain rfl := Option.some.inj H
    go_enter Try.func13, Try.ntmps13
    go_wp2
    go_ret
    exact ⟨Sqz.auR, Sqz.auHB⟩
  · rw [if_neg c2] at H
    have c2b0 : decide (1048576 < (l0.length : Int)) = false := decide_eq_false c2
    have c2b1 : decide (1048576 < l0.length) = false := decide_eq_false (by omega)
    clear c2
    replace H := Option.bind_eq_some_iff.mp H
    obtain ⟨t245, A30, H⟩ := H
    replace H : ((impl_TwoIs.f k t245).bind fun t246 => ((spec_TwoIs.f k t245).bind fun t247 => (if (t246 != t247) = true then (laws_FnTwoIs.j0 k t245 t246 t247 true) else (laws_FnTwoIs.j0 k t245 t246 t247 (!t246))))) = some r := H
    have A3 := Aside0.mk A30
    clear A30
    replace H := Option.bind_eq_some_iff.mp H
    obtain ⟨t246, A40, H⟩ := H
    replace H : ((spec_TwoIs.f k t245).bind fun t247 => (if (t246 != t247) = true then (laws_FnTwoIs.j0 k t245 t246 t247 true) else (laws_FnTwoIs.j0 k t245 t246 t247 (!t246)))) = some r := H
    have A4 := Aside0.mk A40
    clear A40
    replace H := Option.bind_eq_some_iff.mp H
    obtain ⟨t247, A50, H⟩ := H
    replace H : (if (t246 != t247) = true then (laws_FnTwoIs.j0 k t245 t246 t247 true) else (laws_FnTwoIs.j0 k t245 t246 t247 (!t246))) = some r := H
    have A5 := Aside0.mk A50
    clear A50
    have HC6 := Aside0.mk H
    clear H
    go_enter Try.func13, Try.ntmps13
    go_upto_region 6 with (first | ((with_reducible refine gate_callee (f := 58) rfl ?_); refine goesL_ (some 17) rfl rfl Try.func58 (by kernel_rfl) rfl #[.slice A0 l0.length c0] rfl Sqz.auM ?_; (with_reducible refine (spec_DrawTwoIs.calls k _ _ l0 t245 _ ?side1 ?side2 A3.out).mono ?_); (case side1 => exact Sqz.mvC (HR0.out)); (case side2 => exact HC0.out); rintro e w7 ⟨rfl, hb⟩; refine ⟨_, rfl, ?_⟩; have n0_ := Aside0.mk (below_step (Sqz.auHB) hb); clear HB; have HB := n0_; clear n0_; (try clear hb); (try clear hb2); (try clear hk); (try clear hi)) | ((with_reducible refine gate_callee (f := 59) rfl ?_); refine goesL_ (some 19) rfl rfl Try.func59 (by kernel_rfl) rfl #[.int .i64 t245] rfl Sqz.auM ?_; (with_reducible refine (impl_TwoIs.calls k t245 t246 _ A4.out).mono ?_); rintro e w8 ⟨rfl, hb⟩; refine ⟨_, rfl, ?_⟩; have n0_ := Aside0.mk (below_step (Sqz.auHB) hb); clear HB; have HB := n0_; clear n0_; (try clear hb); (try clear hb2); (try clear hk); (try clear hi)) | ((with_reducible refine gate_callee (f := 60) rfl ?_); refine goesL_ (some 21) rfl rfl Try.func60 (by kernel_rfl) rfl #[.int .i64 t245] rfl Sqz.auM ?_; (with_reducible refine (spec_TwoIs.calls k t245 t247 _ A5.out).mono ?_); rintro e w9 ⟨rfl, hb⟩; refine ⟨_, rfl, ?_⟩; have n0_ := Aside0.mk (below_step (Sqz.auHB) hb); clear HB; have HB := n0_; clear n0_; (try clear hb); (try clear hb2); (try clear hk); (try clear hi)))
    (try simp only [Act.put, List.setIfInBounds_toArray, List.set_cons_zero, List.set_cons_succ])
    go_cut [28] (fun v28 wc => ∃ (kq : Nat) (x28_5 : Bool), v28 = .bool x28_5 ∧ Aside0 (laws_FnTwoIs.j0 kq t245 t246 t247 x28_5 = some r) ∧ Aside0 (kq ≤ k) ∧ Aside0 (Below w.heap.size w wc))
    case first =>
      have H := HC6.out
      clear HC6
      by_cases c10 : (t246 != t247) = true
      · rw [if_pos c10] at H
        have c10b0 : (t246 != t247) = true := c10
        (try (have c10b1 : decide (t246 = t247) = false := by simpa using c10))
        (try (have c10b2 : (t246 == t247) = false := by simpa using c10))
        (try (have c10b3 : ¬ (t246 = t247) := by simpa using c10))
        clear c10
        (first | rw [c10b0] | (simp only [i64_w, i32_w]; rw [c10b0]) | skip)
        have H' := Aside0.mk H
        clear H
        go_wp2
        go_meet
        case rel => exact ⟨_, (true), Sqz.auS, H', ⟨Sqz.auN⟩, ⟨Sqz.auHB⟩⟩
      · rw [if_neg c10] at H
        have c10b0 : (t246 != t247) = false := by simpa using c10
        (try (have c10b1 : decide (t246 = t247) = true := by simpa using c10))
        (try (have c10b2 : (t246 == t247) = true := by simpa using c10))
        clear c10
        (first | rw [c10b0] | (simp only [i64_w, i32_w]; rw [c10b0]) | skip)
        have H' := Aside0.mk H
        clear H
        go_wp2
        go_meet
        case rel => exact ⟨_, (!t246), Sqz.auS, H', ⟨Sqz.auN⟩, ⟨Sqz.auHB⟩⟩
    case rest =>
      clear HC6
      try clear c1
      try clear c2
      try clear c2b0
      try clear c2b1
      try clear p2
      try clear c5
      try clear c6
      try clear c10
      try clear c10b0
      try clear c10b1
      try clear c10b2
      obtain ⟨kq, x28_5, rfl, HA, HJ5, HB⟩ := hcut
      cases kq with
      | zero => exact absurd HA.out (by simp [laws_FnTwoIs.j0])
      | succ kj5 =>
        have H := HA.out
        clear HA
        simp only [laws_FnTwoIs.j0] at H
        by_cases c11 : x28_5 = true
        · subst c11
          have H1 : (some (t246 == t247)) = some r := by rw [if_pos rfl] at H; exact H
          clear H
          have H := H1
          clear H1
          obtain rfl := Option.some.inj H
          go_wp2
          go_ret
          exact ⟨Sqz.auR, Sqz.auHB⟩
        · replace c11 := Bool.eq_false_iff.mpr c11
          subst c11
          have H1 : ((impl_TwoFind.f t245).bind fun bt248 => ((impl_CoreOf.f kj5 t245).bind fun bt251 => ((some (([1, 1, wrap64 (-bt251.1)] : List Int) : List Int)).bind fun y254 => (if bt248.2.2 = true then (if t245 = 0 then (if (wrap64 (2 * t245)) > 2000 then (some true) else ((impl_TwoIs.f kj5 (wrap64 (2 * t245))).bind fun t257 => (if t257 = true then (some true) else (some false)))) else (if bt251.2.2 = true then ((impl_TwoMany.f kj5 t245).bind fun t258 => (if t258 > 0 then (if (wrap64 (2 * t245)) > 2000 then ((impl_FormValid.f kj5 y254).bind fun t259 => (if t259 = true then ((impl_FormBad.f kj5 y254).bind fun t260 => (some ((t260.length : Int) == 0))) else (some true))) else ((impl_TwoIs.f kj5 (wrap64 (2 * t245))).bind fun t263 => (if t263 = true then ((impl_FormValid.f kj5 y254).bind fun t264 => (if t264 = true then ((impl_FormBad.f kj5 y254).bind fun t265 => (some ((t265.length : Int) == 0))) else (some true))) else (some false)))) else (some false))) else (some false))) else (some false))))) = some r := by rw [if_neg (show ¬ (false = true) by decide)] at H; exact H
          clear H
          have H := H1
          clear H1
          replace H := Option.bind_eq_some_iff.mp H
          obtain ⟨⟨t248, t249, t250⟩, A120, H⟩ := H
          replace H : ((impl_CoreOf.f kj5 t245).bind fun bt251 => ((some (([1, 1, wrap64 (-bt251.1)] : List Int) : List Int)).bind fun y254 => (if t250 = true then (if t245 = 0 then (if (wrap64 (2 * t245)) > 2000 then (some true) else ((impl_TwoIs.f kj5 (wrap64 (2 * t245))).bind fun t257 => (if t257 = true then (some true) else (some false)))) else (if bt251.2.2 = true then ((impl_TwoMany.f kj5 t245).bind fun t258 => (if t258 > 0 then (if (wrap64 (2 * t245)) > 2000 then ((impl_FormValid.f kj5 y254).bind fun t259 => (if t259 = true then ((impl_FormBad.f kj5 y254).bind fun t260 => (some ((t260.length : Int) == 0))) else (some true))) else ((impl_TwoIs.f kj5 (wrap64 (2 * t245))).bind fun t263 => (if t263 = true then ((impl_FormValid.f kj5 y254).bind fun t264 => (if t264 = true then ((impl_FormBad.f kj5 y254).bind fun t265 => (some ((t265.length : Int) == 0))) else (some true))) else (some false)))) else (some false))) else (some false))) else (some false)))) = some r := H
          have A12 := Aside0.mk A120
          clear A120
          replace H := Option.bind_eq_some_iff.mp H
          obtain ⟨⟨t251, t252, t253⟩, A130, H⟩ := H
          replace H : ((some (([1, 1, wrap64 (-t251)] : List Int) : List Int)).bind fun y254 => (if t250 = true then (if t245 = 0 then (if (wrap64 (2 * t245)) > 2000 then (some true) else ((impl_TwoIs.f kj5 (wrap64 (2 * t245))).bind fun t257 => (if t257 = true then (some true) else (some false)))) else (if t253 = true then ((impl_TwoMany.f kj5 t245).bind fun t258 => (if t258 > 0 then (if (wrap64 (2 * t245)) > 2000 then ((impl_FormValid.f kj5 y254).bind fun t259 => (if t259 = true then ((impl_FormBad.f kj5 y254).bind fun t260 => (some ((t260.length : Int) == 0))) else (some true))) else ((impl_TwoIs.f kj5 (wrap64 (2 * t245))).bind fun t263 => (if t263 = true then ((impl_FormValid.f kj5 y254).bind fun t264 => (if t264 = true then ((impl_FormBad.f kj5 y254).bind fun t265 => (some ((t265.length : Int) == 0))) else (some true))) else (some false)))) else (some false))) else (some false))) else (some false))) = some r := H
          have A13 := Aside0.mk A130
          clear A130
          obtain ⟨y254, hy254⟩ : ∃ y_ : List Int, y_ = (([1, 1, wrap64 (-t251)] : List Int)) := ⟨_, rfl⟩
          replace H : (if t250 = true then (if t245 = 0 then (if (wrap64 (2 * t245)) > 2000 then (some true) else ((impl_TwoIs.f kj5 (wrap64 (2 * t245))).bind fun t257 => (if t257 = true then (some true) else (some false)))) else (if t253 = true then ((impl_TwoMany.f kj5 t245).bind fun t258 => (if t258 > 0 then (if (wrap64 (2 * t245)) > 2000 then ((impl_FormValid.f kj5 y254).bind fun t259 => (if t259 = true then ((impl_FormBad.f kj5 y254).bind fun t260 => (some ((t260.length : Int) == 0))) else (some true))) else ((impl_TwoIs.f kj5 (wrap64 (2 * t245))).bind fun t263 => (if t263 = true then ((impl_FormValid.f kj5 y254).bind fun t264 => (if t264 = true then ((impl_FormBad.f kj5 y254).bind fun t265 => (some ((t265.length : Int) == 0))) else (some true))) else (some false)))) else (some false))) else (some false))) else (some false)) = some r := by first | (rw [hy254]; with_reducible exact H) | (have H2_ := (Option.bind_some _ _).symm.trans H; rw [hy254]; with_reducible exact H2_) | (have H2_ := (Option.bind_some _ _).symm.trans H; with_reducible exact H2_) | with_reducible exact H | (rw [hy254]; exact H) | exact H
          have Ny254 := Aside0.mk hy254
          clear hy254
          by_cases c14 : t250 = true
          · subst c14
            have H1 : (if t245 = 0 then (if (wrap64 (2 * t245)) > 2000 then (some true) else ((impl_TwoIs.f kj5 (wrap64 (2 * t245))).bind fun t257 => (if t257 = true then (some true) else (some false)))) else (if t253 = true then ((impl_TwoMany.f kj5 t245).bind fun t258 => (if t258 > 0 then (if (wrap64 (2 * t245)) > 2000 then ((impl_FormValid.f kj5 y254).bind fun t259 => (if t259 = true then ((impl_FormBad.f kj5 y254).bind fun t260 => (some ((t260.length : Int) == 0))) else (some true))) else ((impl_TwoIs.f kj5 (wrap64 (2 * t245))).bind fun t263 => (if t263 = true then ((impl_FormValid.f kj5 y254).bind fun t264 => (if t264 = true then ((impl_FormBad.f kj5 y254).bind fun t265 => (some ((t265.length : Int) == 0))) else (some true))) else (some false)))) else (some false))) else (some false))) = some r := by rw [if_pos rfl] at H; exact H
            clear H
            have H := H1
            clear H1
            by_cases c15 : t245 = 0
            · rw [if_pos c15] at H
              have c15b0 : (t245 == 0) = true := beq_iff_eq.mpr c15
              have c15b1 : (t245 != 0) = false := bne_eq_false_iff_eq.mpr c15
              clear c15
              by_cases c16 : (wrap64 (2 * t245)) > 2000
              · rw [if_pos c16] at H
                have c16b0 : decide (2000 < (wrap64 (2 * t245))) = true := decide_eq_true c16
                clear c16
                obtain rfl := Option.some.inj H
                go_wp2_with (first | ((with_reducible refine gate_callee (f := 61) rfl ?_); refine goesL_ (some 34) rfl rfl Try.func61 (by kernel_rfl) rfl #[.int .i64 t245] rfl Sqz.auM ?_; (with_reducible refine (impl_TwoFind.calls t245 t248 t249 true _ A12.out).mono ?_); rintro e w17 ⟨rfl, hb⟩; refine ⟨_, rfl, ?_⟩; have n0_ := Aside0.mk (below_step (Sqz.auHB) hb); clear HB; have HB := n0_; clear n0_; (try clear hb); (try clear hb2); (try clear hk); (try clear hi)) | ((with_reducible refine gate_callee (f := 19) rfl ?_); refine goesL_ (some 40) rfl rfl Try.func19 (by kernel_rfl) rfl #[.int .i64 t245] rfl Sqz.auM ?_; (with_reducible refine (impl_CoreOf.calls kj5 t245 t251 t252 t253 _ A13.out).mono ?_); rintro e w18 ⟨rfl, hb⟩; refine ⟨_, rfl, ?_⟩; have n0_ := Aside0.mk (below_step (Sqz.auHB) hb); clear HB; have HB := n0_; clear n0_; (try clear hb); (try clear hb2); (try clear hk); (try clear hi)) | ((with_reducible refine gate_dst (N := 46) rfl ?_); (try (refine gate_guard (by rfl) ?_; dsimp only)); refine Kd.R_lit (Kd.int .i64) _ 3 ?hg (N := 46) ?hd (xs := ([1, 1, wrap64 (-t251)] : List Int)) (inner := [.int .i64 1, .int .i64 1, .int .i64 (wrap64 (-t251))]) (ok := fun _ => True) (okp := fun _ => True) ?hr ?hp (fun _ hk => hk) trivial (Below.refl _ _) (Nat.le_refl _) (by simp) ?_; (case hd => rfl); (case hg => rfl); (case hr => first | (go_simp; done) | (go_simp; rfl)); (case hp => exact (Reps.one (show Kd.M (Kd.int .i64) _ _ _ 1 [.int .i64 1] from rfl) (Reps.one (show Kd.M (Kd.int .i64) _ _ _ 1 [.int .i64 1] from rfl) (Reps.one (show Kd.M (Kd.int .i64) _ _ _ (wrap64 (-t251)) [.int .i64 (wrap64 (-t251))] from rfl) (Reps.none _ _))))); intro v255 w19 ho20 hb hg_ hnew_; clear hg_ hnew_; (first | rw [← Ny254.out] at ho20 | (simp only [Int.reduceToNat] at ho20; rw [← Ny254.out] at ho20)); have n0_ := Aside0.mk (Kd.R_lower ho20 (below_size (Sqz.auHB))); have n1_ := Aside0.mk (below_step (Sqz.auHB) hb); clear HB; have HO256 := n0_; have HB := n1_; clear n0_ n1_; clear hb ho20))
                go_ret
                exact ⟨Sqz.auR, Sqz.auHB⟩
              · rw [if_neg c16] at H
                have c16b0 : decide (2000 < (wrap64 (2 * t245))) = false := decide_eq_false c16
                clear c16
                replace H := Option.bind_eq_some_iff.mp H
                obtain ⟨t257, A210, H⟩ := H
                replace H : (if t257 = true then (some true) else (some false)) = some r := H
                have A21 := Aside0.mk A210
                clear A210
                by_cases c22 : t257 = true
                · subst c22
                  have H1 : (some true) = some r := by rw [if_pos rfl] at H; exact H
                  clear H
                  have H := H1
                  clear H1
                  obtain rfl := Option.some.inj H
                  go_wp2_with (first | ((with_reducible refine gate_callee (f := 61) rfl ?_); refine goesL_ (some 34) rfl rfl Try.func61 (by kernel_rfl) rfl #[.int .i64 t245] rfl Sqz.auM ?_; (with_reducible refine (impl_TwoFind.calls t245 t248 t249 true _ A12.out).mono ?_); rintro e w23 ⟨rfl, hb⟩; refine ⟨_, rfl, ?_⟩; have n0_ := Aside0.mk (below_step (Sqz.auHB) hb); clear HB; have HB := n0_; clear n0_; (try clear hb); (try clear hb2); (try clear hk); (try clear hi)) | ((with_reducible refine gate_callee (f := 19) rfl ?_); refine goesL_ (some 40) rfl rfl Try.func19 (by kernel_rfl) rfl #[.int .i64 t245] rfl Sqz.auM ?_; (with_reducible refine (impl_CoreOf.calls kj5 t245 t251 t252 t253 _ A13.out).mono ?_); rintro e w24 ⟨rfl, hb⟩; refine ⟨_, rfl, ?_⟩; have n0_ := Aside0.mk (below_step (Sqz.auHB) hb); clear HB; have HB := n0_; clear n0_; (try clear hb); (try clear hb2); (try clear hk); (try clear hi)) | ((with_reducible refine gate_dst (N := 46) rfl ?_); (try (refine gate_guard (by rfl) ?_; dsimp only)); refine Kd.R_lit (Kd.int .i64) _ 3 ?hg (N := 46) ?hd (xs := ([1, 1, wrap64 (-t251)] : List Int)) (inner := [.int .i64 1, .int .i64 1, .int .i64 (wrap64 (-t251))]) (ok := fun _ => True) (okp := fun _ => True) ?hr ?hp (fun _ hk => hk) trivial (Below.refl _ _) (Nat.le_refl _) (by simp) ?_; (case hd => rfl); (case hg => rfl); (case hr => first | (go_simp; done) | (go_simp; rfl)); (case hp => exact (Reps.one (show Kd.M (Kd.int .i64) _ _ _ 1 [.int .i64 1] from rfl) (Reps.one (show Kd.M (Kd.int .i64) _ _ _ 1 [.int .i64 1] from rfl) (Reps.one (show Kd.M (Kd.int .i64) _ _ _ (wrap64 (-t251)) [.int .i64 (wrap64 (-t251))] from rfl) (Reps.none _ _))))); intro v255 w25 ho26 hb hg_ hnew_; clear hg_ hnew_; (first | rw [← Ny254.out] at ho26 | (simp only [Int.reduceToNat] at ho26; rw [← Ny254.out] at ho26)); have n0_ := Aside0.mk (Kd.R_lower ho26 (below_size (Sqz.auHB))); have n1_ := Aside0.mk (below_step (Sqz.auHB) hb); clear HB; have HO256 := n0_; have HB := n1_; clear n0_ n1_; clear hb ho26) | (go_at_call 59; (with_reducible refine (impl_TwoIs.calls kj5 (wrap64 (2 * t245)) true _ A21.out).mono ?_); rintro e w27 ⟨rfl, hb⟩; have n0_ := Aside0.mk (Kd.R_below ((Sqz.mvR HO256.out)) hb); have n1_ := Aside0.mk (below_step (Sqz.auHB) hb); clear HO256; clear HB; have HO256 := n0_; have HB := n1_; clear n0_ n1_; (try clear hb); (try clear hb2); (try clear hk); (try clear hi)))
                  go_ret
                  exact ⟨Sqz.auR, Sqz.auHB⟩
                · replace c22 := Bool.eq_false_iff.mpr c22
                  subst c22
                  have H1 : (some false) = some r := by rw [if_neg (show ¬ (false = true) by decide)] at H; exact H
                  clear H
                  have H := H1
                  clear H1
                  obtain rfl := Option.some.inj H
                  go_wp2_with (first | ((with_reducible refine gate_callee (f := 61) rfl ?_); refine goesL_ (some 34) rfl rfl Try.func61 (by kernel_rfl) rfl #[.int .i64 t245] rfl Sqz.auM ?_; (with_reducible refine (impl_TwoFind.calls t245 t248 t249 true _ A12.out).mono ?_); rintro e w28 ⟨rfl, hb⟩; refine ⟨_, rfl, ?_⟩; have n0_ := Aside0.mk (below_step (Sqz.auHB) hb); clear HB; have HB := n0_; clear n0_; (try clear hb); (try clear hb2); (try clear hk); (try clear hi)) | ((with_reducible refine gate_callee (f := 19) rfl ?_); refine goesL_ (some 40) rfl rfl Try.func19 (by kernel_rfl) rfl #[.int .i64 t245] rfl Sqz.auM ?_; (with_reducible refine (impl_CoreOf.calls kj5 t245 t251 t252 t253 _ A13.out).mono ?_); rintro e w29 ⟨rfl, hb⟩; refine ⟨_, rfl, ?_⟩; have n0_ := Aside0.mk (below_step (Sqz.auHB) hb); clear HB; have HB := n0_; clear n0_; (try clear hb); (try clear hb2); (try clear hk); (try clear hi)) | ((with_reducible refine gate_dst (N := 46) rfl ?_); (try (refine gate_guard (by rfl) ?_; dsimp only)); refine Kd.R_lit (Kd.int .i64) _ 3 ?hg (N := 46) ?hd (xs := ([1, 1, wrap64 (-t251)] : List Int)) (inner := [.int .i64 1, .int .i64 1, .int .i64 (wrap64 (-t251))]) (ok := fun _ => True) (okp := fun _ => True) ?hr ?hp (fun _ hk => hk) trivial (Below.refl _ _) (Nat.le_refl _) (by simp) ?_; (case hd => rfl); (case hg => rfl); (case hr => first | (go_simp; done) | (go_simp; rfl)); (case hp => exact (Reps.one (show Kd.M (Kd.int .i64) _ _ _ 1 [.int .i64 1] from rfl) (Reps.one (show Kd.M (Kd.int .i64) _ _ _ 1 [.int .i64 1] from rfl) (Reps.one (show Kd.M (Kd.int .i64) _ _ _ (wrap64 (-t251)) [.int .i64 (wrap64 (-t251))] from rfl) (Reps.none _ _))))); intro v255 w30 ho31 hb hg_ hnew_; clear hg_ hnew_; (first | rw [← Ny254.out] at ho31 | (simp only [Int.reduceToNat] at ho31; rw [← Ny254.out] at ho31)); have n0_ := Aside0.mk (Kd.R_lower ho31 (below_size (Sqz.auHB))); have n1_ := Aside0.mk (below_step (Sqz.auHB) hb); clear HB; have HO256 := n0_; have HB := n1_; clear n0_ n1_; clear hb ho31) | (go_at_call 59; (with_reducible refine (impl_TwoIs.calls kj5 (wrap64 (2 * t245)) false _ A21.out).mono ?_); rintro e w32 ⟨rfl, hb⟩; have n0_ := Aside0.mk (Kd.R_below ((Sqz.mvR HO256.out)) hb); have n1_ := Aside0.mk (below_step (Sqz.auHB) hb); clear HO256; clear HB; have HO256 := n0_; have HB := n1_; clear n0_ n1_; (try clear hb); (try clear hb2); (try clear hk); (try clear hi)))
                  go_ret
                  exact ⟨Sqz.auR, Sqz.auHB⟩
            · rw [if_neg c15] at H
              have c15b0 : (t245 == 0) = false := beq_eq_false_iff_ne.mpr c15
              have c15b1 : (t245 != 0) = true := bne_iff_ne.mpr c15
              by_cases c33 : t253 = true
              · subst c33
                have H1 : ((impl_TwoMany.f kj5 t245).bind fun t258 => (if t258 > 0 then (if (wrap64 (2 * t245)) > 2000 then ((impl_FormValid.f kj5 y254).bind fun t259 => (if t259 = true then ((impl_FormBad.f kj5 y254).bind fun t260 => (some ((t260.length : Int) == 0))) else (some true))) else ((impl_TwoIs.f kj5 (wrap64 (2 * t245))).bind fun t263 => (if t263 = true then ((impl_FormValid.f kj5 y254).bind fun t264 => (if t264 = true then ((impl_FormBad.f kj5 y254).bind fun t265 => (some ((t265.length : Int) == 0))) else (some true))) else (some false)))) else (some false))) = some r := by rw [if_pos rfl] at H; exact H
                clear H
                have H := H1
                clear H1
                replace H := Option.bind_eq_some_iff.mp H
                obtain ⟨t258, A340, H⟩ := H
                replace H : (if t258 > 0 then (if (wrap64 (2 * t245)) > 2000 then ((impl_FormValid.f kj5 y254).bind fun t259 => (if t259 = true then ((impl_FormBad.f kj5 y254).bind fun t260 => (some ((t260.length : Int) == 0))) else (some true))) else ((impl_TwoIs.f kj5 (wrap64 (2 * t245))).bind fun t263 => (if t263 = true then ((impl_FormValid.f kj5 y254).bind fun t264 => (if t264 = true then ((impl_FormBad.f kj5 y254).bind fun t265 => (some ((t265.length : Int) == 0))) else (some true))) else (some false)))) else (some false)) = some r := H
                have A34 := Aside0.mk A340
                clear A340
                by_cases c35 : t258 > 0
                · rw [if_pos c35] at H
                  have c35b0 : decide (0 < t258) = true := decide_eq_true c35
                  clear c35
                  by_cases c36 : (wrap64 (2 * t245)) > 2000
                  · rw [if_pos c36] at H
                    have c36b0 : decide (2000 < (wrap64 (2 * t245))) = true := decide_eq_true c36
                    clear c36
                    replace H := Option.bind_eq_some_iff.mp H
                    obtain ⟨t259, A370, H⟩ := H
                    replace H : (if t259 = true then ((impl_FormBad.f kj5 y254).bind fun t260 => (some ((t260.length : Int) == 0))) else (some true)) = some r := H
                    have A37 := Aside0.mk A370
                    clear A370
                    by_cases c38 : t259 = true
                    · subst c38
                      have H1 : ((impl_FormBad.f kj5 y254).bind fun t260 => (some ((t260.length : Int) == 0))) = some r := by rw [if_pos rfl] at H; exact H
                      clear H
                      have H := H1
                      clear H1
                      replace H := Option.bind_eq_some_iff.mp H
                      obtain ⟨t260, A390, H⟩ := H
                      replace H : (some ((t260.length : Int) == 0)) = some r := H
                      have A39 := Aside0.mk A390
                      clear A390
                      obtain rfl := Option.some.inj H
                      go_wp2_with (first | ((with_reducible refine gate_callee (f := 61) rfl ?_); refine goesL_ (some 34) rfl rfl Try.func61 (by kernel_rfl) rfl #[.int .i64 t245] rfl Sqz.auM ?_; (with_reducible refine (impl_TwoFind.calls t245 t248 t249 true _ A12.out).mono ?_); rintro e w40 ⟨rfl, hb⟩; refine ⟨_, rfl, ?_⟩; have n0_ := Aside0.mk (below_step (Sqz.auHB) hb); clear HB; have HB := n0_; clear n0_; (try clear hb); (try clear hb2); (try clear hk); (try clear hi)) | ((with_reducible refine gate_callee (f := 19) rfl ?_); refine goesL_ (some 40) rfl rfl Try.func19 (by kernel_rfl) rfl #[.int .i64 t245] rfl Sqz.auM ?_; (with_reducible refine (impl_CoreOf.calls kj5 t245 t251 t252 true _ A13.out).mono ?_); rintro e w41 ⟨rfl, hb⟩; refine ⟨_, rfl, ?_⟩; have n0_ := Aside0.mk (below_step (Sqz.auHB) hb); clear HB; have HB := n0_; clear n0_; (try clear hb); (try clear hb2); (try clear hk); (try clear hi)) | ((with_reducible refine gate_dst (N := 46) rfl ?_); (try (refine gate_guard (by rfl) ?_; dsimp only)); refine Kd.R_lit (Kd.int .i64) _ 3 ?hg (N := 46) ?hd (xs := ([1, 1, wrap64 (-t251)] : List Int)) (inner := [.int .i64 1, .int .i64 1, .int .i64 (wrap64 (-t251))]) (ok := fun _ => True) (okp := fun _ => True) ?hr ?hp (fun _ hk => hk) trivial (Below.refl _ _) (Nat.le_refl _) (by simp) ?_; (case hd => rfl); (case hg => rfl); (case hr => first | (go_simp; done) | (go_simp; rfl)); (case hp => exact (Reps.one (show Kd.M (Kd.int .i64) _ _ _ 1 [.int .i64 1] from rfl) (Reps.one (show Kd.M (Kd.int .i64) _ _ _ 1 [.int .i64 1] from rfl) (Reps.one (show Kd.M (Kd.int .i64) _ _ _ (wrap64 (-t251)) [.int .i64 (wrap64 (-t251))] from rfl) (Reps.none _ _))))); intro v255 w42 ho43 hb hg_ hnew_; clear hg_ hnew_; (first | rw [← Ny254.out] at ho43 | (simp only [Int.reduceToNat] at ho43; rw [← Ny254.out] at ho43)); have n0_ := Aside0.mk (Kd.R_lower ho43 (below_size (Sqz.auHB))); have n1_ := Aside0.mk (below_step (Sqz.auHB) hb); clear HB; have HO256 := n0_; have HB := n1_; clear n0_ n1_; clear hb ho43) | (go_at_call 62; (with_reducible refine (impl_TwoMany.calls kj5 t245 t258 _ A34.out).mono ?_); rintro e w' ⟨rfl, ⟨nd, rfl⟩⟩; obtain ⟨Ao44, co44, eo44⟩ := Kd.R_slice HO256.out; subst eo44) | (go_at_call 20; (with_reducible refine (impl_FormValid.calls kj5 _ _ y254 true _ ?side1 ?side2 A37.out).mono ?_); (case side1 => exact Sqz.mvC ((Kd.R_reads' HO256.out).2.2)); (case side2 => exact (Kd.R_reads' HO256.out).2.1); rintro e w45 ⟨rfl, hb⟩; have n0_ := Aside0.mk (Kd.R_below ((Sqz.mvR HO256.out)) hb); have n1_ := Aside0.mk (below_step (Sqz.auHB) hb); clear HO256; clear HB; have HO256 := n0_; have HB := n1_; clear n0_ n1_; (try clear hb); (try clear hb2); (try clear hk); (try clear hi)) | (go_at_call 53; (with_reducible refine (impl_FormBad.calls kj5 _ _ y254 t260 _ ?side1 ?side2 A39.out).mono ?_); (case side1 => exact Sqz.mvC ((Kd.R_reads' HO256.out).2.2)); (case side2 => exact (Kd.R_reads' HO256.out).2.1); rintro e w46 ⟨v261, rfl, ho0, hb⟩; have n0_ := Aside0.mk (Kd.R_elder' ((Sqz.mvR HO256.out)) (Kd.R_base ho0) hb); have n1_ := Aside0.mk (Kd.R_lower (Kd.R_new' ho0 (Kd.R_lt ((Sqz.mvR HO256.out)))) (below_size (Sqz.auHB))); have n2_ := Aside0.mk (below_step (Sqz.auHB) hb); clear HO256; clear HB; have HO256 := n0_; have HO262 := n1_; have HB := n2_; clear n0_ n1_ n2_; (try clear hb); (try clear hb2); (try clear hk); (try clear hi); (try clear ho0); obtain ⟨Ao47, co47, eo47⟩ := Kd.R_slice HO262.out; subst eo47))
                      go_ret
                      exact ⟨Sqz.auR, Sqz.auHB⟩
                    · replace c38 := Bool.eq_false_iff.mpr c38
                      subst c38
                      have H1 : (some true) = some r := by rw [if_neg (show ¬ (false = true) by decide)] at H; exact H
                      clear H
                      have H := H1
                      clear H1
                      obtain rfl := Option.some.inj H
                      go_wp2_with (first | ((with_reducible refine gate_callee (f := 61) rfl ?_); refine goesL_ (some 34) rfl rfl Try.func61 (by kernel_rfl) rfl #[.int .i64 t245] rfl Sqz.auM ?_; (with_reducible refine (impl_TwoFind.calls t245 t248 t249 true _ A12.out).mono ?_); rintro e w48 ⟨rfl, hb⟩; refine ⟨_, rfl, ?_⟩; have n0_ := Aside0.mk (below_step (Sqz.auHB) hb); clear HB; have HB := n0_; clear n0_; (try clear hb); (try clear hb2); (try clear hk); (try clear hi)) | ((with_reducible refine gate_callee (f := 19) rfl ?_); refine goesL_ (some 40) rfl rfl Try.func19 (by kernel_rfl) rfl #[.int .i64 t245] rfl Sqz.auM ?_; (with_reducible refine (impl_CoreOf.calls kj5 t245 t251 t252 true _ A13.out).mono ?_); rintro e w49 ⟨rfl, hb⟩; refine ⟨_, rfl, ?_⟩; have n0_ := Aside0.mk (below_step (Sqz.auHB) hb); clear HB; have HB := n0_; clear n0_; (try clear hb); (try clear hb2); (try clear hk); (try clear hi)) | ((with_reducible refine gate_dst (N := 46) rfl ?_); (try (refine gate_guard (by rfl) ?_; dsimp only)); refine Kd.R_lit (Kd.int .i64) _ 3 ?hg (N := 46) ?hd (xs := ([1, 1, wrap64 (-t251)] : List Int)) (inner := [.int .i64 1, .int .i64 1, .int .i64 (wrap64 (-t251))]) (ok := fun _ => True) (okp := fun _ => True) ?hr ?hp (fun _ hk => hk) trivial (Below.refl _ _) (Nat.le_refl _) (by simp) ?_; (case hd => rfl); (case hg => rfl); (case hr => first | (go_simp; done) | (go_simp; rfl)); (case hp => exact (Reps.one (show Kd.M (Kd.int .i64) _ _ _ 1 [.int .i64 1] from rfl) (Reps.one (show Kd.M (Kd.int .i64) _ _ _ 1 [.int .i64 1] from rfl) (Reps.one (show Kd.M (Kd.int .i64) _ _ _ (wrap64 (-t251)) [.int .i64 (wrap64 (-t251))] from rfl) (Reps.none _ _))))); intro v255 w50 ho51 hb hg_ hnew_; clear hg_ hnew_; (first | rw [← Ny254.out] at ho51 | (simp only [Int.reduceToNat] at ho51; rw [← Ny254.out] at ho51)); have n0_ := Aside0.mk (Kd.R_lower ho51 (below_size (Sqz.auHB))); have n1_ := Aside0.mk (below_step (Sqz.auHB) hb); clear HB; have HO256 := n0_; have HB := n1_; clear n0_ n1_; clear hb ho51) | (go_at_call 62; (with_reducible refine (impl_TwoMany.calls kj5 t245 t258 _ A34.out).mono ?_); rintro e w' ⟨rfl, ⟨nd, rfl⟩⟩; obtain ⟨Ao52, co52, eo52⟩ := Kd.R_slice HO256.out; subst eo52) | (go_at_call 20; (with_reducible refine (impl_FormValid.calls kj5 _ _ y254 false _ ?side1 ?side2 A37.out).mono ?_); (case side1 => exact Sqz.mvC ((Kd.R_reads' HO256.out).2.2)); (case side2 => exact (Kd.R_reads' HO256.out).2.1); rintro e w53 ⟨rfl, hb⟩; have n0_ := Aside0.mk (Kd.R_below ((Sqz.mvR HO256.out)) hb); have n1_ := Aside0.mk (below_step (Sqz.auHB) hb); clear HO256; clear HB; have HO256 := n0_; have HB := n1_; clear n0_ n1_; (try clear hb); (try clear hb2); (try clear hk); (try clear hi)))
                      go_ret
                      exact ⟨Sqz.auR, Sqz.auHB⟩
                  · rw [if_neg c36] at H
                    have c36b0 : decide (2000 < (wrap64 (2 * t245))) = false := decide_eq_false c36
                    clear c36
                    replace H := Option.bind_eq_some_iff.mp H
                    obtain ⟨t263, A540, H⟩ := H
                    replace H : (if t263 = true then ((impl_FormValid.f kj5 y254).bind fun t264 => (if t264 = true then ((impl_FormBad.f kj5 y254).bind fun t265 => (some ((t265.length : Int) == 0))) else (some true))) else (some false)) = some r := H
                    have A54 := Aside0.mk A540
                    clear A540
                    by_cases c55 : t263 = true
                    · subst c55
                      have H1 : ((impl_FormValid.f kj5 y254).bind fun t264 => (if t264 = true then ((impl_FormBad.f kj5 y254).bind fun t265 => (some ((t265.length : Int) == 0))) else (some true))) = some r := by rw [if_pos rfl] at H; exact H
                      clear H
                      have H := H1
                      clear H1
                      replace H := Option.bind_eq_some_iff.mp H
                      obtain ⟨t264, A560, H⟩ := H
                      replace H : (if t264 = true then ((impl_FormBad.f kj5 y254).bind fun t265 => (some ((t265.length : Int) == 0))) else (some true)) = some r := H
                      have A56 := Aside0.mk A560
                      clear A560
                      by_cases c57 : t264 = true
                      · subst c57
                        have H1 : ((impl_FormBad.f kj5 y254).bind fun t265 => (some ((t265.length : Int) == 0))) = some r := by rw [if_pos rfl] at H; exact H
                        clear H
                        have H := H1
                        clear H1
                        replace H := Option.bind_eq_some_iff.mp H
                        obtain ⟨t265, A580, H⟩ := H
                        replace H : (some ((t265.length : Int) == 0)) = some r := H
                        have A58 := Aside0.mk A580
                        clear A580
                        obtain rfl := Option.some.inj H
                        go_wp2_with (first | ((with_reducible refine gate_callee (f := 61) rfl ?_); refine goesL_ (some 34) rfl rfl Try.func61 (by kernel_rfl) rfl #[.int .i64 t245] rfl Sqz.auM ?_; (with_reducible refine (impl_TwoFind.calls t245 t248 t249 true _ A12.out).mono ?_); rintro e w59 ⟨rfl, hb⟩; refine ⟨_, rfl, ?_⟩; have n0_ := Aside0.mk (below_step (Sqz.auHB) hb); clear HB; have HB := n0_; clear n0_; (try clear hb); (try clear hb2); (try clear hk); (try clear hi)) | ((with_reducible refine gate_callee (f := 19) rfl ?_); refine goesL_ (some 40) rfl rfl Try.func19 (by kernel_rfl) rfl #[.int .i64 t245] rfl Sqz.auM ?_; (with_reducible refine (impl_CoreOf.calls kj5 t245 t251 t252 true _ A13.out).mono ?_); rintro e w60 ⟨rfl, hb⟩; refine ⟨_, rfl, ?_⟩; have n0_ := Aside0.mk (below_step (Sqz.auHB) hb); clear HB; have HB := n0_; clear n0_; (try clear hb); (try clear hb2); (try clear hk); (try clear hi)) | ((with_reducible refine gate_dst (N := 46) rfl ?_); (try (refine gate_guard (by rfl) ?_; dsimp only)); refine Kd.R_lit (Kd.int .i64) _ 3 ?hg (N := 46) ?hd (xs := ([1, 1, wrap64 (-t251)] : List Int)) (inner := [.int .i64 1, .int .i64 1, .int .i64 (wrap64 (-t251))]) (ok := fun _ => True) (okp := fun _ => True) ?hr ?hp (fun _ hk => hk) trivial (Below.refl _ _) (Nat.le_refl _) (by simp) ?_; (case hd => rfl); (case hg => rfl); (case hr => first | (go_simp; done) | (go_simp; rfl)); (case hp => exact (Reps.one (show Kd.M (Kd.int .i64) _ _ _ 1 [.int .i64 1] from rfl) (Reps.one (show Kd.M (Kd.int .i64) _ _ _ 1 [.int .i64 1] from rfl) (Reps.one (show Kd.M (Kd.int .i64) _ _ _ (wrap64 (-t251)) [.int .i64 (wrap64 (-t251))] from rfl) (Reps.none _ _))))); intro v255 w61 ho62 hb hg_ hnew_; clear hg_ hnew_; (first | rw [← Ny254.out] at ho62 | (simp only [Int.reduceToNat] at ho62; rw [← Ny254.out] at ho62)); have n0_ := Aside0.mk (Kd.R_lower ho62 (below_size (Sqz.auHB))); have n1_ := Aside0.mk (below_step (Sqz.auHB) hb); clear HB; have HO256 := n0_; have HB := n1_; clear n0_ n1_; clear hb ho62) | (go_at_call 62; (with_reducible refine (impl_TwoMany.calls kj5 t245 t258 _ A34.out).mono ?_); rintro e w' ⟨rfl, ⟨nd, rfl⟩⟩) | (go_at_call 59; (with_reducible refine (impl_TwoIs.calls kj5 (wrap64 (2 * t245)) true _ A54.out).mono ?_); rintro e w63 ⟨rfl, hb⟩; have n0_ := Aside0.mk (Kd.R_below ((Sqz.mvR HO256.out)) hb); have n1_ := Aside0.mk (below_step (Sqz.auHB) hb); clear HO256; clear HB; have HO256 := n0_; have HB := n1_; clear n0_ n1_; (try clear hb); (try clear hb2); (try clear hk); (try clear hi); obtain ⟨Ao64, co64, eo64⟩ := Kd.R_slice HO256.out; subst eo64) | (go_at_call 20; (with_reducible refine (impl_FormValid.calls kj5 _ _ y254 true _ ?side1 ?side2 A56.out).mono ?_); (case side1 => exact Sqz.mvC ((Kd.R_reads' HO256.out).2.2)); (case side2 => exact (Kd.R_reads' HO256.out).2.1); rintro e w65 ⟨rfl, hb⟩; have n0_ := Aside0.mk (Kd.R_below ((Sqz.mvR HO256.out)) hb); have n1_ := Aside0.mk (below_step (Sqz.auHB) hb); clear HO256; clear HB; have HO256 := n0_; have HB := n1_; clear n0_ n1_; (try clear hb); (try clear hb2); (try clear hk); (try clear hi)) | (go_at_call 53; (with_reducible refine (impl_FormBad.calls kj5 _ _ y254 t265 _ ?side1 ?side2 A58.out).mono ?_); (case side1 => exact Sqz.mvC ((Kd.R_reads' HO256.out).2.2)); (case side2 => exact (Kd.R_reads' HO256.out).2.1); rintro e w66 ⟨v266, rfl, ho0, hb⟩; have n0_ := Aside0.mk (Kd.R_elder' ((Sqz.mvR HO256.out)) (Kd.R_base ho0) hb); have n1_ := Aside0.mk (Kd.R_lower (Kd.R_new' ho0 (Kd.R_lt ((Sqz.mvR HO256.out)))) (below_size (Sqz.auHB))); have n2_ := Aside0.mk (below_step (Sqz.auHB) hb); clear HO256; clear HB; have HO256 := n0_; have HO267 := n1_; have HB := n2_; clear n0_ n1_ n2_; (try clear hb); (try clear hb2); (try clear hk); (try clear hi); (try clear ho0); obtain ⟨Ao67, co67, eo67⟩ := Kd.R_slice HO267.out; subst eo67))
                        go_ret
                        exact ⟨Sqz.auR, Sqz.auHB⟩
                      · replace c57 := Bool.eq_false_iff.mpr c57
                        subst c57
                        have H1 : (some true) = some r := by rw [if_neg (show ¬ (false = true) by decide)] at H; exact H
                        clear H
                        have H := H1
                        clear H1
                        obtain rfl := Option.some.inj H
                        go_wp2_with (first | ((with_reducible refine gate_callee (f := 61) rfl ?_); refine goesL_ (some 34) rfl rfl Try.func61 (by kernel_rfl) rfl #[.int .i64 t245] rfl Sqz.auM ?_; (with_reducible refine (impl_TwoFind.calls t245 t248 t249 true _ A12.out).mono ?_); rintro e w68 ⟨rfl, hb⟩; refine ⟨_, rfl, ?_⟩; have n0_ := Aside0.mk (below_step (Sqz.auHB) hb); clear HB; have HB := n0_; clear n0_; (try clear hb); (try clear hb2); (try clear hk); (try clear hi)) | ((with_reducible refine gate_callee (f := 19) rfl ?_); refine goesL_ (some 40) rfl rfl Try.func19 (by kernel_rfl) rfl #[.int .i64 t245] rfl Sqz.auM ?_; (with_reducible refine (impl_CoreOf.calls kj5 t245 t251 t252 true _ A13.out).mono ?_); rintro e w69 ⟨rfl, hb⟩; refine ⟨_, rfl, ?_⟩; have n0_ := Aside0.mk (below_step (Sqz.auHB) hb); clear HB; have HB := n0_; clear n0_; (try clear hb); (try clear hb2); (try clear hk); (try clear hi)) | ((with_reducible refine gate_dst (N := 46) rfl ?_); (try (refine gate_guard (by rfl) ?_; dsimp only)); refine Kd.R_lit (Kd.int .i64) _ 3 ?hg (N := 46) ?hd (xs := ([1, 1, wrap64 (-t251)] : List Int)) (inner := [.int .i64 1, .int .i64 1, .int .i64 (wrap64 (-t251))]) (ok := fun _ => True) (okp := fun _ => True) ?hr ?hp (fun _ hk => hk) trivial (Below.refl _ _) (Nat.le_refl _) (by simp) ?_; (case hd => rfl); (case hg => rfl); (case hr => first | (go_simp; done) | (go_simp; rfl)); (case hp => exact (Reps.one (show Kd.M (Kd.int .i64) _ _ _ 1 [.int .i64 1] from rfl) (Reps.one (show Kd.M (Kd.int .i64) _ _ _ 1 [.int .i64 1] from rfl) (Reps.one (show Kd.M (Kd.int .i64) _ _ _ (wrap64 (-t251)) [.int .i64 (wrap64 (-t251))] from rfl) (Reps.none _ _))))); intro v255 w70 ho71 hb hg_ hnew_; clear hg_ hnew_; (first | rw [← Ny254.out] at ho71 | (simp only [Int.reduceToNat] at ho71; rw [← Ny254.out] at ho71)); have n0_ := Aside0.mk (Kd.R_lower ho71 (below_size (Sqz.auHB))); have n1_ := Aside0.mk (below_step (Sqz.auHB) hb); clear HB; have HO256 := n0_; have HB := n1_; clear n0_ n1_; clear hb ho71) | (go_at_call 62; (with_reducible refine (impl_TwoMany.calls kj5 t245 t258 _ A34.out).mono ?_); rintro e w' ⟨rfl, ⟨nd, rfl⟩⟩) | (go_at_call 59; (with_reducible refine (impl_TwoIs.calls kj5 (wrap64 (2 * t245)) true _ A54.out).mono ?_); rintro e w72 ⟨rfl, hb⟩; have n0_ := Aside0.mk (Kd.R_below ((Sqz.mvR HO256.out)) hb); have n1_ := Aside0.mk (below_step (Sqz.auHB) hb); clear HO256; clear HB; have HO256 := n0_; have HB := n1_; clear n0_ n1_; (try clear hb); (try clear hb2); (try clear hk); (try clear hi); obtain ⟨Ao73, co73, eo73⟩ := Kd.R_slice HO256.out; subst eo73) | (go_at_call 20; (with_reducible refine (impl_FormValid.calls kj5 _ _ y254 false _ ?side1 ?side2 A56.out).mono ?_); (case side1 => exact Sqz.mvC ((Kd.R_reads' HO256.out).2.2)); (case side2 => exact (Kd.R_reads' HO256.out).2.1); rintro e w74 ⟨rfl, hb⟩; have n0_ := Aside0.mk (Kd.R_below ((Sqz.mvR HO256.out)) hb); have n1_ := Aside0.mk (below_step (Sqz.auHB) hb); clear HO256; clear HB; have HO256 := n0_; have HB := n1_; clear n0_ n1_; (try clear hb); (try clear hb2); (try clear hk); (try clear hi)))
                        go_ret
                        exact ⟨Sqz.auR, Sqz.auHB⟩
                    · replace c55 := Bool.eq_false_iff.mpr c55
                      subst c55
                      have H1 : (some false) = some r := by rw [if_neg (show ¬ (false = true) by decide)] at H; exact H
                      clear H
                      have H := H1
                      clear H1
                      obtain rfl := Option.some.inj H
                      go_wp2_with (first | ((with_reducible refine gate_callee (f := 61) rfl ?_); refine goesL_ (some 34) rfl rfl Try.func61 (by kernel_rfl) rfl #[.int .i64 t245] rfl Sqz.auM ?_; (with_reducible refine (impl_TwoFind.calls t245 t248 t249 true _ A12.out).mono ?_); rintro e w75 ⟨rfl, hb⟩; refine ⟨_, rfl, ?_⟩; have n0_ := Aside0.mk (below_step (Sqz.auHB) hb); clear HB; have HB := n0_; clear n0_; (try clear hb); (try clear hb2); (try clear hk); (try clear hi)) | ((with_reducible refine gate_callee (f := 19) rfl ?_); refine goesL_ (some 40) rfl rfl Try.func19 (by kernel_rfl) rfl #[.int .i64 t245] rfl Sqz.auM ?_; (with_reducible refine (impl_CoreOf.calls kj5 t245 t251 t252 true _ A13.out).mono ?_); rintro e w76 ⟨rfl, hb⟩; refine ⟨_, rfl, ?_⟩; have n0_ := Aside0.mk (below_step (Sqz.auHB) hb); clear HB; have HB := n0_; clear n0_; (try clear hb); (try clear hb2); (try clear hk); (try clear hi)) | ((with_reducible refine gate_dst (N := 46) rfl ?_); (try (refine gate_guard (by rfl) ?_; dsimp only)); refine Kd.R_lit (Kd.int .i64) _ 3 ?hg (N := 46) ?hd (xs := ([1, 1, wrap64 (-t251)] : List Int)) (inner := [.int .i64 1, .int .i64 1, .int .i64 (wrap64 (-t251))]) (ok := fun _ => True) (okp := fun _ => True) ?hr ?hp (fun _ hk => hk) trivial (Below.refl _ _) (Nat.le_refl _) (by simp) ?_; (case hd => rfl); (case hg => rfl); (case hr => first | (go_simp; done) | (go_simp; rfl)); (case hp => exact (Reps.one (show Kd.M (Kd.int .i64) _ _ _ 1 [.int .i64 1] from rfl) (Reps.one (show Kd.M (Kd.int .i64) _ _ _ 1 [.int .i64 1] from rfl) (Reps.one (show Kd.M (Kd.int .i64) _ _ _ (wrap64 (-t251)) [.int .i64 (wrap64 (-t251))] from rfl) (Reps.none _ _))))); intro v255 w77 ho78 hb hg_ hnew_; clear hg_ hnew_; (first | rw [← Ny254.out] at ho78 | (simp only [Int.reduceToNat] at ho78; rw [← Ny254.out] at ho78)); have n0_ := Aside0.mk (Kd.R_lower ho78 (below_size (Sqz.auHB))); have n1_ := Aside0.mk (below_step (Sqz.auHB) hb); clear HB; have HO256 := n0_; have HB := n1_; clear n0_ n1_; clear hb ho78) | (go_at_call 62; (with_reducible refine (impl_TwoMany.calls kj5 t245 t258 _ A34.out).mono ?_); rintro e w' ⟨rfl, ⟨nd, rfl⟩⟩) | (go_at_call 59; (with_reducible refine (impl_TwoIs.calls kj5 (wrap64 (2 * t245)) false _ A54.out).mono ?_); rintro e w79 ⟨rfl, hb⟩; have n0_ := Aside0.mk (Kd.R_below ((Sqz.mvR HO256.out)) hb); have n1_ := Aside0.mk (below_step (Sqz.auHB) hb); clear HO256; clear HB; have HO256 := n0_; have HB := n1_; clear n0_ n1_; (try clear hb); (try clear hb2); (try clear hk); (try clear hi)))
                      go_ret
                      exact ⟨Sqz.auR, Sqz.auHB⟩
                · rw [if_neg c35] at H
                  have c35b0 : decide (0 < t258) = false := decide_eq_false c35
                  clear c35
                  obtain rfl := Option.some.inj H
                  go_wp2_with (first | ((with_reducible refine gate_callee (f := 61) rfl ?_); refine goesL_ (some 34) rfl rfl Try.func61 (by kernel_rfl) rfl #[.int .i64 t245] rfl Sqz.auM ?_; (with_reducible refine (impl_TwoFind.calls t245 t248 t249 true _ A12.out).mono ?_); rintro e w80 ⟨rfl, hb⟩; refine ⟨_, rfl, ?_⟩; have n0_ := Aside0.mk (below_step (Sqz.auHB) hb); clear HB; have HB := n0_; clear n0_; (try clear hb); (try clear hb2); (try clear hk); (try clear hi)) | ((with_reducible refine gate_callee (f := 19) rfl ?_); refine goesL_ (some 40) rfl rfl Try.func19 (by kernel_rfl) rfl #[.int .i64 t245] rfl Sqz.auM ?_; (with_reducible refine (impl_CoreOf.calls kj5 t245 t251 t252 true _ A13.out).mono ?_); rintro e w81 ⟨rfl, hb⟩; refine ⟨_, rfl, ?_⟩; have n0_ := Aside0.mk (below_step (Sqz.auHB) hb); clear HB; have HB := n0_; clear n0_; (try clear hb); (try clear hb2); (try clear hk); (try clear hi)) | ((with_reducible refine gate_dst (N := 46) rfl ?_); (try (refine gate_guard (by rfl) ?_; dsimp only)); refine Kd.R_lit (Kd.int .i64) _ 3 ?hg (N := 46) ?hd (xs := ([1, 1, wrap64 (-t251)] : List Int)) (inner := [.int .i64 1, .int .i64 1, .int .i64 (wrap64 (-t251))]) (ok := fun _ => True) (okp := fun _ => True) ?hr ?hp (fun _ hk => hk) trivial (Below.refl _ _) (Nat.le_refl _) (by simp) ?_; (case hd => rfl); (case hg => rfl); (case hr => first | (go_simp; done) | (go_simp; rfl)); (case hp => exact (Reps.one (show Kd.M (Kd.int .i64) _ _ _ 1 [.int .i64 1] from rfl) (Reps.one (show Kd.M (Kd.int .i64) _ _ _ 1 [.int .i64 1] from rfl) (Reps.one (show Kd.M (Kd.int .i64) _ _ _ (wrap64 (-t251)) [.int .i64 (wrap64 (-t251))] from rfl) (Reps.none _ _))))); intro v255 w82 ho83 hb hg_ hnew_; clear hg_ hnew_; (first | rw [← Ny254.out] at ho83 | (simp only [Int.reduceToNat] at ho83; rw [← Ny254.out] at ho83)); have n0_ := Aside0.mk (Kd.R_lower ho83 (below_size (Sqz.auHB))); have n1_ := Aside0.mk (below_step (Sqz.auHB) hb); clear HB; have HO256 := n0_; have HB := n1_; clear n0_ n1_; clear hb ho83) | (go_at_call 62; (with_reducible refine (impl_TwoMany.calls kj5 t245 t258 _ A34.out).mono ?_); rintro e w' ⟨rfl, ⟨nd, rfl⟩⟩))
                  go_ret
                  exact ⟨Sqz.auR, Sqz.auHB⟩
              · replace c33 := Bool.eq_false_iff.mpr c33
                subst c33
                have H1 : (some false) = some r := by rw [if_neg (show ¬ (false = true) by decide)] at H; exact H
                clear H
                have H := H1
                clear H1
                obtain rfl := Option.some.inj H
                go_wp2_with (first | ((with_reducible refine gate_callee (f := 61) rfl ?_); refine goesL_ (some 34) rfl rfl Try.func61 (by kernel_rfl) rfl #[.int .i64 t245] rfl Sqz.auM ?_; (with_reducible refine (impl_TwoFind.calls t245 t248 t249 true _ A12.out).mono ?_); rintro e w84 ⟨rfl, hb⟩; refine ⟨_, rfl, ?_⟩; have n0_ := Aside0.mk (below_step (Sqz.auHB) hb); clear HB; have HB := n0_; clear n0_; (try clear hb); (try clear hb2); (try clear hk); (try clear hi)) | ((with_reducible refine gate_callee (f := 19) rfl ?_); refine goesL_ (some 40) rfl rfl Try.func19 (by kernel_rfl) rfl #[.int .i64 t245] rfl Sqz.auM ?_; (with_reducible refine (impl_CoreOf.calls kj5 t245 t251 t252 false _ A13.out).mono ?_); rintro e w85 ⟨rfl, hb⟩; refine ⟨_, rfl, ?_⟩; have n0_ := Aside0.mk (below_step (Sqz.auHB) hb); clear HB; have HB := n0_; clear n0_; (try clear hb); (try clear hb2); (try clear hk); (try clear hi)) | ((with_reducible refine gate_dst (N := 46) rfl ?_); (try (refine gate_guard (by rfl) ?_; dsimp only)); refine Kd.R_lit (Kd.int .i64) _ 3 ?hg (N := 46) ?hd (xs := ([1, 1, wrap64 (-t251)] : List Int)) (inner := [.int .i64 1, .int .i64 1, .int .i64 (wrap64 (-t251))]) (ok := fun _ => True) (okp := fun _ => True) ?hr ?hp (fun _ hk => hk) trivial (Below.refl _ _) (Nat.le_refl _) (by simp) ?_; (case hd => rfl); (case hg => rfl); (case hr => first | (go_simp; done) | (go_simp; rfl)); (case hp => exact (Reps.one (show Kd.M (Kd.int .i64) _ _ _ 1 [.int .i64 1] from rfl) (Reps.one (show Kd.M (Kd.int .i64) _ _ _ 1 [.int .i64 1] from rfl) (Reps.one (show Kd.M (Kd.int .i64) _ _ _ (wrap64 (-t251)) [.int .i64 (wrap64 (-t251))] from rfl) (Reps.none _ _))))); intro v255 w86 ho87 hb hg_ hnew_; clear hg_ hnew_; (first | rw [← Ny254.out] at ho87 | (simp only [Int.reduceToNat] at ho87; rw [← Ny254.out] at ho87)); have n0_ := Aside0.mk (Kd.R_lower ho87 (below_size (Sqz.auHB))); have n1_ := Aside0.mk (below_step (Sqz.auHB) hb); clear HB; have HO256 := n0_; have HB := n1_; clear n0_ n1_; clear hb ho87))
                go_ret
                exact ⟨Sqz.auR, Sqz.auHB⟩
          · replace c14 := Bool.eq_false_iff.mpr c14
            subst c14
            have H1 : (some false) = some r := by rw [if_neg (show ¬ (false = true) by decide)] at H; exact H
            clear H
            have H := H1
            clear H1
            obtain rfl := Option.some.inj H
            go_wp2_with (first | ((with_reducible refine gate_callee (f := 61) rfl ?_); refine goesL_ (some 34) rfl rfl Try.func61 (by kernel_rfl) rfl #[.int .i64 t245] rfl Sqz.auM ?_; (with_reducible refine (impl_TwoFind.calls t245 t248 t249 false _ A12.out).mono ?_); rintro e w88 ⟨rfl, hb⟩; refine ⟨_, rfl, ?_⟩; have n0_ := Aside0.mk (below_step (Sqz.auHB) hb); clear HB; have HB := n0_; clear n0_; (try clear hb); (try clear hb2); (try clear hk); (try clear hi)) | ((with_reducible refine gate_callee (f := 19) rfl ?_); refine goesL_ (some 40) rfl rfl Try.func19 (by kernel_rfl) rfl #[.int .i64 t245] rfl Sqz.auM ?_; (with_reducible refine (impl_CoreOf.calls kj5 t245 t251 t252 t253 _ A13.out).mono ?_); rintro e w89 ⟨rfl, hb⟩; refine ⟨_, rfl, ?_⟩; have n0_ := Aside0.mk (below_step (Sqz.auHB) hb); clear HB; have HB := n0_; clear n0_; (try clear hb); (try clear hb2); (try clear hk); (try clear hi)) | ((with_reducible refine gate_dst (N := 46) rfl ?_); (try (refine gate_guard (by rfl) ?_; dsimp only)); refine Kd.R_lit (Kd.int .i64) _ 3 ?hg (N := 46) ?hd (xs := ([1, 1, wrap64 (-t251)] : List Int)) (inner := [.int .i64 1, .int .i64 1, .int .i64 (wrap64 (-t251))]) (ok := fun _ => True) (okp := fun _ => True) ?hr ?hp (fun _ hk => hk) trivial (Below.refl _ _) (Nat.le_refl _) (by simp) ?_; (case hd => rfl); (case hg => rfl); (case hr => first | (go_simp; done) | (go_simp; rfl)); (case hp => exact (Reps.one (show Kd.M (Kd.int .i64) _ _ _ 1 [.int .i64 1] from rfl) (Reps.one (show Kd.M (Kd.int .i64) _ _ _ 1 [.int .i64 1] from rfl) (Reps.one (show Kd.M (Kd.int .i64) _ _ _ (wrap64 (-t251)) [.int .i64 (wrap64 (-t251))] from rfl) (Reps.none _ _))))); intro v255 w90 ho91 hb hg_ hnew_; clear hg_ hnew_; (first | rw [← Ny254.out] at ho91 | (simp only [Int.reduceToNat] at ho91; rw [← Ny254.out] at ho91)); have n0_ := Aside0.mk (Kd.R_lower ho91 (below_size (Sqz.auHB))); have n1_ := Aside0.mk (below_step (Sqz.auHB) hb); clear HB; have HO256 := n0_; have HB := n1_; clear n0_ n1_; clear hb ho91))
            go_ret
            exact ⟨Sqz.auR, Sqz.auHB⟩

/-- THE ONE PURE STATEMENT of laws_FnTwoIs: yours. -/
def laws_FnTwoIs.Pure : Prop := ∀ (l0 : List Int), l0.length ≤ maxLen → l0.length * 1 ≤ 140737488351232 → (∀ x ∈ l0, (Lit.int .u8 x).wf = true) → ∃ k, laws_FnTwoIs.f k l0 = some true
theorem laws_FnTwoIs.walk (P : laws_FnTwoIs.Pure) (a0 : Option Addr) (len0 cap0 : Nat) (z0 : List Int) (w : World) (w0 : (a0 = none ∧ len0 = 0 ∧ cap0 = 0 ∧ z0 = []) ∨ ∃ x, a0 = some x ∧ len0 ≤ cap0 ∧ cap0 ≤ maxLen ∧ z0.length = cap0 ∧ (∀ i, i < z0.length → w.cell? (x.add i) = some (.int .u8 (z0.getD i 0))) ∧ ∀ n ∈ z0, (Lit.int .u8 n).wf = true) (y0 : len0 * 1 ≤ 140737488351232) :
    Calls Try.prog 13 #[.slice a0 len0 cap0] w fun e w' => e = .returned (.bool true) ∧ Below w.heap.size w w' := by
  obtain ⟨l0, rfl, hr0, hm0, hw0, hc0⟩ := ReadsInt.ofRowC w0
  obtain ⟨k, h⟩ := P l0 hm0 y0 hw0
  refine (laws_FnTwoIs.calls k _ _ l0 true w (Kd.C_of_reads (d := (0 : Int)) (h1 := fun _ => rfl) hr0) hc0 h).mono ?_
  rintro e w' ⟨rfl, hd⟩
  exact ⟨rfl, hd⟩

end Go.Proofs.Ytihadpckmcebgaa.PFnTwoIs
