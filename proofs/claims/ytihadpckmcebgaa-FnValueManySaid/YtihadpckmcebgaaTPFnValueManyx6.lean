/- A function's Lean twin and its walk, written by a program of this session. -/
import Derived.Test.YtihadpckmcebgaaTPFnValueManyx0
import Derived.Test.YtihadpckmcebgaaTPFnValueManyx1
import Derived.Test.YtihadpckmcebgaaTPFnValueManyx3
import Derived.Test.YtihadpckmcebgaaTPFnValueManyx4
import Derived.Test.YtihadpckmcebgaaTPFnValueManyx5
namespace Go.Proofs.Ytihadpckmcebgaa.PFnValueMany
open Go.RowKit Go.Proofs.YtihadpckmcebgaaW.PrintWords Go.Proofs.YtihadpckmcebgaaW.PrintLast Go.Proofs.YtihadpckmcebgaaW.PrintMore
attribute [local go_sem] max2_int min2_int max_two min_two max_three min_three max_four min_four   -- for this text's walks alone
set_option linter.unusedVariables false
set_option linter.unusedSimpArgs false

/-! ### laws_FnValueMany: function 14 -/
def laws_FnValueMany.j0 : Nat → List Int → Int → Int → Int → Int → Bool → Option (Bool)
 | 0, _, _, _, _, _, _ => none
 | k + 1, x3, x4, x5, x6, x7, x32 => if x32 = true then (some (x6 == x7)) else ((impl_ValueMany.f k x3 x4 (wrap64 (x5 + 1))).bind fun t294 => (if x4 = 0 then (if x5 = 6 then ((impl_ZeroMany.f k x3 x5).bind fun t295 => (some (decide (x6 ≥ (wrap64 ((wrap64 (2 * t295)) + 1)))))) else (if t294 ≥ x6 then ((impl_ZeroMany.f k x3 x5).bind fun t296 => (some (decide (x6 ≥ (wrap64 ((wrap64 (2 * t296)) + 1)))))) else (some false))) else (if x5 = 6 then (if (Int.tmod x6 2) = 0 then (if x6 = 0 then (some true) else ((laws_sizeOf.f x4).bind fun t297 => (if t297 > 30 then (some true) else ((impl_ValueEverywhere.f k x3 x4).bind fun t298 => (some t298))))) else (some false)) else (if t294 ≥ x6 then (if (Int.tmod x6 2) = 0 then (if x6 = 0 then (some true) else ((laws_sizeOf.f x4).bind fun t299 => (if t299 > 30 then (some true) else ((impl_ValueEverywhere.f k x3 x4).bind fun t300 => (some t300))))) else (some false)) else (some false)))))
def laws_FnValueMany.f (k : Nat) (l0 : List Int) : Option (Bool) := if (l0.length : Int) > 1048576 then (some true) else ((spec_DrawValueMany.f k l0).bind fun bt287 => ((impl_ValueMany.f k bt287.1 bt287.2.1 bt287.2.2).bind fun t292 => ((spec_ValueMany.f k bt287.1 bt287.2.1 bt287.2.2).bind fun t293 => (if t292 = t293 then (laws_FnValueMany.j0 k bt287.1 bt287.2.1 bt287.2.2 t292 t293 (decide (t292 < 0))) else (laws_FnValueMany.j0 k bt287.1 bt287.2.1 bt287.2.2 t292 t293 true)))))
set_option maxHeartbeats 8000000 in
set_option maxRecDepth 100000 in
theorem laws_FnValueMany.calls (k : Nat) (A0 : Option Addr) (c0 : Nat) (l0 : List Int) (r : Bool) (w : World) (hr0 : Kd.C (Kd.int .u8) w A0 l0.length l0) (hc0 : l0.length ≤ c0) (h : laws_FnValueMany.f k l0 = some r) :
  Calls Try.prog 14 #[.slice A0 l0.length c0] w fun e w' => e = .returned (.bool r) ∧ Below w.heap.size w w' := by
 have HR0 := Aside0.mk hr0; have HC0 := Aside0.mk hc0; clear hr0 hc0; have HB := Aside0.mk (Below.refl w.heap.size w); have H : (if (l0.length : Int) > 1048576 then (some true) else ((spec_DrawValueMany.f k l0).bind fun bt287 => ((impl_ValueMany.f k bt287.1 bt287.2.1 bt287.2.2).bind fun t292 => ((spec_ValueMany.f k bt287.1 bt287.2.1 bt287.2.2).bind fun t293 => (if t292 = t293 then (laws_FnValueMany.j0 k bt287.1 bt287.2.1 bt287.2.2 t292 t293 (decide (t292 < 0))) else (laws_FnValueMany.j0 k bt287.1 bt287.2.1 bt287.2.2 t292 t293 true)))))) = some r := h; clear h
 by_cases c2 : (l0.length : Int) > 1048576
 ·rw [if_pos c2] at H; have c2b0 : decide (1048576 < (l0.length : Int)) = true := decide_eq_true c2; have c2b1 : decide (1048576 < l0.length) = true := decide_eq_true (by omega); clear c2; obtain rfl := Option.some.inj H
  go_enter Try.func14, Try.ntmps14
  go_wp2; go_ret
  exact ⟨Sqz.auR, Sqz.auHB⟩
 ·rw [if_neg c2] at H; have c2b0 : decide (1048576 < (l0.length : Int)) = false := decide_eq_false c2; have c2b1 : decide (1048576 < l0.length) = false := decide_eq_false (by omega); clear c2; replace H := Option.bind_eq_some_iff.mp H; obtain ⟨⟨t287, t288, t289⟩, A30, H⟩ := H; replace H : ((impl_ValueMany.f k t287 t288 t289).bind fun t292 => ((spec_ValueMany.f k t287 t288 t289).bind fun t293 => (if t292 = t293 then (laws_FnValueMany.j0 k t287 t288 t289 t292 t293 (decide (t292 < 0))) else (laws_FnValueMany.j0 k t287 t288 t289 t292 t293 true)))) = some r := H; have A3 := Aside0.mk A30; clear A30; obtain ⟨t292, A4, H⟩ := Sqz.be H; obtain ⟨t293, A5, H⟩ := Sqz.be H; have HC6 := Aside0.mk H; clear H
  go_enter Try.func14, Try.ntmps14
  go_upto_region 6 with (first | ((with_reducible refine gate_callee (f := 63) rfl ?_); refine goesL_ (some 14) rfl rfl Try.func63 (by kernel_rfl) rfl #[.slice A0 l0.length c0] rfl Sqz.auM ?_; (with_reducible refine (spec_DrawValueMany.calls k _ _ l0 t287 t288 t289 _ ?side1 ?side2 A3.out).mono ?_); (case side1 => exact Sqz.mvC (HR0.out)); (case side2 => exact HC0.out); rintro e w7 ⟨v290, rfl, ho0, hb⟩; refine ⟨_, rfl, ?_⟩; have HO291 := Aside0.mk (Kd.R_lower ho0 (below_size (Sqz.auHB))); replace HB := Aside0.mk (below_step (Sqz.auHB) hb); (try clear hb); (try clear ho0); obtain ⟨Ao8, co8, eo8⟩ := Kd.R_slice HO291.out; subst eo8) | ((with_reducible refine gate_callee (f := 43) rfl ?_); refine goesL_ (some 21) rfl rfl Try.func43 (by kernel_rfl) rfl #[.slice Ao8 t287.length co8, .int .i64 t288, .int .i64 t289] rfl Sqz.auM ?_; (with_reducible refine (impl_ValueMany.calls k _ _ t287 t288 t289 t292 _ ?side1 ?side2 A4.out).mono ?_); (case side1 => exact Sqz.mvC ((Kd.R_reads' HO291.out).2.2)); (case side2 => exact (Kd.R_reads' HO291.out).2.1); rintro e w9 ⟨rfl, hb⟩; refine ⟨_, rfl, ?_⟩; replace HO291 := Aside0.mk (Kd.R_below ((Sqz.mvR HO291.out)) hb); replace HB := Aside0.mk (below_step (Sqz.auHB) hb); (try clear hb)) | ((with_reducible refine gate_callee (f := 64) rfl ?_); refine goesL_ (some 25) rfl rfl Try.func64 (by kernel_rfl) rfl #[.slice Ao8 t287.length co8, .int .i64 t288, .int .i64 t289] rfl Sqz.auM ?_; (with_reducible refine (spec_ValueMany.calls k _ _ t287 t288 t289 t293 _ ?side1 ?side2 A5.out).mono ?_); (case side1 => exact Sqz.mvC ((Kd.R_reads' HO291.out).2.2)); (case side2 => exact (Kd.R_reads' HO291.out).2.1); rintro e w10 ⟨rfl, hb⟩; refine ⟨_, rfl, ?_⟩; replace HO291 := Aside0.mk (Kd.R_below ((Sqz.mvR HO291.out)) hb); replace HB := Aside0.mk (below_step (Sqz.auHB) hb); (try clear hb)))
  (try simp only [Act.put, List.setIfInBounds_toArray, List.set_cons_zero, List.set_cons_succ])
  go_cut [32] (fun v32 wc => ∃ (kq : Nat) (x32_5 : Bool), v32 = .bool x32_5 ∧ Aside0 (laws_FnValueMany.j0 kq t287 t288 t289 t292 t293 x32_5 = some r) ∧ Aside0 (kq ≤ k) ∧ Aside0 (Kd.R (Kd.int .i64) 3 wc w.heap.size (fun _ => True) (.slice Ao8 t287.length co8) t287) ∧ Aside0 (Below w.heap.size w wc))
  case first =>
   have H := HC6.out; clear HC6
   by_cases c11 : t292 = t293
   ·rw [if_pos c11] at H; have c11b0 := beq_iff_eq.mpr c11; have c11b1 := bne_eq_false_iff_eq.mpr c11; clear c11
    (first | rw [c11b0] | (simp only [i64_w, i32_w]; rw [c11b0]) | skip)
    have H' := Aside0.mk H; clear H; go_wp2
    go_meet
    case rel => exact ⟨_, (decide (t292 < 0)), Sqz.auS, H', ⟨Sqz.auN⟩, ⟨(Sqz.mvR HO291.out)⟩, ⟨Sqz.auHB⟩⟩
   ·rw [if_neg c11] at H; have c11b0 := beq_eq_false_iff_ne.mpr c11; have c11b1 := bne_iff_ne.mpr c11
    (first | rw [c11b0] | (simp only [i64_w, i32_w]; rw [c11b0]) | skip)
    have H' := Aside0.mk H; clear H; go_wp2
    go_meet
    case rel => exact ⟨_, (true), Sqz.auS, H', ⟨Sqz.auN⟩, ⟨(Sqz.mvR HO291.out)⟩, ⟨Sqz.auHB⟩⟩
  case rest =>
   clear HC6
   try clear c1
   try clear c2
   try clear c2b0
   try clear c2b1
   try clear p2
   try clear c4
   try clear c6
   try clear c11
   try clear c11b0
   try clear c11b1
   obtain ⟨kq, x32_5, rfl, HA, HJ5, HO_3, HB⟩ := hcut; cases kq with
   | zero => exact absurd HA.out (by simp [laws_FnValueMany.j0])
   | succ kj5 =>
    have H := HA.out; clear HA; simp only [laws_FnValueMany.j0] at H
    by_cases c12 : x32_5 = true
    ·subst c12; have H1 : (some (t292 == t293)) = some r := by rw [if_pos rfl] at H; exact H
     clear H; have H := H1; clear H1; obtain rfl := Option.some.inj H; go_wp2; go_ret
     exact ⟨Sqz.auR, Sqz.auHB⟩
    ·replace c12 := Bool.eq_false_iff.mpr c12; subst c12; have H1 : ((impl_ValueMany.f kj5 t287 t288 (wrap64 (t289 + 1))).bind fun t294 => (if t288 = 0 then (if t289 = 6 then ((impl_ZeroMany.f kj5 t287 t289).bind fun t295 => (some (decide (t292 ≥ (wrap64 ((wrap64 (2 * t295)) + 1)))))) else (if t294 ≥ t292 then ((impl_ZeroMany.f kj5 t287 t289).bind fun t296 => (some (decide (t292 ≥ (wrap64 ((wrap64 (2 * t296)) + 1)))))) else (some false))) else (if t289 = 6 then (if (Int.tmod t292 2) = 0 then (if t292 = 0 then (some true) else ((laws_sizeOf.f t288).bind fun t297 => (if t297 > 30 then (some true) else ((impl_ValueEverywhere.f kj5 t287 t288).bind fun t298 => (some t298))))) else (some false)) else (if t294 ≥ t292 then (if (Int.tmod t292 2) = 0 then (if t292 = 0 then (some true) else ((laws_sizeOf.f t288).bind fun t299 => (if t299 > 30 then (some true) else ((impl_ValueEverywhere.f kj5 t287 t288).bind fun t300 => (some t300))))) else (some false)) else (some false))))) = some r := by rw [if_neg (show ¬ (false = true) by decide)] at H; exact H
     clear H; have H := H1; clear H1; obtain ⟨t294, A13, H⟩ := Sqz.be H
     by_cases c14 : t288 = 0
     ·rw [if_pos c14] at H; have c14b0 := beq_iff_eq.mpr c14; have c14b1 := bne_eq_false_iff_eq.mpr c14; clear c14
      by_cases c15 : t289 = 6
      ·rw [if_pos c15] at H; have c15b0 := beq_iff_eq.mpr c15; have c15b1 := bne_eq_false_iff_eq.mpr c15; clear c15; obtain ⟨t295, A16, H⟩ := Sqz.be H; obtain rfl := Option.some.inj H
       go_wp2_with (first | ((with_reducible refine gate_callee (f := 43) rfl ?_); refine goesL_ (some 40) rfl rfl Try.func43 (by kernel_rfl) rfl #[.slice Ao8 t287.length co8, .int .i64 t288, .int .i64 (wrap64 (t289 + 1))] rfl Sqz.auM ?_; (with_reducible refine (impl_ValueMany.calls kj5 _ _ t287 t288 (wrap64 (t289 + 1)) t294 _ ?side1 ?side2 A13.out).mono ?_); (case side1 => exact Sqz.mvC ((Kd.R_reads' HO_3.out).2.2)); (case side2 => exact (Kd.R_reads' HO_3.out).2.1); rintro e w17 ⟨rfl, hb⟩; refine ⟨_, rfl, ?_⟩; replace HO_3 := Aside0.mk (Kd.R_below ((Sqz.mvR HO_3.out)) hb); replace HB := Aside0.mk (below_step (Sqz.auHB) hb); (try clear hb)) | (go_at_call 65; (with_reducible refine (impl_ZeroMany.calls kj5 _ _ t287 t289 t295 _ ?side1 ?side2 A16.out).mono ?_); (case side1 => exact Sqz.mvC ((Kd.R_reads' HO_3.out).2.2)); (case side2 => exact (Kd.R_reads' HO_3.out).2.1); rintro e w18 ⟨rfl, hb⟩; replace HO_3 := Aside0.mk (Kd.R_below ((Sqz.mvR HO_3.out)) hb); replace HB := Aside0.mk (below_step (Sqz.auHB) hb); (try clear hb)))
       go_ret
       exact ⟨Sqz.auR, Sqz.auHB⟩
      ·rw [if_neg c15] at H; have c15b0 := beq_eq_false_iff_ne.mpr c15; have c15b1 := bne_iff_ne.mpr c15
       by_cases c19 : t294 ≥ t292
       ·rw [if_pos c19] at H; have c19b0 : decide (t292 ≤ t294) = true := decide_eq_true c19; clear c19; obtain ⟨t296, A20, H⟩ := Sqz.be H; obtain rfl := Option.some.inj H
        go_wp2_with (first | ((with_reducible refine gate_callee (f := 43) rfl ?_); refine goesL_ (some 40) rfl rfl Try.func43 (by kernel_rfl) rfl #[.slice Ao8 t287.length co8, .int .i64 t288, .int .i64 (wrap64 (t289 + 1))] rfl Sqz.auM ?_; (with_reducible refine (impl_ValueMany.calls kj5 _ _ t287 t288 (wrap64 (t289 + 1)) t294 _ ?side1 ?side2 A13.out).mono ?_); (case side1 => exact Sqz.mvC ((Kd.R_reads' HO_3.out).2.2)); (case side2 => exact (Kd.R_reads' HO_3.out).2.1); rintro e w21 ⟨rfl, hb⟩; refine ⟨_, rfl, ?_⟩; replace HO_3 := Aside0.mk (Kd.R_below ((Sqz.mvR HO_3.out)) hb); replace HB := Aside0.mk (below_step (Sqz.auHB) hb); (try clear hb)) | (go_at_call 65; (with_reducible refine (impl_ZeroMany.calls kj5 _ _ t287 t289 t296 _ ?side1 ?side2 A20.out).mono ?_); (case side1 => exact Sqz.mvC ((Kd.R_reads' HO_3.out).2.2)); (case side2 => exact (Kd.R_reads' HO_3.out).2.1); rintro e w22 ⟨rfl, hb⟩; replace HO_3 := Aside0.mk (Kd.R_below ((Sqz.mvR HO_3.out)) hb); replace HB := Aside0.mk (below_step (Sqz.auHB) hb); (try clear hb)))
        go_ret
        exact ⟨Sqz.auR, Sqz.auHB⟩
       ·rw [if_neg c19] at H; have c19b0 : decide (t292 ≤ t294) = false := decide_eq_false c19; clear c19; obtain rfl := Option.some.inj H
        go_wp2_with (first | ((with_reducible refine gate_callee (f := 43) rfl ?_); refine goesL_ (some 40) rfl rfl Try.func43 (by kernel_rfl) rfl #[.slice Ao8 t287.length co8, .int .i64 t288, .int .i64 (wrap64 (t289 + 1))] rfl Sqz.auM ?_; (with_reducible refine (impl_ValueMany.calls kj5 _ _ t287 t288 (wrap64 (t289 + 1)) t294 _ ?side1 ?side2 A13.out).mono ?_); (case side1 => exact Sqz.mvC ((Kd.R_reads' HO_3.out).2.2)); (case side2 => exact (Kd.R_reads' HO_3.out).2.1); rintro e w23 ⟨rfl, hb⟩; refine ⟨_, rfl, ?_⟩; replace HO_3 := Aside0.mk (Kd.R_below ((Sqz.mvR HO_3.out)) hb); replace HB := Aside0.mk (below_step (Sqz.auHB) hb); (try clear hb)))
        go_ret
        exact ⟨Sqz.auR, Sqz.auHB⟩
     ·rw [if_neg c14] at H; have c14b0 := beq_eq_false_iff_ne.mpr c14; have c14b1 := bne_iff_ne.mpr c14
      by_cases c24 : t289 = 6
      ·rw [if_pos c24] at H; have c24b0 := beq_iff_eq.mpr c24; have c24b1 := bne_eq_false_iff_eq.mpr c24; clear c24
       by_cases c25 : (Int.tmod t292 2) = 0
       ·rw [if_pos c25] at H; have c25b0 := beq_iff_eq.mpr c25; have c25b1 := bne_eq_false_iff_eq.mpr c25; clear c25
        by_cases c26 : t292 = 0
        ·rw [if_pos c26] at H; have c26b0 := beq_iff_eq.mpr c26; have c26b1 := bne_eq_false_iff_eq.mpr c26; clear c26; obtain rfl := Option.some.inj H
         go_wp2_with (first | ((with_reducible refine gate_callee (f := 43) rfl ?_); refine goesL_ (some 40) rfl rfl Try.func43 (by kernel_rfl) rfl #[.slice Ao8 t287.length co8, .int .i64 t288, .int .i64 (wrap64 (t289 + 1))] rfl Sqz.auM ?_; (with_reducible refine (impl_ValueMany.calls kj5 _ _ t287 t288 (wrap64 (t289 + 1)) t294 _ ?side1 ?side2 A13.out).mono ?_); (case side1 => exact Sqz.mvC ((Kd.R_reads' HO_3.out).2.2)); (case side2 => exact (Kd.R_reads' HO_3.out).2.1); rintro e w27 ⟨rfl, hb⟩; refine ⟨_, rfl, ?_⟩; replace HO_3 := Aside0.mk (Kd.R_below ((Sqz.mvR HO_3.out)) hb); replace HB := Aside0.mk (below_step (Sqz.auHB) hb); (try clear hb)))
         go_ret
         exact ⟨Sqz.auR, Sqz.auHB⟩
        ·rw [if_neg c26] at H; have c26b0 := beq_eq_false_iff_ne.mpr c26; have c26b1 := bne_iff_ne.mpr c26; obtain ⟨t297, A28, H⟩ := Sqz.be H
         by_cases c29 : t297 > 30
         ·rw [if_pos c29] at H; have c29b0 : decide (30 < t297) = true := decide_eq_true c29; clear c29; obtain rfl := Option.some.inj H
          go_wp2_with (first | ((with_reducible refine gate_callee (f := 43) rfl ?_); refine goesL_ (some 40) rfl rfl Try.func43 (by kernel_rfl) rfl #[.slice Ao8 t287.length co8, .int .i64 t288, .int .i64 (wrap64 (t289 + 1))] rfl Sqz.auM ?_; (with_reducible refine (impl_ValueMany.calls kj5 _ _ t287 t288 (wrap64 (t289 + 1)) t294 _ ?side1 ?side2 A13.out).mono ?_); (case side1 => exact Sqz.mvC ((Kd.R_reads' HO_3.out).2.2)); (case side2 => exact (Kd.R_reads' HO_3.out).2.1); rintro e w30 ⟨rfl, hb⟩; refine ⟨_, rfl, ?_⟩; replace HO_3 := Aside0.mk (Kd.R_below ((Sqz.mvR HO_3.out)) hb); replace HB := Aside0.mk (below_step (Sqz.auHB) hb); (try clear hb)) | (go_at_call 29; (with_reducible refine (laws_sizeOf.calls t288 t297 _ A28.out).mono ?_); rintro e w31 ⟨rfl, hb⟩; replace HO_3 := Aside0.mk (Kd.R_below ((Sqz.mvR HO_3.out)) hb); replace HB := Aside0.mk (below_step (Sqz.auHB) hb); (try clear hb)))
          go_ret
          exact ⟨Sqz.auR, Sqz.auHB⟩
         ·rw [if_neg c29] at H; have c29b0 : decide (30 < t297) = false := decide_eq_false c29; clear c29; obtain ⟨t298, A32, H⟩ := Sqz.be H; obtain rfl := Option.some.inj H
          go_wp2_with (first | ((with_reducible refine gate_callee (f := 43) rfl ?_); refine goesL_ (some 40) rfl rfl Try.func43 (by kernel_rfl) rfl #[.slice Ao8 t287.length co8, .int .i64 t288, .int .i64 (wrap64 (t289 + 1))] rfl Sqz.auM ?_; (with_reducible refine (impl_ValueMany.calls kj5 _ _ t287 t288 (wrap64 (t289 + 1)) t294 _ ?side1 ?side2 A13.out).mono ?_); (case side1 => exact Sqz.mvC ((Kd.R_reads' HO_3.out).2.2)); (case side2 => exact (Kd.R_reads' HO_3.out).2.1); rintro e w33 ⟨rfl, hb⟩; refine ⟨_, rfl, ?_⟩; replace HO_3 := Aside0.mk (Kd.R_below ((Sqz.mvR HO_3.out)) hb); replace HB := Aside0.mk (below_step (Sqz.auHB) hb); (try clear hb)) | (go_at_call 29; (with_reducible refine (laws_sizeOf.calls t288 t297 _ A28.out).mono ?_); rintro e w34 ⟨rfl, hb⟩; replace HO_3 := Aside0.mk (Kd.R_below ((Sqz.mvR HO_3.out)) hb); replace HB := Aside0.mk (below_step (Sqz.auHB) hb); (try clear hb)) | (go_at_call 45; (with_reducible refine (impl_ValueEverywhere.calls kj5 _ _ t287 t288 t298 _ ?side1 ?side2 A32.out).mono ?_); (case side1 => exact Sqz.mvC ((Kd.R_reads' HO_3.out).2.2)); (case side2 => exact (Kd.R_reads' HO_3.out).2.1); rintro e w35 ⟨rfl, hb⟩; replace HO_3 := Aside0.mk (Kd.R_below ((Sqz.mvR HO_3.out)) hb); replace HB := Aside0.mk (below_step (Sqz.auHB) hb); (try clear hb)))
          go_ret
          exact ⟨Sqz.auR, Sqz.auHB⟩
       ·rw [if_neg c25] at H; have c25b0 := beq_eq_false_iff_ne.mpr c25; have c25b1 := bne_iff_ne.mpr c25; obtain rfl := Option.some.inj H
        go_wp2_with (first | ((with_reducible refine gate_callee (f := 43) rfl ?_); refine goesL_ (some 40) rfl rfl Try.func43 (by kernel_rfl) rfl #[.slice Ao8 t287.length co8, .int .i64 t288, .int .i64 (wrap64 (t289 + 1))] rfl Sqz.auM ?_; (with_reducible refine (impl_ValueMany.calls kj5 _ _ t287 t288 (wrap64 (t289 + 1)) t294 _ ?side1 ?side2 A13.out).mono ?_); (case side1 => exact Sqz.mvC ((Kd.R_reads' HO_3.out).2.2)); (case side2 => exact (Kd.R_reads' HO_3.out).2.1); rintro e w36 ⟨rfl, hb⟩; refine ⟨_, rfl, ?_⟩; replace HO_3 := Aside0.mk (Kd.R_below ((Sqz.mvR HO_3.out)) hb); replace HB := Aside0.mk (below_step (Sqz.auHB) hb); (try clear hb)))
        go_ret
        exact ⟨Sqz.auR, Sqz.auHB⟩
      ·rw [if_neg c24] at H; have c24b0 := beq_eq_false_iff_ne.mpr c24; have c24b1 := bne_iff_ne.mpr c24
       by_cases c37 : t294 ≥ t292
       ·rw [if_pos c37] at H; have c37b0 : decide (t292 ≤ t294) = true := decide_eq_true c37; clear c37
        by_cases c38 : (Int.tmod t292 2) = 0
        ·rw [if_pos c38] at H; have c38b0 := beq_iff_eq.mpr c38; have c38b1 := bne_eq_false_iff_eq.mpr c38; clear c38
         by_cases c39 : t292 = 0
         ·rw [if_pos c39] at H; have c39b0 := beq_iff_eq.mpr c39; have c39b1 := bne_eq_false_iff_eq.mpr c39; clear c39; obtain rfl := Option.some.inj H
          go_wp2_with (first | ((with_reducible refine gate_callee (f := 43) rfl ?_); refine goesL_ (some 40) rfl rfl Try.func43 (by kernel_rfl) rfl #[.slice Ao8 t287.length co8, .int .i64 t288, .int .i64 (wrap64 (t289 + 1))] rfl Sqz.auM ?_; (with_reducible refine (impl_ValueMany.calls kj5 _ _ t287 t288 (wrap64 (t289 + 1)) t294 _ ?side1 ?side2 A13.out).mono ?_); (case side1 => exact Sqz.mvC ((Kd.R_reads' HO_3.out).2.2)); (case side2 => exact (Kd.R_reads' HO_3.out).2.1); rintro e w40 ⟨rfl, hb⟩; refine ⟨_, rfl, ?_⟩; replace HO_3 := Aside0.mk (Kd.R_below ((Sqz.mvR HO_3.out)) hb); replace HB := Aside0.mk (below_step (Sqz.auHB) hb); (try clear hb)))
          go_ret
          exact ⟨Sqz.auR, Sqz.auHB⟩
         ·rw [if_neg c39] at H; have c39b0 := beq_eq_false_iff_ne.mpr c39; have c39b1 := bne_iff_ne.mpr c39; obtain ⟨t299, A41, H⟩ := Sqz.be H
          by_cases c42 : t299 > 30
          ·rw [if_pos c42] at H; have c42b0 : decide (30 < t299) = true := decide_eq_true c42; clear c42; obtain rfl := Option.some.inj H
           go_wp2_with (first | ((with_reducible refine gate_callee (f := 43) rfl ?_); refine goesL_ (some 40) rfl rfl Try.func43 (by kernel_rfl) rfl #[.slice Ao8 t287.length co8, .int .i64 t288, .int .i64 (wrap64 (t289 + 1))] rfl Sqz.auM ?_; (with_reducible refine (impl_ValueMany.calls kj5 _ _ t287 t288 (wrap64 (t289 + 1)) t294 _ ?side1 ?side2 A13.out).mono ?_); (case side1 => exact Sqz.mvC ((Kd.R_reads' HO_3.out).2.2)); (case side2 => exact (Kd.R_reads' HO_3.out).2.1); rintro e w43 ⟨rfl, hb⟩; refine ⟨_, rfl, ?_⟩; replace HO_3 := Aside0.mk (Kd.R_below ((Sqz.mvR HO_3.out)) hb); replace HB := Aside0.mk (below_step (Sqz.auHB) hb); (try clear hb)) | (go_at_call 29; (with_reducible refine (laws_sizeOf.calls t288 t299 _ A41.out).mono ?_); rintro e w44 ⟨rfl, hb⟩; replace HO_3 := Aside0.mk (Kd.R_below ((Sqz.mvR HO_3.out)) hb); replace HB := Aside0.mk (below_step (Sqz.auHB) hb); (try clear hb)))
           go_ret
           exact ⟨Sqz.auR, Sqz.auHB⟩
          ·rw [if_neg c42] at H; have c42b0 : decide (30 < t299) = false := decide_eq_false c42; clear c42; obtain ⟨t300, A45, H⟩ := Sqz.be H; obtain rfl := Option.some.inj H
           go_wp2_with (first | ((with_reducible refine gate_callee (f := 43) rfl ?_); refine goesL_ (some 40) rfl rfl Try.func43 (by kernel_rfl) rfl #[.slice Ao8 t287.length co8, .int .i64 t288, .int .i64 (wrap64 (t289 + 1))] rfl Sqz.auM ?_; (with_reducible refine (impl_ValueMany.calls kj5 _ _ t287 t288 (wrap64 (t289 + 1)) t294 _ ?side1 ?side2 A13.out).mono ?_); (case side1 => exact Sqz.mvC ((Kd.R_reads' HO_3.out).2.2)); (case side2 => exact (Kd.R_reads' HO_3.out).2.1); rintro e w46 ⟨rfl, hb⟩; refine ⟨_, rfl, ?_⟩; replace HO_3 := Aside0.mk (Kd.R_below ((Sqz.mvR HO_3.out)) hb); replace HB := Aside0.mk (below_step (Sqz.auHB) hb); (try clear hb)) | (go_at_call 29; (with_reducible refine (laws_sizeOf.calls t288 t299 _ A41.out).mono ?_); rintro e w47 ⟨rfl, hb⟩; replace HO_3 := Aside0.mk (Kd.R_below ((Sqz.mvR HO_3.out)) hb); replace HB := Aside0.mk (below_step (Sqz.auHB) hb); (try clear hb)) | (go_at_call 45; (with_reducible refine (impl_ValueEverywhere.calls kj5 _ _ t287 t288 t300 _ ?side1 ?side2 A45.out).mono ?_); (case side1 => exact Sqz.mvC ((Kd.R_reads' HO_3.out).2.2)); (case side2 => exact (Kd.R_reads' HO_3.out).2.1); rintro e w48 ⟨rfl, hb⟩; replace HO_3 := Aside0.mk (Kd.R_below ((Sqz.mvR HO_3.out)) hb); replace HB := Aside0.mk (below_step (Sqz.auHB) hb); (try clear hb)))
           go_ret
           exact ⟨Sqz.auR, Sqz.auHB⟩
        ·rw [if_neg c38] at H; have c38b0 := beq_eq_false_iff_ne.mpr c38; have c38b1 := bne_iff_ne.mpr c38; obtain rfl := Option.some.inj H
         go_wp2_with (first | ((with_reducible refine gate_callee (f := 43) rfl ?_); refine goesL_ (some 40) rfl rfl Try.func43 (by kernel_rfl) rfl #[.slice Ao8 t287.length co8, .int .i64 t288, .int .i64 (wrap64 (t289 + 1))] rfl Sqz.auM ?_; (with_reducible refine (impl_ValueMany.calls kj5 _ _ t287 t288 (wrap64 (t289 + 1)) t294 _ ?side1 ?side2 A13.out).mono ?_); (case side1 => exact Sqz.mvC ((Kd.R_reads' HO_3.out).2.2)); (case side2 => exact (Kd.R_reads' HO_3.out).2.1); rintro e w49 ⟨rfl, hb⟩; refine ⟨_, rfl, ?_⟩; replace HO_3 := Aside0.mk (Kd.R_below ((Sqz.mvR HO_3.out)) hb); replace HB := Aside0.mk (below_step (Sqz.auHB) hb); (try clear hb)))
         go_ret
         exact ⟨Sqz.auR, Sqz.auHB⟩
       ·rw [if_neg c37] at H; have c37b0 : decide (t292 ≤ t294) = false := decide_eq_false c37; clear c37; obtain rfl := Option.some.inj H
        go_wp2_with (first | ((with_reducible refine gate_callee (f := 43) rfl ?_); refine goesL_ (some 40) rfl rfl Try.func43 (by kernel_rfl) rfl #[.slice Ao8 t287.length co8, .int .i64 t288, .int .i64 (wrap64 (t289 + 1))] rfl Sqz.auM ?_; (with_reducible refine (impl_ValueMany.calls kj5 _ _ t287 t288 (wrap64 (t289 + 1)) t294 _ ?side1 ?side2 A13.out).mono ?_); (case side1 => exact Sqz.mvC ((Kd.R_reads' HO_3.out).2.2)); (case side2 => exact (Kd.R_reads' HO_3.out).2.1); rintro e w50 ⟨rfl, hb⟩; refine ⟨_, rfl, ?_⟩; replace HO_3 := Aside0.mk (Kd.R_below ((Sqz.mvR HO_3.out)) hb); replace HB := Aside0.mk (below_step (Sqz.auHB) hb); (try clear hb)))
        go_ret
        exact ⟨Sqz.auR, Sqz.auHB⟩

/-- THE ONE PURE STATEMENT of laws_FnValueMany: yours. -/
def laws_FnValueMany.Pure : Prop := ∀ (l0 : List Int), l0.length ≤ maxLen → l0.length * 1 ≤ 140737488351232 → (∀ x ∈ l0, (Lit.int .u8 x).wf = true) → ∃ k, laws_FnValueMany.f k l0 = some true
theorem laws_FnValueMany.walk (P : laws_FnValueMany.Pure) (a0 : Option Addr) (len0 cap0 : Nat) (z0 : List Int) (w : World) (w0 : (a0 = none ∧ len0 = 0 ∧ cap0 = 0 ∧ z0 = []) ∨ ∃ x, a0 = some x ∧ len0 ≤ cap0 ∧ cap0 ≤ maxLen ∧ z0.length = cap0 ∧ (∀ i, i < z0.length → w.cell? (x.add i) = some (.int .u8 (z0.getD i 0))) ∧ ∀ n ∈ z0, (Lit.int .u8 n).wf = true) (y0 : len0 * 1 ≤ 140737488351232) :
  Calls Try.prog 14 #[.slice a0 len0 cap0] w fun e w' => e = .returned (.bool true) ∧ Below w.heap.size w w' := by
 obtain ⟨l0, rfl, hr0, hm0, hw0, hc0⟩ := ReadsInt.ofRowC w0; obtain ⟨k, h⟩ := P l0 hm0 y0 hw0; refine (laws_FnValueMany.calls k _ _ l0 true w (Kd.C_of_reads (d := (0 : Int)) (h1 := fun _ => rfl) hr0) hc0 h).mono ?_; rintro e w' ⟨rfl, hd⟩; exact ⟨rfl, hd⟩

end Go.Proofs.Ytihadpckmcebgaa.PFnValueMany
