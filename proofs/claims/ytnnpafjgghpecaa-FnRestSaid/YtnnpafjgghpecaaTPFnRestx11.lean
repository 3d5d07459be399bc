/- A function's Lean twin and its walk, written by a program of this session. -/
import Derived.Test.YtnnpafjgghpecaaTPFnRestx0
import Derived.Test.YtnnpafjgghpecaaTPFnRestx2
import Derived.Test.YtnnpafjgghpecaaTPFnRestx3
import Derived.Test.YtnnpafjgghpecaaTPFnRestx4
import Derived.Test.YtnnpafjgghpecaaTPFnRestx5
import Derived.Test.YtnnpafjgghpecaaTPFnRestx6
import Derived.Test.YtnnpafjgghpecaaTPFnRestx7
import Derived.Test.YtnnpafjgghpecaaTPFnRestx10
namespace Go.Proofs.Ytnnpafjgghpecaa.PFnRest
open Go.RowKit Go.Proofs.YtnnpafjgghpecaaW.PrintWords Go.Proofs.YtnnpafjgghpecaaW.PrintLast Go.Proofs.YtnnpafjgghpecaaW.PrintMore
attribute [local go_sem] max2_int min2_int max_two min_two max_three min_three max_four min_four   -- for this text's walks alone
set_option linter.unusedVariables false
set_option linter.unusedSimpArgs false

/-! ### impl_ZeroFind: function 29 -/
section
open Locg
def impl_ZeroFind.f (k : Nat) (l0 : List Int) : Option (List Int × Bool) := impl_ZeroFindG.f (impl_zeroOfFour.f) k l0
theorem impl_ZeroFind.calls (k : Nat) (A0 : Option Addr) (c0 : Nat) (l0 : List Int) (r1 : List Int) (r2 : Bool) (w : World) (hr0 : Kd.C (Kd.int .i64) w A0 l0.length l0) (hc0 : l0.length ≤ c0) (h : impl_ZeroFind.f k l0 = some (r1, r2)) :
  Calls Try.prog 29 #[.slice A0 l0.length c0] w fun e w' => ∃ v0_ : Value, e = .returned (.tuple #[v0_, .bool r2]) ∧ Kd.R (Kd.int .i64) 3 w' w.heap.size (fun _ => True) v0_ r1 ∧ Below w.heap.size w w' := impl_ZeroFindG.calls (impl_zeroOfFour.f) (impl_zeroOfFour.calls) k A0 c0 l0 r1 r2 w hr0 hc0 h

end

/-! ### impl_alike: function 58 -/
def impl_alike.f (k : Nat) (l0 : List Int) (l1 : List Int) (a2 : Int) : Option (Bool) := if a2 = 0 then ((impl_lessTerms.f k l0).bind fun t406 => ((impl_lessTerms.f k l1).bind fun t407 => (some (t406 == t407)))) else ((impl_product.f k l0).bind fun t408 => ((impl_product.f k l1).bind fun t409 => ((impl_localSquare.f k (wrap64 (t408 * t409)) a2).bind fun t410 => (if t410 = true then ((impl_invariant.f k l0 a2).bind fun t411 => ((impl_invariant.f k l1 a2).bind fun t412 => (some (t411 == t412)))) else (some false)))))
set_option maxHeartbeats 8000000 in
set_option maxRecDepth 100000 in
theorem impl_alike.calls (k : Nat) (A0 : Option Addr) (c0 : Nat) (l0 : List Int) (A1 : Option Addr) (c1 : Nat) (l1 : List Int) (a2 : Int) (r : Bool) (w : World) (hr0 : Kd.C (Kd.int .i64) w A0 l0.length l0) (hc0 : l0.length ≤ c0) (hr1 : Kd.C (Kd.int .i64) w A1 l1.length l1) (hc1 : l1.length ≤ c1) (h : impl_alike.f k l0 l1 a2 = some r) :
  Calls Try.prog 58 #[.slice A0 l0.length c0, .slice A1 l1.length c1, .int .i64 a2] w fun e w' => e = .returned (.bool r) ∧ Drawn0 w w' := by
 have HR0 := Aside0.mk hr0; have HC0 := Aside0.mk hc0; clear hr0 hc0; have HR1 := Aside0.mk hr1; have HC1 := Aside0.mk hc1; clear hr1 hc1; have H : (if a2 = 0 then ((impl_lessTerms.f k l0).bind fun t406 => ((impl_lessTerms.f k l1).bind fun t407 => (some (t406 == t407)))) else ((impl_product.f k l0).bind fun t408 => ((impl_product.f k l1).bind fun t409 => ((impl_localSquare.f k (wrap64 (t408 * t409)) a2).bind fun t410 => (if t410 = true then ((impl_invariant.f k l0 a2).bind fun t411 => ((impl_invariant.f k l1 a2).bind fun t412 => (some (t411 == t412)))) else (some false)))))) = some r := h; clear h
 by_cases c4 : a2 = 0
 ·rw [if_pos c4] at H; have c4b0 := beq_iff_eq.mpr c4; have c4b1 := bne_eq_false_iff_eq.mpr c4; clear c4; obtain ⟨t406, A5, H⟩ := Sqz.be H; obtain ⟨t407, A6, H⟩ := Sqz.be H; obtain rfl := Option.some.inj H
  go_enter Try.func58, Try.ntmps58
  go_wp2_with (first | ((with_reducible refine gate_callee (f := 83) rfl ?_); refine goesL_ (some 10) rfl rfl Try.func83 (by kernel_rfl) rfl #[.slice A0 l0.length c0] rfl Sqz.auM ?_; (with_reducible refine (impl_lessTerms.calls k _ _ l0 t406 _ ?side1 ?side2 A5.out).mono ?_); (case side1 => exact Sqz.mvC (HR0.out)); (case side2 => exact HC0.out); rintro e w' ⟨rfl, ⟨nd, rfl⟩⟩; refine ⟨_, rfl, ?_⟩) | ((with_reducible refine gate_callee (f := 83) rfl ?_); refine goesL_ (some 12) rfl rfl Try.func83 (by kernel_rfl) rfl #[.slice A1 l1.length c1] rfl Sqz.auM ?_; (with_reducible refine (impl_lessTerms.calls k _ _ l1 t407 _ ?side1 ?side2 A6.out).mono ?_); (case side1 => exact Sqz.mvC (HR1.out)); (case side2 => exact HC1.out); rintro e w' ⟨rfl, ⟨nd, rfl⟩⟩; refine ⟨_, rfl, ?_⟩))
  go_ret
  exact ⟨Sqz.auS, by repeat (first | exact Drawn0.refl _ | apply Drawn0.step)⟩
 ·rw [if_neg c4] at H; have c4b0 := beq_eq_false_iff_ne.mpr c4; have c4b1 := bne_iff_ne.mpr c4; obtain ⟨t408, A7, H⟩ := Sqz.be H; obtain ⟨t409, A8, H⟩ := Sqz.be H; obtain ⟨t410, A9, H⟩ := Sqz.be H
  by_cases c10 : t410 = true
  ·subst c10; have H1 : ((impl_invariant.f k l0 a2).bind fun t411 => ((impl_invariant.f k l1 a2).bind fun t412 => (some (t411 == t412)))) = some r := by rw [if_pos rfl] at H; exact H
   clear H; have H := H1; clear H1; obtain ⟨t411, A11, H⟩ := Sqz.be H; obtain ⟨t412, A12, H⟩ := Sqz.be H; obtain rfl := Option.some.inj H
   go_enter Try.func58, Try.ntmps58
   go_wp2_with (first | ((with_reducible refine gate_callee (f := 75) rfl ?_); refine goesL_ (some 15) rfl rfl Try.func75 (by kernel_rfl) rfl #[.slice A0 l0.length c0] rfl Sqz.auM ?_; (with_reducible refine (impl_product.calls k _ _ l0 t408 _ ?side1 ?side2 A7.out).mono ?_); (case side1 => exact Sqz.mvC (HR0.out)); (case side2 => exact HC0.out); rintro e w' ⟨rfl, ⟨nd, rfl⟩⟩; refine ⟨_, rfl, ?_⟩) | ((with_reducible refine gate_callee (f := 75) rfl ?_); refine goesL_ (some 17) rfl rfl Try.func75 (by kernel_rfl) rfl #[.slice A1 l1.length c1] rfl Sqz.auM ?_; (with_reducible refine (impl_product.calls k _ _ l1 t409 _ ?side1 ?side2 A8.out).mono ?_); (case side1 => exact Sqz.mvC (HR1.out)); (case side2 => exact HC1.out); rintro e w' ⟨rfl, ⟨nd, rfl⟩⟩; refine ⟨_, rfl, ?_⟩) | ((with_reducible refine gate_callee (f := 84) rfl ?_); refine goesL_ (some 20) rfl rfl Try.func84 (by kernel_rfl) rfl #[.int .i64 (wrap64 (t408 * t409)), .int .i64 a2] rfl Sqz.auM ?_; (with_reducible refine (impl_localSquare.calls k (wrap64 (t408 * t409)) a2 true _ A9.out).mono ?_); rintro e w' ⟨rfl, ⟨nd, rfl⟩⟩; refine ⟨_, rfl, ?_⟩) | (go_at_call 85; (with_reducible refine (impl_invariant.calls k _ _ l0 a2 t411 _ ?side1 ?side2 A11.out).mono ?_); (case side1 => exact Sqz.mvC (HR0.out)); (case side2 => exact HC0.out); rintro e w' ⟨rfl, ⟨nd, rfl⟩⟩) | (go_at_call 85; (with_reducible refine (impl_invariant.calls k _ _ l1 a2 t412 _ ?side1 ?side2 A12.out).mono ?_); (case side1 => exact Sqz.mvC (HR1.out)); (case side2 => exact HC1.out); rintro e w' ⟨rfl, ⟨nd, rfl⟩⟩))
   go_ret
   exact ⟨Sqz.auS, by repeat (first | exact Drawn0.refl _ | apply Drawn0.step)⟩
  ·replace c10 := Bool.eq_false_iff.mpr c10; subst c10; have H1 : (some false) = some r := by rw [if_neg (show ¬ (false = true) by decide)] at H; exact H
   clear H; have H := H1; clear H1; obtain rfl := Option.some.inj H
   go_enter Try.func58, Try.ntmps58
   go_wp2_with (first | ((with_reducible refine gate_callee (f := 75) rfl ?_); refine goesL_ (some 15) rfl rfl Try.func75 (by kernel_rfl) rfl #[.slice A0 l0.length c0] rfl Sqz.auM ?_; (with_reducible refine (impl_product.calls k _ _ l0 t408 _ ?side1 ?side2 A7.out).mono ?_); (case side1 => exact Sqz.mvC (HR0.out)); (case side2 => exact HC0.out); rintro e w' ⟨rfl, ⟨nd, rfl⟩⟩; refine ⟨_, rfl, ?_⟩) | ((with_reducible refine gate_callee (f := 75) rfl ?_); refine goesL_ (some 17) rfl rfl Try.func75 (by kernel_rfl) rfl #[.slice A1 l1.length c1] rfl Sqz.auM ?_; (with_reducible refine (impl_product.calls k _ _ l1 t409 _ ?side1 ?side2 A8.out).mono ?_); (case side1 => exact Sqz.mvC (HR1.out)); (case side2 => exact HC1.out); rintro e w' ⟨rfl, ⟨nd, rfl⟩⟩; refine ⟨_, rfl, ?_⟩) | ((with_reducible refine gate_callee (f := 84) rfl ?_); refine goesL_ (some 20) rfl rfl Try.func84 (by kernel_rfl) rfl #[.int .i64 (wrap64 (t408 * t409)), .int .i64 a2] rfl Sqz.auM ?_; (with_reducible refine (impl_localSquare.calls k (wrap64 (t408 * t409)) a2 false _ A9.out).mono ?_); rintro e w' ⟨rfl, ⟨nd, rfl⟩⟩; refine ⟨_, rfl, ?_⟩))
   go_ret
   exact ⟨Sqz.auS, by repeat (first | exact Drawn0.refl _ | apply Drawn0.step)⟩

/-! ### impl_FormSame: function 30 -/
mutual
def impl_FormSame.j0 : Nat → List Int → List Int → Bool → Option (Bool)
 | 0, _, _, _ => none
 | k + 1, x0, x1, x28 => if x28 = true then (some false) else ((slices_Clone_int_int.f x0).bind fun t417 => (if t417.length + x1.length < 17592186044416 then ((impl_placesOf.f k (t417 ++ x1)).bind fun t423 => (impl_FormSame.l0 k x0 x1 t423 (t423.length : Int) 0)) else (none)))
def impl_FormSame.l0 : Nat → List Int → List Int → List Int → Int → Int → Option (Bool)
 | 0, _, _, _, _, _ => none
 | k + 1, x0, x1, x33, x34, x35 => if x35 < x34 then (if 0 ≤ x35 then (if x35 < (x33.length : Int) then ((impl_alike.f k x0 x1 (rd x33 x35)).bind fun t427 => (if t427 = true then (impl_FormSame.l0 k x0 x1 x33 x34 (wrap64 (x35 + 1))) else (some false))) else (none)) else (none)) else (some true)
end
def impl_FormSame.f (k : Nat) (l0 : List Int) (l1 : List Int) : Option (Bool) := (impl_FormValid.f k l0).bind fun t413 => (if t413 = true then ((impl_FormValid.f k l1).bind fun t414 => (if t414 = true then (if (l0.length : Int) = (l1.length : Int) then ((impl_FormDisc.f k l0).bind fun t415 => ((impl_FormDisc.f k l1).bind fun t416 => (impl_FormSame.j0 k l0 l1 (t415 != t416)))) else (impl_FormSame.j0 k l0 l1 true)) else (impl_FormSame.j0 k l0 l1 true))) else (impl_FormSame.j0 k l0 l1 true))
set_option maxHeartbeats 8000000 in
set_option maxRecDepth 100000 in
theorem impl_FormSame.calls (k : Nat) (A0 : Option Addr) (c0 : Nat) (l0 : List Int) (A1 : Option Addr) (c1 : Nat) (l1 : List Int) (r : Bool) (w : World) (hr0 : Kd.C (Kd.int .i64) w A0 l0.length l0) (hc0 : l0.length ≤ c0) (hr1 : Kd.C (Kd.int .i64) w A1 l1.length l1) (hc1 : l1.length ≤ c1) (h : impl_FormSame.f k l0 l1 = some r) :
  Calls Try.prog 30 #[.slice A0 l0.length c0, .slice A1 l1.length c1] w fun e w' => e = .returned (.bool r) ∧ Below w.heap.size w w' := by
 have HR0 := Aside0.mk hr0; have HC0 := Aside0.mk hc0; clear hr0 hc0; have HR1 := Aside0.mk hr1; have HC1 := Aside0.mk hc1; clear hr1 hc1; have HB := Aside0.mk (Below.refl w.heap.size w); have H : ((impl_FormValid.f k l0).bind fun t413 => (if t413 = true then ((impl_FormValid.f k l1).bind fun t414 => (if t414 = true then (if (l0.length : Int) = (l1.length : Int) then ((impl_FormDisc.f k l0).bind fun t415 => ((impl_FormDisc.f k l1).bind fun t416 => (impl_FormSame.j0 k l0 l1 (t415 != t416)))) else (impl_FormSame.j0 k l0 l1 true)) else (impl_FormSame.j0 k l0 l1 true))) else (impl_FormSame.j0 k l0 l1 true))) = some r := h; clear h; have HC3 := Aside0.mk H; clear H
 go_enter Try.func30, Try.ntmps30
 go_upto_region 1 with (fail)
 go_cut [28] (fun v28 wc => ∃ (kq : Nat) (x28_2 : Bool), v28 = .bool x28_2 ∧ Aside0 (impl_FormSame.j0 kq l0 l1 x28_2 = some r) ∧ Aside0 (kq ≤ k) ∧ Aside0 (Below w.heap.size w wc))
 case first =>
  have H := HC3.out; clear HC3; obtain ⟨t413, A4, H⟩ := Sqz.be H
  by_cases c5 : t413 = true
  ·subst c5; have H1 : ((impl_FormValid.f k l1).bind fun t414 => (if t414 = true then (if (l0.length : Int) = (l1.length : Int) then ((impl_FormDisc.f k l0).bind fun t415 => ((impl_FormDisc.f k l1).bind fun t416 => (impl_FormSame.j0 k l0 l1 (t415 != t416)))) else (impl_FormSame.j0 k l0 l1 true)) else (impl_FormSame.j0 k l0 l1 true))) = some r := by rw [if_pos rfl] at H; exact H
   clear H; have H := H1; clear H1; obtain ⟨t414, A6, H⟩ := Sqz.be H
   by_cases c7 : t414 = true
   ·subst c7; have H1 : (if (l0.length : Int) = (l1.length : Int) then ((impl_FormDisc.f k l0).bind fun t415 => ((impl_FormDisc.f k l1).bind fun t416 => (impl_FormSame.j0 k l0 l1 (t415 != t416)))) else (impl_FormSame.j0 k l0 l1 true)) = some r := by rw [if_pos rfl] at H; exact H
    clear H; have H := H1; clear H1
    by_cases c8 : (l0.length : Int) = (l1.length : Int)
    ·rw [if_pos c8] at H; have c8b0 := beq_iff_eq.mpr c8; have c8b1 := bne_eq_false_iff_eq.mpr c8; have c8b2 : (l0.length == l1.length) = true := by first | simpa using c8 | (simp at c8 ⊢; omega)
     clear c8
     (first | rw [c8b0] | (simp only [i64_w, i32_w]; rw [c8b0]) | skip)
     obtain ⟨t415, A9, H⟩ := Sqz.be H; obtain ⟨t416, A10, H⟩ := Sqz.be H; have H' := Aside0.mk H; clear H
     go_wp2_with (first | ((with_reducible refine gate_callee (f := 44) rfl ?_); refine goesL_ (some 8) rfl rfl Try.func44 (by kernel_rfl) rfl #[.slice A0 l0.length c0] rfl Sqz.auM ?_; (with_reducible refine (impl_FormValid.calls k _ _ l0 true _ ?side1 ?side2 A4.out).mono ?_); (case side1 => exact Sqz.mvC ((Kd.C_below HR0.out HB.out))); (case side2 => exact HC0.out); rintro e w11 ⟨rfl, hb⟩; refine ⟨_, rfl, ?_⟩; replace HB := Aside0.mk (below_step (Sqz.auHB) hb); (try clear hb)) | (go_at_call 44; (with_reducible refine (impl_FormValid.calls k _ _ l1 true _ ?side1 ?side2 A6.out).mono ?_); (case side1 => exact Sqz.mvC ((Kd.C_below HR1.out HB.out))); (case side2 => exact HC1.out); rintro e w12 ⟨rfl, hb⟩; replace HB := Aside0.mk (below_step (Sqz.auHB) hb); (try clear hb)) | (go_at_call 47; (with_reducible refine (impl_FormDisc.calls k _ _ l0 t415 _ ?side1 ?side2 A9.out).mono ?_); (case side1 => exact Sqz.mvC ((Kd.C_below HR0.out HB.out))); (case side2 => exact HC0.out); rintro e w13 ⟨rfl, hb⟩; replace HB := Aside0.mk (below_step (Sqz.auHB) hb); (try clear hb)) | (go_at_call 47; (with_reducible refine (impl_FormDisc.calls k _ _ l1 t416 _ ?side1 ?side2 A10.out).mono ?_); (case side1 => exact Sqz.mvC ((Kd.C_below HR1.out HB.out))); (case side2 => exact HC1.out); rintro e w14 ⟨rfl, hb⟩; replace HB := Aside0.mk (below_step (Sqz.auHB) hb); (try clear hb)))
     go_meet
     case rel => exact ⟨_, ((t415 != t416)), Sqz.auS, H', ⟨Sqz.auN⟩, ⟨Sqz.auHB⟩⟩
    ·rw [if_neg c8] at H; have c8b0 := beq_eq_false_iff_ne.mpr c8; have c8b1 := bne_iff_ne.mpr c8; have c8b2 : (l0.length == l1.length) = false := by first | simpa using c8 | (simp at c8 ⊢; omega)
     (first | rw [c8b0] | (simp only [i64_w, i32_w]; rw [c8b0]) | skip)
     have H' := Aside0.mk H; clear H
     go_wp2_with (first | ((with_reducible refine gate_callee (f := 44) rfl ?_); refine goesL_ (some 8) rfl rfl Try.func44 (by kernel_rfl) rfl #[.slice A0 l0.length c0] rfl Sqz.auM ?_; (with_reducible refine (impl_FormValid.calls k _ _ l0 true _ ?side1 ?side2 A4.out).mono ?_); (case side1 => exact Sqz.mvC ((Kd.C_below HR0.out HB.out))); (case side2 => exact HC0.out); rintro e w15 ⟨rfl, hb⟩; refine ⟨_, rfl, ?_⟩; replace HB := Aside0.mk (below_step (Sqz.auHB) hb); (try clear hb)) | (go_at_call 44; (with_reducible refine (impl_FormValid.calls k _ _ l1 true _ ?side1 ?side2 A6.out).mono ?_); (case side1 => exact Sqz.mvC ((Kd.C_below HR1.out HB.out))); (case side2 => exact HC1.out); rintro e w16 ⟨rfl, hb⟩; replace HB := Aside0.mk (below_step (Sqz.auHB) hb); (try clear hb)))
     go_meet
     case rel => exact ⟨_, (true), Sqz.auS, H', ⟨Sqz.auN⟩, ⟨Sqz.auHB⟩⟩
   ·replace c7 := Bool.eq_false_iff.mpr c7; subst c7; have H1 : (impl_FormSame.j0 k l0 l1 true) = some r := by rw [if_neg (show ¬ (false = true) by decide)] at H; exact H
    clear H; have H := H1; clear H1; have H' := Aside0.mk H; clear H
    go_wp2_with (first | ((with_reducible refine gate_callee (f := 44) rfl ?_); refine goesL_ (some 8) rfl rfl Try.func44 (by kernel_rfl) rfl #[.slice A0 l0.length c0] rfl Sqz.auM ?_; (with_reducible refine (impl_FormValid.calls k _ _ l0 true _ ?side1 ?side2 A4.out).mono ?_); (case side1 => exact Sqz.mvC ((Kd.C_below HR0.out HB.out))); (case side2 => exact HC0.out); rintro e w17 ⟨rfl, hb⟩; refine ⟨_, rfl, ?_⟩; replace HB := Aside0.mk (below_step (Sqz.auHB) hb); (try clear hb)) | (go_at_call 44; (with_reducible refine (impl_FormValid.calls k _ _ l1 false _ ?side1 ?side2 A6.out).mono ?_); (case side1 => exact Sqz.mvC ((Kd.C_below HR1.out HB.out))); (case side2 => exact HC1.out); rintro e w18 ⟨rfl, hb⟩; replace HB := Aside0.mk (below_step (Sqz.auHB) hb); (try clear hb)))
    go_meet
    case rel => exact ⟨_, (true), Sqz.auS, H', ⟨Sqz.auN⟩, ⟨Sqz.auHB⟩⟩
  ·replace c5 := Bool.eq_false_iff.mpr c5; subst c5; have H1 : (impl_FormSame.j0 k l0 l1 true) = some r := by rw [if_neg (show ¬ (false = true) by decide)] at H; exact H
   clear H; have H := H1; clear H1; have H' := Aside0.mk H; clear H
   go_wp2_with (first | ((with_reducible refine gate_callee (f := 44) rfl ?_); refine goesL_ (some 8) rfl rfl Try.func44 (by kernel_rfl) rfl #[.slice A0 l0.length c0] rfl Sqz.auM ?_; (with_reducible refine (impl_FormValid.calls k _ _ l0 false _ ?side1 ?side2 A4.out).mono ?_); (case side1 => exact Sqz.mvC ((Kd.C_below HR0.out HB.out))); (case side2 => exact HC0.out); rintro e w19 ⟨rfl, hb⟩; refine ⟨_, rfl, ?_⟩; replace HB := Aside0.mk (below_step (Sqz.auHB) hb); (try clear hb)))
   go_meet
   case rel => exact ⟨_, (true), Sqz.auS, H', ⟨Sqz.auN⟩, ⟨Sqz.auHB⟩⟩
 case rest =>
  clear HC3
  try clear c1
  try clear p2
  try clear c3
  try clear c4
  try clear c5
  try clear c7
  try clear c8
  try clear c8b0
  try clear c8b1
  try clear c8b2
  obtain ⟨kq, x28_2, rfl, HA, HJ2, HB⟩ := hcut; cases kq with
  | zero => exact absurd HA.out (by simp [impl_FormSame.j0])
  | succ kj2 =>
   have H := HA.out; clear HA; simp only [impl_FormSame.j0] at H
   by_cases c20 : x28_2 = true
   ·subst c20; have H1 : (some false) = some r := by rw [if_pos rfl] at H; exact H
    clear H; have H := H1; clear H1; obtain rfl := Option.some.inj H; go_wp2; go_ret
    exact ⟨Sqz.auR, Sqz.auHB⟩
   ·replace c20 := Bool.eq_false_iff.mpr c20; subst c20; have H1 : ((slices_Clone_int_int.f l0).bind fun t417 => (if t417.length + l1.length < 17592186044416 then ((impl_placesOf.f kj2 (t417 ++ l1)).bind fun t423 => (impl_FormSame.l0 kj2 l0 l1 t423 (t423.length : Int) 0)) else (none))) = some r := by rw [if_neg (show ¬ (false = true) by decide)] at H; exact H
    clear H; have H := H1; clear H1; obtain ⟨t417, A21, H⟩ := Sqz.be H
    by_cases c22 : t417.length + l1.length < 17592186044416
    ·rw [if_pos c22] at H; have LMc22 := Aside0.mk c22; clear c22; obtain ⟨y420, hyy⟩ : ∃ y_ : List Int, y_ = (t417 ++ l1) := ⟨_, rfl⟩
     replace H : ((impl_placesOf.f kj2 y420).bind fun t423 => (impl_FormSame.l0 kj2 l0 l1 t423 (t423.length : Int) 0)) = some r := Sqz.auY
     have Ny420 := Aside0.mk hyy; clear hyy; obtain ⟨t423, A23, H⟩ := Sqz.be H; have H' := Aside0.mk H; clear H
     go_wp2_with (first | ((with_reducible refine gate_callee (f := 57) rfl ?_); refine goesL_ (some 30) rfl rfl Try.func57 (by kernel_rfl) rfl #[.slice A0 l0.length c0] rfl Sqz.auM ?_; (with_reducible refine (slices_Clone_int_int.calls _ _ l0 t417 _ ?side1 ?side2 A21.out).mono ?_); (case side1 => exact Sqz.mvC ((Kd.C_below HR0.out HB.out))); (case side2 => exact HC0.out); rintro e w24 ⟨v418, rfl, ho0, hb⟩; refine ⟨_, rfl, ?_⟩; have HO419 := Aside0.mk (Kd.R_lower ho0 (below_size (Sqz.auHB))); replace HB := Aside0.mk (below_step (Sqz.auHB) hb); (try clear hb); (try clear ho0)) | ((with_reducible refine gate_builtin (b := .append) (xs := #[.tmp 30, .tmp 31]) rfl ?_); (try (refine gate_guard (by rfl) ?_; dsimp only)); at_builtin; refine Kd.R_append_rows (Kd.int .i64) (w0 := w) w.heap.size rfl (.tmp 30) (.tmp 31) 22 3 (.int .i64 0) 8 rfl Try.underlying22 info3 rfl (by decide) (by omega) v418 t417 l1 _ _ _ (fun _ => True) (fun _ => False) rfl rfl ?aO ?aR (fun _ _ h => h) (fun _ h => h.elim) ?aF ?aB ?aS ?aL ?_; (case aR => exact Sqz.mvC ((Kd.C_below HR1.out HB.out))); (case aB => exact (Sqz.auHB)); (case aF => exact (fun _ _ => trivial)); (case aO => exact ((Sqz.mvR HO419.out))); (case aS => exact (below_size (Sqz.auHB))); (case aL => have := LMc22.out; omega); intro v421 w25 ho hb hg hat; rw [← Ny420.out] at ho; replace HB := Aside0.mk (hb); have HO422 := Aside0.mk (ho); clear HO419; clear ho hb hg hat; obtain ⟨Ao26, co26, eo26⟩ := Kd.R_slice HO422.out; subst eo26) | ((with_reducible refine gate_callee (f := 56) rfl ?_); refine goesL_ (some 33) rfl rfl Try.func56 (by kernel_rfl) rfl #[.slice Ao26 y420.length co26] rfl Sqz.auM ?_; (with_reducible refine (impl_placesOf.calls kj2 _ _ y420 t423 _ ?side1 ?side2 A23.out).mono ?_); (case side1 => exact Sqz.mvC ((Kd.R_reads' HO422.out).2.2)); (case side2 => exact (Kd.R_reads' HO422.out).2.1); rintro e w27 ⟨v424, rfl, ho0, hb⟩; refine ⟨_, rfl, ?_⟩; have HO425 := Aside0.mk (Kd.R_lower (Kd.R_new' ho0 (Kd.R_lt ((Sqz.mvR HO422.out)))) (below_size (Sqz.auHB))); replace HO422 := Aside0.mk (Kd.R_elder' ((Sqz.mvR HO422.out)) (Kd.R_base ho0) hb); replace HB := Aside0.mk (below_step (Sqz.auHB) hb); (try clear hb); (try clear ho0); obtain ⟨Ao28, co28, eo28⟩ := Kd.R_slice HO425.out; subst eo28))
     go_loopg [35] kj2 (fun kq v35 w' => ∃ (x35_2 : Int), v35 = .int .i64 x35_2 ∧ Aside0 (impl_FormSame.l0 kq l0 l1 t423 (t423.length : Int) x35_2 = some r) ∧ Aside0 (kq ≤ kj2) ∧ Aside0 (Kd.R (Kd.int .i64) 3 w' w.heap.size (fun _ => True) (.slice Ao28 t423.length co28) t423) ∧ Aside0 (Below w.heap.size w w'))
     case atStart => exact ⟨(0), Sqz.auS, H', ⟨Nat.le_refl _⟩, ⟨(Sqz.mvR (Kd.R_mono HO425.out (fun _ hk => trivial)))⟩, ⟨Sqz.auHB⟩⟩
     case round =>
      clear H'
      try clear c1
      try clear c2
      try clear p2
      try clear c3
      try clear c4
      try clear c5
      try clear c7
      try clear c8
      try clear c8b0
      try clear c8b1
      try clear c8b2
      try clear c20
      try clear c22
      try clear p2
      obtain ⟨x35_2, rfl, HA, HK2, HO_33, HB⟩ := hrel; cases gk with
      | zero => exact absurd HA.out (by simp [impl_FormSame.l0])
      | succ k2 =>
       have H := HA.out; clear HA; simp only [impl_FormSame.l0] at H
       by_cases c29 : x35_2 < (t423.length : Int)
       ·rw [if_pos c29] at H; have c29b0 := decide_eq_true c29; clear c29
        by_cases c30 : 0 ≤ x35_2
        ·rw [if_pos c30] at H; have c30b0 := decide_eq_true c30; clear c30
         by_cases c31 : x35_2 < (t423.length : Int)
         ·rw [if_pos c31] at H; have c31b0 := decide_eq_true c31; clear c31; obtain ⟨t427, A32, H⟩ := Sqz.be H
          by_cases c33 : t427 = true
          ·subst c33; have H1 : (impl_FormSame.l0 k2 l0 l1 t423 (t423.length : Int) (wrap64 (x35_2 + 1))) = some r := by rw [if_pos rfl] at H; exact H
           clear H; have H := H1; clear H1; have H' := Aside0.mk H; clear H; have p426 : 0 ≤ (x35_2 : Int) := Sqz.od; have q426 : x35_2 < (t423.length : Int) := Sqz.od; obtain ⟨ad426, e426, hx426_0⟩ := Kd.at_int (Kd.R_reads' HO_33.out).2.2 x35_2 p426 q426; cases e426; replace p426 := eq_true p426; replace q426 := eq_true q426
           go_wp2_with (first | ((with_reducible refine gate_callee (f := 58) rfl ?_); refine goesL_ (some 42) rfl rfl Try.func58 (by kernel_rfl) rfl #[.slice A0 l0.length c0, .slice A1 l1.length c1, .int .i64 (rd t423 x35_2)] rfl Sqz.auM ?_; (with_reducible refine (impl_alike.calls k2 _ _ l0 _ _ l1 (rd t423 x35_2) true _ ?side1 ?side2 ?side3 ?side4 A32.out).mono ?_); (case side1 => exact Sqz.mvC ((Kd.C_below HR0.out HB.out))); (case side2 => exact HC0.out); (case side3 => exact Sqz.mvC ((Kd.C_below HR1.out HB.out))); (case side4 => exact HC1.out); rintro e w' ⟨rfl, ⟨nd, rfl⟩⟩; refine ⟨_, rfl, ?_⟩))
           go_roundg k2
           case measure => have := HJ2.out; have := HK2.out; omega
           case rel => exact ⟨(wrap64 (x35_2 + 1)), Sqz.auS, H', ⟨by have := HJ2.out; have := HK2.out; omega⟩, ⟨(Sqz.mvR HO_33.out)⟩, ⟨Sqz.auHB⟩⟩
          ·replace c33 := Bool.eq_false_iff.mpr c33; subst c33; have H1 : (some false) = some r := by rw [if_neg (show ¬ (false = true) by decide)] at H; exact H
           clear H; have H := H1; clear H1; obtain rfl := Option.some.inj H; have p426 : 0 ≤ (x35_2 : Int) := Sqz.od; have q426 : x35_2 < (t423.length : Int) := Sqz.od; obtain ⟨ad426, e426, hx426_0⟩ := Kd.at_int (Kd.R_reads' HO_33.out).2.2 x35_2 p426 q426; cases e426; replace p426 := eq_true p426; replace q426 := eq_true q426
           go_wp2_with (first | ((with_reducible refine gate_callee (f := 58) rfl ?_); refine goesL_ (some 42) rfl rfl Try.func58 (by kernel_rfl) rfl #[.slice A0 l0.length c0, .slice A1 l1.length c1, .int .i64 (rd t423 x35_2)] rfl Sqz.auM ?_; (with_reducible refine (impl_alike.calls k2 _ _ l0 _ _ l1 (rd t423 x35_2) false _ ?side1 ?side2 ?side3 ?side4 A32.out).mono ?_); (case side1 => exact Sqz.mvC ((Kd.C_below HR0.out HB.out))); (case side2 => exact HC0.out); (case side3 => exact Sqz.mvC ((Kd.C_below HR1.out HB.out))); (case side4 => exact HC1.out); rintro e w' ⟨rfl, ⟨nd, rfl⟩⟩; refine ⟨_, rfl, ?_⟩))
           go_ret
           exact ⟨Sqz.auR, Sqz.auHB⟩
         ·rw [if_neg c31] at H; exact absurd H (by simp)
        ·rw [if_neg c30] at H; exact absurd H (by simp)
       ·rw [if_neg c29] at H; have c29b0 := decide_eq_false c29; clear c29; obtain rfl := Option.some.inj H; go_wp2; go_ret
        exact ⟨Sqz.auR, Sqz.auHB⟩
    ·rw [if_neg c22] at H; exact absurd H (by simp)

/-! ### laws_FnRest: function 8 -/
def laws_FnRest.j0 : Nat → List Int → Int → Bool → Int → Bool → Bool → Option (Bool)
 | 0, _, _, _, _, _, _ => none
 | k + 1, x3, x4, x5, x6, x7, x36 => if x36 = true then (if (x5 == x7) = true then (some (x4 == x6)) else (some false)) else ((impl_ZeroFind.f k x3).bind fun bt435 => (if bt435.2 = true then ((impl_FormSame.f k (([1, (-1), x4] : List Int)) x3).bind fun t442 => (some t442)) else (some false)))
def laws_FnRest.f (k : Nat) (l0 : List Int) : Option (Bool) := if (l0.length : Int) > 1048576 then (some true) else ((spec_DrawPlanesRest.f k l0).bind fun t428 => ((impl_PlanesRest.f k t428).bind fun bt431 => ((spec_PlanesRest.f k t428).bind fun bt433 => (if (bt431.2 != bt433.2) = true then (laws_FnRest.j0 k t428 bt431.1 bt431.2 bt433.1 bt433.2 true) else (if bt431.1 = bt433.1 then (laws_FnRest.j0 k t428 bt431.1 bt431.2 bt433.1 bt433.2 (!bt431.2)) else (laws_FnRest.j0 k t428 bt431.1 bt431.2 bt433.1 bt433.2 true))))))
set_option maxHeartbeats 8000000 in
set_option maxRecDepth 100000 in
theorem laws_FnRest.calls (k : Nat) (A0 : Option Addr) (c0 : Nat) (l0 : List Int) (r : Bool) (w : World) (hr0 : Kd.C (Kd.int .u8) w A0 l0.length l0) (hc0 : l0.length ≤ c0) (h : laws_FnRest.f k l0 = some r) :
  Calls Try.prog 8 #[.slice A0 l0.length c0] w fun e w' => e = .returned (.bool r) ∧ Below w.heap.size w w' := by
 have HR0 := Aside0.mk hr0; have HC0 := Aside0.mk hc0; clear hr0 hc0; have HB := Aside0.mk (Below.refl w.heap.size w); have H : (if (l0.length : Int) > 1048576 then (some true) else ((spec_DrawPlanesRest.f k l0).bind fun t428 => ((impl_PlanesRest.f k t428).bind fun bt431 => ((spec_PlanesRest.f k t428).bind fun bt433 => (if (bt431.2 != bt433.2) = true then (laws_FnRest.j0 k t428 bt431.1 bt431.2 bt433.1 bt433.2 true) else (if bt431.1 = bt433.1 then (laws_FnRest.j0 k t428 bt431.1 bt431.2 bt433.1 bt433.2 (!bt431.2)) else (laws_FnRest.j0 k t428 bt431.1 bt431.2 bt433.1 bt433.2 true))))))) = some r := h; clear h
 by_cases c2 : (l0.length : Int) > 1048576
 ·rw [if_pos c2] at H; have c2b0 : decide (1048576 < (l0.length : Int)) = true := decide_eq_true c2; have c2b1 : decide (1048576 < l0.length) = true := decide_eq_true (by omega); clear c2; obtain rfl := Option.some.inj H
  go_enter Try.func8, Try.ntmps8
  go_wp2; go_ret
  exact ⟨Sqz.auR, Sqz.auHB⟩
 ·rw [if_neg c2] at H; have c2b0 : decide (1048576 < (l0.length : Int)) = false := decide_eq_false c2; have c2b1 : decide (1048576 < l0.length) = false := decide_eq_false (by omega); clear c2; obtain ⟨t428, A3, H⟩ := Sqz.be H; replace H := Option.bind_eq_some_iff.mp H; obtain ⟨⟨t431, t432⟩, A40, H⟩ := H; replace H : ((spec_PlanesRest.f k t428).bind fun bt433 => (if (t432 != bt433.2) = true then (laws_FnRest.j0 k t428 t431 t432 bt433.1 bt433.2 true) else (if t431 = bt433.1 then (laws_FnRest.j0 k t428 t431 t432 bt433.1 bt433.2 (!t432)) else (laws_FnRest.j0 k t428 t431 t432 bt433.1 bt433.2 true)))) = some r := H; have A4 := Aside0.mk A40; clear A40; replace H := Option.bind_eq_some_iff.mp H; obtain ⟨⟨t433, t434⟩, A50, H⟩ := H; replace H : (if (t432 != t434) = true then (laws_FnRest.j0 k t428 t431 t432 t433 t434 true) else (if t431 = t433 then (laws_FnRest.j0 k t428 t431 t432 t433 t434 (!t432)) else (laws_FnRest.j0 k t428 t431 t432 t433 t434 true))) = some r := H; have A5 := Aside0.mk A50; clear A50; have HC6 := Aside0.mk H; clear H
  go_enter Try.func8, Try.ntmps8
  go_upto_region 6 with (first | ((with_reducible refine gate_callee (f := 26) rfl ?_); refine goesL_ (some 14) rfl rfl Try.func26 (by kernel_rfl) rfl #[.slice A0 l0.length c0] rfl Sqz.auM ?_; (with_reducible refine (spec_DrawPlanesRest.calls k _ _ l0 t428 _ ?side1 ?side2 A3.out).mono ?_); (case side1 => exact Sqz.mvC (HR0.out)); (case side2 => exact HC0.out); rintro e w7 ⟨v429, rfl, ho0, hb⟩; refine ⟨_, rfl, ?_⟩; have HO430 := Aside0.mk (Kd.R_lower ho0 (below_size (Sqz.auHB))); replace HB := Aside0.mk (below_step (Sqz.auHB) hb); (try clear hb); (try clear ho0); obtain ⟨Ao8, co8, eo8⟩ := Kd.R_slice HO430.out; subst eo8) | ((with_reducible refine gate_callee (f := 27) rfl ?_); refine goesL_ (some 17) rfl rfl Try.func27 (by kernel_rfl) rfl #[.slice Ao8 t428.length co8] rfl Sqz.auM ?_; (with_reducible refine (impl_PlanesRest.calls k _ _ t428 t431 t432 _ ?side1 ?side2 A4.out).mono ?_); (case side1 => exact Sqz.mvC ((Kd.R_reads' HO430.out).2.2)); (case side2 => exact (Kd.R_reads' HO430.out).2.1); rintro e w9 ⟨rfl, hb⟩; refine ⟨_, rfl, ?_⟩; replace HO430 := Aside0.mk (Kd.R_below ((Sqz.mvR HO430.out)) hb); replace HB := Aside0.mk (below_step (Sqz.auHB) hb); (try clear hb)) | ((with_reducible refine gate_callee (f := 28) rfl ?_); refine goesL_ (some 22) rfl rfl Try.func28 (by kernel_rfl) rfl #[.slice Ao8 t428.length co8] rfl Sqz.auM ?_; (with_reducible refine (spec_PlanesRest.calls k _ _ t428 t433 t434 _ ?side1 ?side2 A5.out).mono ?_); (case side1 => exact Sqz.mvC ((Kd.R_reads' HO430.out).2.2)); (case side2 => exact (Kd.R_reads' HO430.out).2.1); rintro e w10 ⟨rfl, hb⟩; refine ⟨_, rfl, ?_⟩; replace HO430 := Aside0.mk (Kd.R_below ((Sqz.mvR HO430.out)) hb); replace HB := Aside0.mk (below_step (Sqz.auHB) hb); (try clear hb)))
  (try simp only [Act.put, List.setIfInBounds_toArray, List.set_cons_zero, List.set_cons_succ])
  go_cut [36] (fun v36 wc => ∃ (kq : Nat) (x36_5 : Bool), v36 = .bool x36_5 ∧ Aside0 (laws_FnRest.j0 kq t428 t431 t432 t433 t434 x36_5 = some r) ∧ Aside0 (kq ≤ k) ∧ Aside0 (Kd.R (Kd.int .i64) 3 wc w.heap.size (fun _ => True) (.slice Ao8 t428.length co8) t428) ∧ Aside0 (Below w.heap.size w wc))
  case first =>
   have H := HC6.out; clear HC6
   by_cases c11 : (t432 != t434) = true
   ·rw [if_pos c11] at H; have c11b0 : (t432 != t434) = true := c11; (try (have c11b1 : decide (t432 = t434) = false := by simpa using c11)); (try (have c11b2 : (t432 == t434) = false := by simpa using c11)); (try (have c11b3 : ¬ (t432 = t434) := by simpa using c11)); clear c11
    (first | rw [c11b0] | (simp only [i64_w, i32_w]; rw [c11b0]) | skip)
    have H' := Aside0.mk H; clear H; go_wp2
    go_meet
    case rel => exact ⟨_, (true), Sqz.auS, H', ⟨Sqz.auN⟩, ⟨(Sqz.mvR HO430.out)⟩, ⟨Sqz.auHB⟩⟩
   ·rw [if_neg c11] at H; have c11b0 : (t432 != t434) = false := by simpa using c11
    (try (have c11b1 : decide (t432 = t434) = true := by simpa using c11)); (try (have c11b2 : (t432 == t434) = true := by simpa using c11)); clear c11
    (first | rw [c11b0] | (simp only [i64_w, i32_w]; rw [c11b0]) | skip)
    by_cases c12 : t431 = t433
    ·rw [if_pos c12] at H; have c12b0 := beq_iff_eq.mpr c12; have c12b1 := bne_eq_false_iff_eq.mpr c12; clear c12; have H' := Aside0.mk H; clear H; go_wp2
     go_meet
     case rel => exact ⟨_, (!t432), Sqz.auS, H', ⟨Sqz.auN⟩, ⟨(Sqz.mvR HO430.out)⟩, ⟨Sqz.auHB⟩⟩
    ·rw [if_neg c12] at H; have c12b0 := beq_eq_false_iff_ne.mpr c12; have c12b1 := bne_iff_ne.mpr c12; have H' := Aside0.mk H; clear H; go_wp2
     go_meet
     case rel => exact ⟨_, (true), Sqz.auS, H', ⟨Sqz.auN⟩, ⟨(Sqz.mvR HO430.out)⟩, ⟨Sqz.auHB⟩⟩
  case rest =>
   clear HC6
   try clear c1
   try clear c2
   try clear c2b0
   try clear c2b1
   try clear p2
   try clear c8
   try clear c11
   try clear c11b0
   try clear c11b1
   try clear c11b2
   try clear c12
   try clear c12b0
   try clear c12b1
   obtain ⟨kq, x36_5, rfl, HA, HJ5, HO_3, HB⟩ := hcut; cases kq with
   | zero => exact absurd HA.out (by simp [laws_FnRest.j0])
   | succ kj5 =>
    have H := HA.out; clear HA; simp only [laws_FnRest.j0] at H
    by_cases c13 : x36_5 = true
    ·subst c13; have H1 : (if (t432 == t434) = true then (some (t431 == t433)) else (some false)) = some r := by rw [if_pos rfl] at H; exact H
     clear H; have H := H1; clear H1
     by_cases c14 : (t432 == t434) = true
     ·rw [if_pos c14] at H; have c14b0 : (t432 == t434) = true := c14; (try (have c14b1 : decide (t432 = t434) = true := by simpa using c14)); (try (have c14b2 : (t432 == t434) = true := by simpa using c14)); clear c14; obtain rfl := Option.some.inj H; go_wp2; go_ret
      exact ⟨Sqz.auR, Sqz.auHB⟩
     ·rw [if_neg c14] at H; have c14b0 : (t432 == t434) = false := by simpa using c14
      (try (have c14b1 : decide (t432 = t434) = false := by simpa using c14)); (try (have c14b2 : (t432 == t434) = false := by simpa using c14)); (try (have c14b3 : ¬ (t432 = t434) := by simpa using c14)); clear c14; obtain rfl := Option.some.inj H; go_wp2; go_ret
      exact ⟨Sqz.auR, Sqz.auHB⟩
    ·replace c13 := Bool.eq_false_iff.mpr c13; subst c13; have H1 : ((impl_ZeroFind.f kj5 t428).bind fun bt435 => (if bt435.2 = true then ((impl_FormSame.f kj5 (([1, (-1), t431] : List Int)) t428).bind fun t442 => (some t442)) else (some false))) = some r := by rw [if_neg (show ¬ (false = true) by decide)] at H; exact H
     clear H; have H := H1; clear H1; replace H := Option.bind_eq_some_iff.mp H; obtain ⟨⟨t435, t436⟩, A150, H⟩ := H; replace H : (if t436 = true then ((impl_FormSame.f kj5 (([1, (-1), t431] : List Int)) t428).bind fun t442 => (some t442)) else (some false)) = some r := H; have A15 := Aside0.mk A150; clear A150
     by_cases c16 : t436 = true
     ·subst c16; have H1 : ((impl_FormSame.f kj5 (([1, (-1), t431] : List Int)) t428).bind fun t442 => (some t442)) = some r := by rw [if_pos rfl] at H; exact H
      clear H; have H := H1; clear H1; obtain ⟨y439, hyy⟩ : ∃ y_ : List Int, y_ = (([1, (-1), t431] : List Int)) := ⟨_, rfl⟩
      replace H : ((impl_FormSame.f kj5 y439 t428).bind fun t442 => (some t442)) = some r := Sqz.auY
      have Ny439 := Aside0.mk hyy; clear hyy; obtain ⟨t442, A17, H⟩ := Sqz.be H; obtain rfl := Option.some.inj H
      go_wp2_with (first | ((with_reducible refine gate_callee (f := 29) rfl ?_); refine goesL_ (some 47) rfl rfl Try.func29 (by kernel_rfl) rfl #[.slice Ao8 t428.length co8] rfl Sqz.auM ?_; (with_reducible refine (impl_ZeroFind.calls kj5 _ _ t428 t435 true _ ?side1 ?side2 A15.out).mono ?_); (case side1 => exact Sqz.mvC ((Kd.R_reads' HO_3.out).2.2)); (case side2 => exact (Kd.R_reads' HO_3.out).2.1); rintro e w18 ⟨v437, rfl, ho0, hb⟩; refine ⟨_, rfl, ?_⟩; have HO438 := Aside0.mk (Kd.R_lower (Kd.R_new' ho0 (Kd.R_lt ((Sqz.mvR HO_3.out)))) (below_size (Sqz.auHB))); replace HO_3 := Aside0.mk (Kd.R_elder' ((Sqz.mvR HO_3.out)) (Kd.R_base ho0) hb); replace HB := Aside0.mk (below_step (Sqz.auHB) hb); (try clear hb); (try clear ho0)) | ((with_reducible refine gate_dst (N := 53) rfl ?_); (try (refine gate_guard (by rfl) ?_; dsimp only)); refine Kd.R_lit (Kd.int .i64) _ 3 ?hg (N := 53) ?hd (xs := ([1, (-1), t431] : List Int)) (inner := [.int .i64 1, .int .i64 (-1), .int .i64 t431]) (ok := fun _ => True) (okp := fun _ => True) ?hr ?hp (fun _ hk => hk) trivial (Below.refl _ _) (Nat.le_refl _) (by simp) ?_; (case hd => rfl); (case hg => rfl); (case hr => first | (go_simp; done) | (go_simp; rfl)); (case hp => exact (Reps.one (show Kd.M (Kd.int .i64) _ _ _ 1 [.int .i64 1] from rfl) (Reps.one (show Kd.M (Kd.int .i64) _ _ _ (-1) [.int .i64 (-1)] from rfl) (Reps.one (show Kd.M (Kd.int .i64) _ _ _ t431 [.int .i64 t431] from rfl) (Reps.none _ _))))); intro v440 w19 ho20 hb hg_ hnew_; clear hg_ hnew_; (first | rw [← Ny439.out] at ho20 | (simp only [Int.reduceToNat] at ho20; rw [← Ny439.out] at ho20)); have HO441 := Aside0.mk (Kd.R_lower (Kd.R_new' (Kd.R_new' ho20 (Kd.R_lt ((Sqz.mvR HO_3.out)))) (Kd.R_lt ((Sqz.mvR HO438.out)))) (below_size (Sqz.auHB))); replace HO_3 := Aside0.mk (Kd.R_elder' ((Sqz.mvR HO_3.out)) (Kd.R_base ho20) hb); replace HO438 := Aside0.mk (Kd.R_elder' ((Sqz.mvR HO438.out)) (Kd.R_base ho20) hb); replace HB := Aside0.mk (below_step (Sqz.auHB) hb); clear hb ho20; obtain ⟨Ao21, co21, eo21⟩ := Kd.R_slice HO441.out; subst eo21) | (go_at_call 30; (with_reducible refine (impl_FormSame.calls kj5 _ _ y439 _ _ t428 t442 _ ?side1 ?side2 ?side3 ?side4 A17.out).mono ?_); (case side1 => exact Sqz.mvC ((Kd.R_reads' HO441.out).2.2)); (case side2 => exact (Kd.R_reads' HO441.out).2.1); (case side3 => exact Sqz.mvC ((Kd.R_reads' HO_3.out).2.2)); (case side4 => exact (Kd.R_reads' HO_3.out).2.1); rintro e w22 ⟨rfl, hb⟩; replace HO_3 := Aside0.mk (Kd.R_below ((Sqz.mvR HO_3.out)) hb); replace HO438 := Aside0.mk (Kd.R_below ((Sqz.mvR HO438.out)) hb); replace HO441 := Aside0.mk (Kd.R_below ((Sqz.mvR HO441.out)) hb); replace HB := Aside0.mk (below_step (Sqz.auHB) hb); (try clear hb)))
      go_ret
      exact ⟨Sqz.auR, Sqz.auHB⟩
     ·replace c16 := Bool.eq_false_iff.mpr c16; subst c16; have H1 : (some false) = some r := by rw [if_neg (show ¬ (false = true) by decide)] at H; exact H
      clear H; have H := H1; clear H1; obtain rfl := Option.some.inj H
      go_wp2_with (first | ((with_reducible refine gate_callee (f := 29) rfl ?_); refine goesL_ (some 47) rfl rfl Try.func29 (by kernel_rfl) rfl #[.slice Ao8 t428.length co8] rfl Sqz.auM ?_; (with_reducible refine (impl_ZeroFind.calls kj5 _ _ t428 t435 false _ ?side1 ?side2 A15.out).mono ?_); (case side1 => exact Sqz.mvC ((Kd.R_reads' HO_3.out).2.2)); (case side2 => exact (Kd.R_reads' HO_3.out).2.1); rintro e w23 ⟨v437, rfl, ho0, hb⟩; refine ⟨_, rfl, ?_⟩; have HO438 := Aside0.mk (Kd.R_lower (Kd.R_new' ho0 (Kd.R_lt ((Sqz.mvR HO_3.out)))) (below_size (Sqz.auHB))); replace HO_3 := Aside0.mk (Kd.R_elder' ((Sqz.mvR HO_3.out)) (Kd.R_base ho0) hb); replace HB := Aside0.mk (below_step (Sqz.auHB) hb); (try clear hb); (try clear ho0)))
      go_ret
      exact ⟨Sqz.auR, Sqz.auHB⟩

/-- THE ONE PURE STATEMENT of laws_FnRest: yours. -/
def laws_FnRest.Pure : Prop := ∀ (l0 : List Int), l0.length ≤ maxLen → l0.length * 1 ≤ 140737488351232 → (∀ x ∈ l0, (Lit.int .u8 x).wf = true) → ∃ k, laws_FnRest.f k l0 = some true
theorem laws_FnRest.walk (P : laws_FnRest.Pure) (a0 : Option Addr) (len0 cap0 : Nat) (z0 : List Int) (w : World) (w0 : (a0 = none ∧ len0 = 0 ∧ cap0 = 0 ∧ z0 = []) ∨ ∃ x, a0 = some x ∧ len0 ≤ cap0 ∧ cap0 ≤ maxLen ∧ z0.length = cap0 ∧ (∀ i, i < z0.length → w.cell? (x.add i) = some (.int .u8 (z0.getD i 0))) ∧ ∀ n ∈ z0, (Lit.int .u8 n).wf = true) (y0 : len0 * 1 ≤ 140737488351232) :
  Calls Try.prog 8 #[.slice a0 len0 cap0] w fun e w' => e = .returned (.bool true) ∧ Below w.heap.size w w' := by
 obtain ⟨l0, rfl, hr0, hm0, hw0, hc0⟩ := ReadsInt.ofRowC w0; obtain ⟨k, h⟩ := P l0 hm0 y0 hw0; refine (laws_FnRest.calls k _ _ l0 true w (Kd.C_of_reads (d := (0 : Int)) (h1 := fun _ => rfl) hr0) hc0 h).mono ?_; rintro e w' ⟨rfl, hd⟩; exact ⟨rfl, hd⟩

end Go.Proofs.Ytnnpafjgghpecaa.PFnRest
