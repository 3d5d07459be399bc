/- A function's Lean twin and its walk, written by a program of this session. -/
import Derived.Test.YtnnpafjgghpecaaTPFnValueTherex0
import Derived.Test.YtnnpafjgghpecaaTPFnValueTherex1
import Derived.Test.YtnnpafjgghpecaaTPFnValueTherex3
import Derived.Test.YtnnpafjgghpecaaTPFnValueTherex4
import Derived.Test.YtnnpafjgghpecaaTPFnValueTherex7
import Derived.Test.YtnnpafjgghpecaaTPFnValueTherex8
import Derived.Test.YtnnpafjgghpecaaTPFnValueTherex14
import Derived.Test.YtnnpafjgghpecaaTPFnValueTherex15
namespace Go.Proofs.Ytnnpafjgghpecaa.PFnValueThere
open Go.RowKit Go.Proofs.YtnnpafjgghpecaaW.PrintWords Go.Proofs.YtnnpafjgghpecaaW.PrintLast Go.Proofs.YtnnpafjgghpecaaW.PrintMore
attribute [local go_sem] max2_int min2_int max_two min_two max_three min_three max_four min_four   -- for this text's walks alone
set_option linter.unusedVariables false
set_option linter.unusedSimpArgs false

/-! ### impl_vanishes: function 74 -/
def impl_vanishes.f (k : Nat) (l0 : List Int) (a1 : Int) : Option (Bool) := (impl_product.f k l0).bind fun t597 => (if a1 = 0 then ((impl_lessTerms.f k l0).bind fun t598 => (if t598 > 0 then (some (decide (t598 < (l0.length : Int)))) else (some false))) else (if (l0.length : Int) = 2 then ((impl_localSquare.f k (wrap64 (-t597)) a1).bind fun t599 => (some t599)) else (if (l0.length : Int) = 3 then ((impl_invariant.f k l0 a1).bind fun t600 => ((impl_symbol.f k (-1) (wrap64 (-t597)) a1).bind fun t601 => (some (t600 == t601)))) else (if (l0.length : Int) = 4 then ((impl_localSquare.f k t597 a1).bind fun t602 => (if t602 = true then ((impl_invariant.f k l0 a1).bind fun t603 => ((impl_symbol.f k (-1) (-1) a1).bind fun t604 => (some (t603 == t604)))) else (some true))) else (some false)))))
set_option maxHeartbeats 8000000 in
set_option maxRecDepth 100000 in
theorem impl_vanishes.calls (k : Nat) (A0 : Option Addr) (c0 : Nat) (l0 : List Int) (a1 : Int) (r : Bool) (w : World) (hr0 : Kd.C (Kd.int .i64) w A0 l0.length l0) (hc0 : l0.length ≤ c0) (h : impl_vanishes.f k l0 a1 = some r) :
  Calls Try.prog 74 #[.slice A0 l0.length c0, .int .i64 a1] w fun e w' => e = .returned (.bool r) ∧ Drawn0 w w' := by
 have HR0 := Aside0.mk hr0; have HC0 := Aside0.mk hc0; clear hr0 hc0; have H : ((impl_product.f k l0).bind fun t597 => (if a1 = 0 then ((impl_lessTerms.f k l0).bind fun t598 => (if t598 > 0 then (some (decide (t598 < (l0.length : Int)))) else (some false))) else (if (l0.length : Int) = 2 then ((impl_localSquare.f k (wrap64 (-t597)) a1).bind fun t599 => (some t599)) else (if (l0.length : Int) = 3 then ((impl_invariant.f k l0 a1).bind fun t600 => ((impl_symbol.f k (-1) (wrap64 (-t597)) a1).bind fun t601 => (some (t600 == t601)))) else (if (l0.length : Int) = 4 then ((impl_localSquare.f k t597 a1).bind fun t602 => (if t602 = true then ((impl_invariant.f k l0 a1).bind fun t603 => ((impl_symbol.f k (-1) (-1) a1).bind fun t604 => (some (t603 == t604)))) else (some true))) else (some false)))))) = some r := h; clear h; obtain ⟨t597, A3, H⟩ := Sqz.be H
 by_cases c4 : a1 = 0
 ·rw [if_pos c4] at H; have c4b0 := beq_iff_eq.mpr c4; clear c4; obtain ⟨t598, A5, H⟩ := Sqz.be H
  by_cases c6 : t598 > 0
  ·rw [if_pos c6] at H; have c6b0 : decide (0 < t598) = true := decide_eq_true c6; clear c6; obtain rfl := Option.some.inj H
   go_enter Try.func74, Try.ntmps74
   go_wp2_with (first | ((with_reducible refine gate_callee (f := 75) rfl ?_); refine goesL_ (some 8) rfl rfl Try.func75 (by kernel_rfl) rfl #[.slice A0 l0.length c0] rfl Sqz.auM ?_; (with_reducible refine (impl_product.calls k _ _ l0 t597 _ ?side1 ?side2 A3.out).mono ?_); (case side1 => exact Sqz.mvC (HR0.out)); (case side2 => exact HC0.out); rintro e w' ⟨rfl, ⟨nd, rfl⟩⟩; refine ⟨_, rfl, ?_⟩) | ((with_reducible refine gate_callee (f := 83) rfl ?_); refine goesL_ (some 12) rfl rfl Try.func83 (by kernel_rfl) rfl #[.slice A0 l0.length c0] rfl Sqz.auM ?_; (with_reducible refine (impl_lessTerms.calls k _ _ l0 t598 _ ?side1 ?side2 A5.out).mono ?_); (case side1 => exact Sqz.mvC (HR0.out)); (case side2 => exact HC0.out); rintro e w' ⟨rfl, ⟨nd, rfl⟩⟩; refine ⟨_, rfl, ?_⟩))
   go_ret
   exact ⟨Sqz.auS, by repeat (first | exact Drawn0.refl _ | apply Drawn0.step)⟩
  ·rw [if_neg c6] at H; have c6b0 : decide (0 < t598) = false := decide_eq_false c6; clear c6; obtain rfl := Option.some.inj H
   go_enter Try.func74, Try.ntmps74
   go_wp2_with (first | ((with_reducible refine gate_callee (f := 75) rfl ?_); refine goesL_ (some 8) rfl rfl Try.func75 (by kernel_rfl) rfl #[.slice A0 l0.length c0] rfl Sqz.auM ?_; (with_reducible refine (impl_product.calls k _ _ l0 t597 _ ?side1 ?side2 A3.out).mono ?_); (case side1 => exact Sqz.mvC (HR0.out)); (case side2 => exact HC0.out); rintro e w' ⟨rfl, ⟨nd, rfl⟩⟩; refine ⟨_, rfl, ?_⟩) | ((with_reducible refine gate_callee (f := 83) rfl ?_); refine goesL_ (some 12) rfl rfl Try.func83 (by kernel_rfl) rfl #[.slice A0 l0.length c0] rfl Sqz.auM ?_; (with_reducible refine (impl_lessTerms.calls k _ _ l0 t598 _ ?side1 ?side2 A5.out).mono ?_); (case side1 => exact Sqz.mvC (HR0.out)); (case side2 => exact HC0.out); rintro e w' ⟨rfl, ⟨nd, rfl⟩⟩; refine ⟨_, rfl, ?_⟩))
   go_ret
   exact ⟨Sqz.auS, by repeat (first | exact Drawn0.refl _ | apply Drawn0.step)⟩
 ·rw [if_neg c4] at H; have c4b0 := beq_eq_false_iff_ne.mpr c4
  by_cases c7 : (l0.length : Int) = 2
  ·rw [if_pos c7] at H; have c7b0 := beq_iff_eq.mpr c7; clear c7; obtain ⟨t599, A8, H⟩ := Sqz.be H; obtain rfl := Option.some.inj H
   go_enter Try.func74, Try.ntmps74
   go_wp2_with (first | ((with_reducible refine gate_callee (f := 75) rfl ?_); refine goesL_ (some 8) rfl rfl Try.func75 (by kernel_rfl) rfl #[.slice A0 l0.length c0] rfl Sqz.auM ?_; (with_reducible refine (impl_product.calls k _ _ l0 t597 _ ?side1 ?side2 A3.out).mono ?_); (case side1 => exact Sqz.mvC (HR0.out)); (case side2 => exact HC0.out); rintro e w' ⟨rfl, ⟨nd, rfl⟩⟩; refine ⟨_, rfl, ?_⟩) | ((with_reducible refine gate_callee (f := 84) rfl ?_); refine goesL_ (some 28) rfl rfl Try.func84 (by kernel_rfl) rfl #[.int .i64 (wrap64 (-t597)), .int .i64 a1] rfl Sqz.auM ?_; (with_reducible refine (impl_localSquare.calls k (wrap64 (-t597)) a1 t599 _ A8.out).mono ?_); rintro e w' ⟨rfl, ⟨nd, rfl⟩⟩; refine ⟨_, rfl, ?_⟩))
   go_ret
   exact ⟨Sqz.auS, by repeat (first | exact Drawn0.refl _ | apply Drawn0.step)⟩
  ·rw [if_neg c7] at H; have c7b0 := beq_eq_false_iff_ne.mpr c7
   by_cases c9 : (l0.length : Int) = 3
   ·rw [if_pos c9] at H; have c9b0 := beq_iff_eq.mpr c9; clear c9; obtain ⟨t600, A10, H⟩ := Sqz.be H; obtain ⟨t601, A11, H⟩ := Sqz.be H; obtain rfl := Option.some.inj H
    go_enter Try.func74, Try.ntmps74
    go_wp2_with (first | ((with_reducible refine gate_callee (f := 75) rfl ?_); refine goesL_ (some 8) rfl rfl Try.func75 (by kernel_rfl) rfl #[.slice A0 l0.length c0] rfl Sqz.auM ?_; (with_reducible refine (impl_product.calls k _ _ l0 t597 _ ?side1 ?side2 A3.out).mono ?_); (case side1 => exact Sqz.mvC (HR0.out)); (case side2 => exact HC0.out); rintro e w' ⟨rfl, ⟨nd, rfl⟩⟩; refine ⟨_, rfl, ?_⟩) | ((with_reducible refine gate_callee (f := 85) rfl ?_); refine goesL_ (some 33) rfl rfl Try.func85 (by kernel_rfl) rfl #[.slice A0 l0.length c0, .int .i64 a1] rfl Sqz.auM ?_; (with_reducible refine (impl_invariant.calls k _ _ l0 a1 t600 _ ?side1 ?side2 A10.out).mono ?_); (case side1 => exact Sqz.mvC (HR0.out)); (case side2 => exact HC0.out); rintro e w' ⟨rfl, ⟨nd, rfl⟩⟩; refine ⟨_, rfl, ?_⟩) | ((with_reducible refine gate_callee (f := 91) rfl ?_); refine goesL_ (some 37) rfl rfl Try.func91 (by kernel_rfl) rfl #[.int .i64 (-1), .int .i64 (wrap64 (-t597)), .int .i64 a1] rfl Sqz.auM ?_; (with_reducible refine (impl_symbol.calls k (-1) (wrap64 (-t597)) a1 t601 _ A11.out).mono ?_); rintro e w' ⟨rfl, ⟨nd, rfl⟩⟩; refine ⟨_, rfl, ?_⟩))
    go_ret
    exact ⟨Sqz.auS, by repeat (first | exact Drawn0.refl _ | apply Drawn0.step)⟩
   ·rw [if_neg c9] at H; have c9b0 := beq_eq_false_iff_ne.mpr c9
    by_cases c12 : (l0.length : Int) = 4
    ·rw [if_pos c12] at H; have c12b0 := beq_iff_eq.mpr c12; clear c12; obtain ⟨t602, A13, H⟩ := Sqz.be H
     by_cases c14 : t602 = true
     ·subst c14; have H1 : ((impl_invariant.f k l0 a1).bind fun t603 => ((impl_symbol.f k (-1) (-1) a1).bind fun t604 => (some (t603 == t604)))) = some r := by rw [if_pos rfl] at H; exact H
      clear H; have H := H1; clear H1; obtain ⟨t603, A15, H⟩ := Sqz.be H; obtain ⟨t604, A16, H⟩ := Sqz.be H; obtain rfl := Option.some.inj H
      go_enter Try.func74, Try.ntmps74
      go_wp2_with (first | ((with_reducible refine gate_callee (f := 75) rfl ?_); refine goesL_ (some 8) rfl rfl Try.func75 (by kernel_rfl) rfl #[.slice A0 l0.length c0] rfl Sqz.auM ?_; (with_reducible refine (impl_product.calls k _ _ l0 t597 _ ?side1 ?side2 A3.out).mono ?_); (case side1 => exact Sqz.mvC (HR0.out)); (case side2 => exact HC0.out); rintro e w' ⟨rfl, ⟨nd, rfl⟩⟩; refine ⟨_, rfl, ?_⟩) | ((with_reducible refine gate_callee (f := 84) rfl ?_); refine goesL_ (some 43) rfl rfl Try.func84 (by kernel_rfl) rfl #[.int .i64 t597, .int .i64 a1] rfl Sqz.auM ?_; (with_reducible refine (impl_localSquare.calls k t597 a1 true _ A13.out).mono ?_); rintro e w' ⟨rfl, ⟨nd, rfl⟩⟩; refine ⟨_, rfl, ?_⟩) | (go_at_call 85; (with_reducible refine (impl_invariant.calls k _ _ l0 a1 t603 _ ?side1 ?side2 A15.out).mono ?_); (case side1 => exact Sqz.mvC (HR0.out)); (case side2 => exact HC0.out); rintro e w' ⟨rfl, ⟨nd, rfl⟩⟩) | (go_at_call 91; (with_reducible refine (impl_symbol.calls k (-1) (-1) a1 t604 _ A16.out).mono ?_); rintro e w' ⟨rfl, ⟨nd, rfl⟩⟩))
      go_ret
      exact ⟨Sqz.auS, by repeat (first | exact Drawn0.refl _ | apply Drawn0.step)⟩
     ·replace c14 := Bool.eq_false_iff.mpr c14; subst c14; have H1 : (some true) = some r := by rw [if_neg (show ¬ (false = true) by decide)] at H; exact H
      clear H; have H := H1; clear H1; obtain rfl := Option.some.inj H
      go_enter Try.func74, Try.ntmps74
      go_wp2_with (first | ((with_reducible refine gate_callee (f := 75) rfl ?_); refine goesL_ (some 8) rfl rfl Try.func75 (by kernel_rfl) rfl #[.slice A0 l0.length c0] rfl Sqz.auM ?_; (with_reducible refine (impl_product.calls k _ _ l0 t597 _ ?side1 ?side2 A3.out).mono ?_); (case side1 => exact Sqz.mvC (HR0.out)); (case side2 => exact HC0.out); rintro e w' ⟨rfl, ⟨nd, rfl⟩⟩; refine ⟨_, rfl, ?_⟩) | ((with_reducible refine gate_callee (f := 84) rfl ?_); refine goesL_ (some 43) rfl rfl Try.func84 (by kernel_rfl) rfl #[.int .i64 t597, .int .i64 a1] rfl Sqz.auM ?_; (with_reducible refine (impl_localSquare.calls k t597 a1 false _ A13.out).mono ?_); rintro e w' ⟨rfl, ⟨nd, rfl⟩⟩; refine ⟨_, rfl, ?_⟩))
      go_ret
      exact ⟨Sqz.auS, by repeat (first | exact Drawn0.refl _ | apply Drawn0.step)⟩
    ·rw [if_neg c12] at H; have c12b0 := beq_eq_false_iff_ne.mpr c12; obtain rfl := Option.some.inj H
     go_enter Try.func74, Try.ntmps74
     go_wp2_with (((with_reducible refine gate_callee (f := 75) rfl ?_); refine goesL_ (some 8) rfl rfl Try.func75 (by kernel_rfl) rfl #[.slice A0 l0.length c0] rfl Sqz.auM ?_; (with_reducible refine (impl_product.calls k _ _ l0 t597 _ ?side1 ?side2 A3.out).mono ?_); (case side1 => exact Sqz.mvC (HR0.out)); (case side2 => exact HC0.out); rintro e w' ⟨rfl, ⟨nd, rfl⟩⟩; refine ⟨_, rfl, ?_⟩))
     go_ret
     exact ⟨Sqz.auS, by repeat (first | exact Drawn0.refl _ | apply Drawn0.step)⟩

/-! ### impl_represents: function 90 -/
def impl_represents.j0 : Nat → List Int → Int → Int → Bool → Option (Bool)
 | 0, _, _, _, _ => none
 | k + 1, x0, x1, x2, x13 => if x13 = true then (some true) else ((slices_Clone_int_int.f x0).bind fun t605 => (if t605.length < 17592186044416 then ((impl_vanishes.f k (t605 ++ [wrap64 (-x1)]) x2).bind fun t611 => (some t611)) else (none)))
def impl_represents.f (k : Nat) (l0 : List Int) (a1 : Int) (a2 : Int) : Option (Bool) := if (l0.length : Int) = 4 then (impl_represents.j0 k l0 a1 a2 (a2 != 0)) else (impl_represents.j0 k l0 a1 a2 false)
set_option maxHeartbeats 8000000 in
set_option maxRecDepth 100000 in
theorem impl_represents.calls (k : Nat) (A0 : Option Addr) (c0 : Nat) (l0 : List Int) (a1 : Int) (a2 : Int) (r : Bool) (w : World) (hr0 : Kd.C (Kd.int .i64) w A0 l0.length l0) (hc0 : l0.length ≤ c0) (h : impl_represents.f k l0 a1 a2 = some r) :
  Calls Try.prog 90 #[.slice A0 l0.length c0, .int .i64 a1, .int .i64 a2] w fun e w' => e = .returned (.bool r) ∧ Below w.heap.size w w' := by
 have HR0 := Aside0.mk hr0; have HC0 := Aside0.mk hc0; clear hr0 hc0; have HB := Aside0.mk (Below.refl w.heap.size w); have H : (if (l0.length : Int) = 4 then (impl_represents.j0 k l0 a1 a2 (a2 != 0)) else (impl_represents.j0 k l0 a1 a2 false)) = some r := h; clear h; have HC4 := Aside0.mk H; clear H
 go_enter Try.func90, Try.ntmps90
 go_upto_region 1 with (fail)
 go_cut [13] (fun v13 wc => ∃ (kq : Nat) (x13_3 : Bool), v13 = .bool x13_3 ∧ Aside0 (impl_represents.j0 kq l0 a1 a2 x13_3 = some r) ∧ Aside0 (kq ≤ k) ∧ Aside0 (Below w.heap.size w wc))
 case first =>
  have H := HC4.out; clear HC4
  by_cases c5 : (l0.length : Int) = 4
  ·rw [if_pos c5] at H; have c5b0 := beq_iff_eq.mpr c5; clear c5
   have H' := Aside0.mk H; clear H; go_wp2
   go_meet
   case rel => exact ⟨_, ((a2 != 0)), Sqz.auS, H', ⟨Sqz.auN⟩, ⟨Sqz.auHB⟩⟩
  ·rw [if_neg c5] at H; have c5b0 := beq_eq_false_iff_ne.mpr c5
   have H' := Aside0.mk H; clear H; go_wp2
   go_meet
   case rel => exact ⟨_, (false), Sqz.auS, H', ⟨Sqz.auN⟩, ⟨Sqz.auHB⟩⟩
 case rest =>
  clear HC4
  obtain ⟨kq, x13_3, rfl, HA, HJ3, HB⟩ := hcut; cases kq with
  | zero => exact absurd HA.out (by simp [impl_represents.j0])
  | succ kj3 =>
   have H := HA.out; clear HA; simp only [impl_represents.j0] at H
   by_cases c6 : x13_3 = true
   ·subst c6; have H1 : (some true) = some r := by rw [if_pos rfl] at H; exact H
    clear H; have H := H1; clear H1; obtain rfl := Option.some.inj H; go_wp2; go_ret
    exact ⟨Sqz.auR, Sqz.auHB⟩
   ·replace c6 := Bool.eq_false_iff.mpr c6; subst c6; have H1 : ((slices_Clone_int_int.f l0).bind fun t605 => (if t605.length < 17592186044416 then ((impl_vanishes.f kj3 (t605 ++ [wrap64 (-a1)]) a2).bind fun t611 => (some t611)) else (none))) = some r := by rw [if_neg (show ¬ (false = true) by decide)] at H; exact H
    clear H; have H := H1; clear H1; obtain ⟨t605, A7, H⟩ := Sqz.be H
    by_cases c8 : t605.length < 17592186044416
    ·rw [if_pos c8] at H; have LMc8 := Aside0.mk c8; clear c8; obtain ⟨y608, hyy⟩ : ∃ y_ : List Int, y_ = (t605 ++ [wrap64 (-a1)]) := ⟨_, rfl⟩
     replace H : ((impl_vanishes.f kj3 y608 a2).bind fun t611 => (some t611)) = some r := Sqz.auY
     have Ny608 := Aside0.mk hyy; clear hyy; obtain ⟨t611, A9, H⟩ := Sqz.be H; obtain rfl := Option.some.inj H
     go_wp2_with (first | ((with_reducible refine gate_callee (f := 57) rfl ?_); refine goesL_ (some 15) rfl rfl Try.func57 (by kernel_rfl) rfl #[.slice A0 l0.length c0] rfl Sqz.auM ?_; (with_reducible refine (slices_Clone_int_int.calls _ _ l0 t605 _ ?side1 ?side2 A7.out).mono ?_); (case side1 => exact Sqz.mvC ((Kd.C_below HR0.out HB.out))); (case side2 => exact HC0.out); rintro e w10 ⟨v606, rfl, ho0, hb⟩; refine ⟨_, rfl, ?_⟩; have HO607 := Aside0.mk (Kd.R_lower ho0 (below_size (Sqz.auHB))); replace HB := Aside0.mk (below_step (Sqz.auHB) hb); (try clear hb); (try clear ho0)) | ((with_reducible refine gate_builtin (b := .append) (xs := #[.tmp 15, .tmp 18]) rfl ?_); at_builtin; refine Kd.R_append (Kd.int .i64) (w0 := w) w.heap.size rfl (.tmp 15) (.tmp 18) 22 3 (.int .i64 0) 8 rfl Try.underlying22 info3 rfl (by decide) (by omega) v606 t605 (wrap64 (-a1)) [.int .i64 (wrap64 (-a1))] (fun _ => True) (fun _ => False) rfl rfl ?aP (fun _ hk => hk.elim) ?aF ?aO ?aB ?aS ?aL ?_; (case aP => exact rfl); (case aB => exact (Sqz.auHB)); (case aF => exact (fun _ _ => trivial)); (case aO => exact ((Sqz.mvR HO607.out))); (case aS => exact (below_size (Sqz.auHB))); (case aL => have := LMc8.out; omega); intro v609 w11 ho hb hg hat; rw [← Ny608.out] at ho; replace HB := Aside0.mk (hb); have HO610 := Aside0.mk (ho); clear HO607; clear ho hb hg hat; obtain ⟨Ao12, co12, eo12⟩ := Kd.R_slice HO610.out; subst eo12) | ((with_reducible refine gate_callee (f := 74) rfl ?_); refine goesL_ (some 21) rfl rfl Try.func74 (by kernel_rfl) rfl #[.slice Ao12 y608.length co12, .int .i64 a2] rfl Sqz.auM ?_; (with_reducible refine (impl_vanishes.calls kj3 _ _ y608 a2 t611 _ ?side1 ?side2 A9.out).mono ?_); (case side1 => exact Sqz.mvC ((Kd.R_reads' HO610.out).2.2)); (case side2 => exact (Kd.R_reads' HO610.out).2.1); rintro e w' ⟨rfl, ⟨nd, rfl⟩⟩; refine ⟨_, rfl, ?_⟩))
     go_ret
     exact ⟨Sqz.auR, Sqz.auHB⟩
    ·rw [if_neg c8] at H; exact absurd H (by simp)

/-! ### impl_ValueBad: function 67 -/
mutual
def impl_ValueBad.j0 : Nat → List Int → Int → Bool → Option (List Int)
 | 0, _, _, _ => none
 | k + 1, x0, x1, x15 => if x15 = true then (some ([] : List Int)) else ((slices_Clone_int_int.f x0).bind fun t617 => (if t617.length < 17592186044416 then ((impl_placesOf.f k (t617 ++ [x1])).bind fun t623 => (impl_ValueBad.l0 k x0 x1 (([] : List Int)) t623 (t623.length : Int) 0)) else (none)))
def impl_ValueBad.l0 : Nat → List Int → Int → List Int → List Int → Int → Int → Option (List Int)
 | 0, _, _, _, _, _, _ => none
 | k + 1, x0, x1, x5, x22, x23, x24 => if x24 < x23 then (if 0 ≤ x24 then (if x24 < (x22.length : Int) then ((impl_represents.f k x0 x1 (rd x22 x24)).bind fun t627 => (if t627 = true then (impl_ValueBad.l0 k x0 x1 x5 x22 x23 (wrap64 (x24 + 1))) else (if x5.length < 17592186044416 then (impl_ValueBad.l0 k x0 x1 (x5 ++ [rd x22 x24]) x22 x23 (wrap64 (x24 + 1))) else (none)))) else (none)) else (none)) else (some x5)
end
def impl_ValueBad.f (k : Nat) (l0 : List Int) (a1 : Int) : Option (List Int) := (impl_FormValid.f k l0).bind fun t612 => (if t612 = true then ((impl_valueOk.f a1).bind fun t613 => (impl_ValueBad.j0 k l0 a1 (!t613))) else (impl_ValueBad.j0 k l0 a1 true))
set_option maxHeartbeats 8000000 in
set_option maxRecDepth 100000 in
theorem impl_ValueBad.calls (k : Nat) (A0 : Option Addr) (c0 : Nat) (l0 : List Int) (a1 : Int) (r : List Int) (w : World) (hr0 : Kd.C (Kd.int .i64) w A0 l0.length l0) (hc0 : l0.length ≤ c0) (h : impl_ValueBad.f k l0 a1 = some r) :
  Calls Try.prog 67 #[.slice A0 l0.length c0, .int .i64 a1] w fun e w' => ∃ v0_ : Value, e = .returned (v0_) ∧ Kd.R (Kd.int .i64) 3 w' w.heap.size (fun _ => True) v0_ r ∧ Below w.heap.size w w' := by
 have HR0 := Aside0.mk hr0; have HC0 := Aside0.mk hc0; clear hr0 hc0; have HB := Aside0.mk (Below.refl w.heap.size w); have H : ((impl_FormValid.f k l0).bind fun t612 => (if t612 = true then ((impl_valueOk.f a1).bind fun t613 => (impl_ValueBad.j0 k l0 a1 (!t613))) else (impl_ValueBad.j0 k l0 a1 true))) = some r := h; clear h; have HC3 := Aside0.mk H; clear H
 go_enter Try.func67, Try.ntmps67
 go_upto_region 1 with (fail)
 go_cut [15] (fun v15 wc => ∃ (kq : Nat) (x15_2 : Bool), v15 = .bool x15_2 ∧ Aside0 (impl_ValueBad.j0 kq l0 a1 x15_2 = some r) ∧ Aside0 (kq ≤ k) ∧ Aside0 (Below w.heap.size w wc))
 case first =>
  have H := HC3.out; clear HC3; obtain ⟨t612, A4, H⟩ := Sqz.be H
  by_cases c5 : t612 = true
  ·subst c5; have H1 : ((impl_valueOk.f a1).bind fun t613 => (impl_ValueBad.j0 k l0 a1 (!t613))) = some r := by rw [if_pos rfl] at H; exact H
   clear H; have H := H1; clear H1; obtain ⟨t613, A6, H⟩ := Sqz.be H; have H' := Aside0.mk H; clear H
   go_wp2_with (first | ((with_reducible refine gate_callee (f := 44) rfl ?_); refine goesL_ (some 9) rfl rfl Try.func44 (by kernel_rfl) rfl #[.slice A0 l0.length c0] rfl Sqz.auM ?_; (with_reducible refine (impl_FormValid.calls k _ _ l0 true _ ?side1 ?side2 A4.out).mono ?_); (case side1 => exact Sqz.mvC ((Kd.C_below HR0.out HB.out))); (case side2 => exact HC0.out); rintro e w7 ⟨rfl, hb⟩; refine ⟨_, rfl, ?_⟩; replace HB := Aside0.mk (below_step (Sqz.auHB) hb); (try clear hb)) | (go_at_call 60; (with_reducible refine (impl_valueOk.calls a1 t613 _ A6.out).mono ?_); rintro e w' ⟨rfl, ⟨nd, rfl⟩⟩))
   go_meet
   case rel => exact ⟨_, (!t613), Sqz.auS, H', ⟨Sqz.auN⟩, ⟨Sqz.auHB⟩⟩
  ·replace c5 := Bool.eq_false_iff.mpr c5; subst c5; have H1 : (impl_ValueBad.j0 k l0 a1 true) = some r := by rw [if_neg (show ¬ (false = true) by decide)] at H; exact H
   clear H; have H := H1; clear H1; have H' := Aside0.mk H; clear H
   go_wp2_with (((with_reducible refine gate_callee (f := 44) rfl ?_); refine goesL_ (some 9) rfl rfl Try.func44 (by kernel_rfl) rfl #[.slice A0 l0.length c0] rfl Sqz.auM ?_; (with_reducible refine (impl_FormValid.calls k _ _ l0 false _ ?side1 ?side2 A4.out).mono ?_); (case side1 => exact Sqz.mvC ((Kd.C_below HR0.out HB.out))); (case side2 => exact HC0.out); rintro e w8 ⟨rfl, hb⟩; refine ⟨_, rfl, ?_⟩; replace HB := Aside0.mk (below_step (Sqz.auHB) hb); (try clear hb)))
   go_meet
   case rel => exact ⟨_, (true), Sqz.auS, H', ⟨Sqz.auN⟩, ⟨Sqz.auHB⟩⟩
 case rest =>
  clear HC3
  obtain ⟨kq, x15_2, rfl, HA, HJ2, HB⟩ := hcut; cases kq with
  | zero => exact absurd HA.out (by simp [impl_ValueBad.j0])
  | succ kj2 =>
   have H := HA.out; clear HA; simp only [impl_ValueBad.j0] at H
   by_cases c9 : x15_2 = true
   ·subst c9; have H1 : (some ([] : List Int)) = some r := by rw [if_pos rfl] at H; exact H
    clear H; have H := H1; clear H1; obtain rfl := Option.some.inj H; go_wp2; go_ret
    exact ⟨_, Sqz.auR, by first | exact Kd.R_nil _ _ _ _ _ | exact Kd.N_nil _ _ _ _ _ | exact Kd.V_nil _ _ _ _ _ | exact Kd.Q_nil _ _ _ _ _ | exact Kd.S_nil _ _ _ _ _, Sqz.auHB⟩
   ·replace c9 := Bool.eq_false_iff.mpr c9; subst c9; have H1 : ((slices_Clone_int_int.f l0).bind fun t617 => (if t617.length < 17592186044416 then ((impl_placesOf.f kj2 (t617 ++ [a1])).bind fun t623 => (impl_ValueBad.l0 kj2 l0 a1 (([] : List Int)) t623 (t623.length : Int) 0)) else (none))) = some r := by rw [if_neg (show ¬ (false = true) by decide)] at H; exact H
    clear H; have H := H1; clear H1; obtain ⟨y614, hyy⟩ : ∃ y_ : List Int, y_ = (([] : List Int)) := ⟨_, rfl⟩
    replace H : ((slices_Clone_int_int.f l0).bind fun t617 => (if t617.length < 17592186044416 then ((impl_placesOf.f kj2 (t617 ++ [a1])).bind fun t623 => (impl_ValueBad.l0 kj2 l0 a1 y614 t623 (t623.length : Int) 0)) else (none))) = some r := Sqz.auY
    have Ny614 := Aside0.mk hyy; clear hyy; obtain ⟨t617, A10, H⟩ := Sqz.be H
    by_cases c11 : t617.length < 17592186044416
    ·rw [if_pos c11] at H; have LMc11 := Aside0.mk c11; clear c11; obtain ⟨y620, hyy⟩ : ∃ y_ : List Int, y_ = (t617 ++ [a1]) := ⟨_, rfl⟩
     replace H : ((impl_placesOf.f kj2 y620).bind fun t623 => (impl_ValueBad.l0 kj2 l0 a1 y614 t623 (t623.length : Int) 0)) = some r := Sqz.auY
     have Ny620 := Aside0.mk hyy; clear hyy; obtain ⟨t623, A12, H⟩ := Sqz.be H; have H' := Aside0.mk H; clear H
     go_wp2_with (first | ((with_reducible refine gate_dst (N := 16) rfl ?_); refine Kd.R_lit (Kd.int .i64) _ 3 ?hg (N := 16) ?hd (xs := ([] : List Int)) (inner := []) (ok := fun _ => True) (okp := fun _ => True) ?hr ?hp (fun _ hk => hk) trivial (Below.refl _ _) (Nat.le_refl _) (by simp) ?_; (case hd => rfl); (case hg => rfl); (case hr => first | (go_simp; done) | (go_simp; rfl)); (case hp => exact (Reps.none _ _)); intro v615 w13 ho14 hb hg_ hnew_; clear hg_ hnew_; (first | rw [← Ny614.out] at ho14 | (simp only [Int.reduceToNat] at ho14; rw [← Ny614.out] at ho14)); have HO616 := Aside0.mk (Kd.R_lower ho14 (below_size (Sqz.auHB))); replace HB := Aside0.mk (below_step (Sqz.auHB) hb); clear hb ho14) | ((with_reducible refine gate_callee (f := 57) rfl ?_); refine goesL_ (some 18) rfl rfl Try.func57 (by kernel_rfl) rfl #[.slice A0 l0.length c0] rfl Sqz.auM ?_; (with_reducible refine (slices_Clone_int_int.calls _ _ l0 t617 _ ?side1 ?side2 A10.out).mono ?_); (case side1 => exact Sqz.mvC ((Kd.C_below HR0.out HB.out))); (case side2 => exact HC0.out); rintro e w15 ⟨v618, rfl, ho0, hb⟩; refine ⟨_, rfl, ?_⟩; have HO619 := Aside0.mk (Kd.R_lower (Kd.R_new' ho0 (Kd.R_lt ((Sqz.mvR HO616.out)))) (below_size (Sqz.auHB))); replace HO616 := Aside0.mk (Kd.R_elder' ((Sqz.mvR HO616.out)) (Kd.R_base ho0) hb); replace HB := Aside0.mk (below_step (Sqz.auHB) hb); (try clear hb); (try clear ho0)) | ((with_reducible refine gate_builtin (b := .append) (xs := #[.tmp 18, .tmp 20]) rfl ?_); at_builtin; refine Kd.R_append (Kd.int .i64) (w0 := w) w.heap.size rfl (.tmp 18) (.tmp 20) 22 3 (.int .i64 0) 8 rfl Try.underlying22 info3 rfl (by decide) (by omega) v618 t617 a1 [.int .i64 a1] (fun k_ => some k_ ≠ (v615 : Value).ownBlock) (fun _ => False) rfl rfl ?aP (fun _ hk => hk.elim) ?aF ?aO ?aB ?aS ?aL ?_; (case aP => exact rfl); (case aB => exact (Sqz.auHB)); (case aF => exact (fun k_ hk => Kd.fresh' (Kd.R_lt ((Sqz.mvR HO616.out))) k_ hk)); (case aO => exact ((Sqz.mvR (Kd.R_mono HO619.out (fun _ hk => hk.2))))); (case aS => exact (below_size (Sqz.auHB))); (case aL => have := LMc11.out; omega); intro v621 w16 ho hb hg hat; rw [← Ny620.out] at ho; replace HO616 := Aside0.mk (Kd.R_after (ok := (fun _ => True)) ((Sqz.mvR HO616.out)) hg hat); replace HB := Aside0.mk (hb); have HO622 := Aside0.mk (ho); clear HO619; clear ho hb hg hat; obtain ⟨Ao17, co17, eo17⟩ := Kd.R_slice HO622.out; subst eo17) | ((with_reducible refine gate_callee (f := 56) rfl ?_); refine goesL_ (some 22) rfl rfl Try.func56 (by kernel_rfl) rfl #[.slice Ao17 y620.length co17] rfl Sqz.auM ?_; (with_reducible refine (impl_placesOf.calls kj2 _ _ y620 t623 _ ?side1 ?side2 A12.out).mono ?_); (case side1 => exact Sqz.mvC ((Kd.R_reads' HO622.out).2.2)); (case side2 => exact (Kd.R_reads' HO622.out).2.1); rintro e w18 ⟨v624, rfl, ho0, hb⟩; refine ⟨_, rfl, ?_⟩; have HO625 := Aside0.mk (Kd.R_lower (Kd.R_new' (Kd.R_new' ho0 (Kd.R_lt ((Sqz.mvR HO616.out)))) (Kd.R_lt ((Sqz.mvR HO622.out)))) (below_size (Sqz.auHB))); replace HO616 := Aside0.mk (Kd.R_elder' ((Sqz.mvR HO616.out)) (Kd.R_base ho0) hb); replace HO622 := Aside0.mk (Kd.R_elder' ((Sqz.mvR HO622.out)) (Kd.R_base ho0) hb); replace HB := Aside0.mk (below_step (Sqz.auHB) hb); (try clear hb); (try clear ho0); obtain ⟨Ao19, co19, eo19⟩ := Kd.R_slice HO625.out; subst eo19))
     go_loopg [5, 24] kj2 (fun kq v5 v24 w' => ∃ (x5_2 : List Int) (x24_2 : Int), v24 = .int .i64 x24_2 ∧ Aside0 (impl_ValueBad.l0 kq l0 a1 x5_2 t623 (t623.length : Int) x24_2 = some r) ∧ Aside0 (kq ≤ kj2) ∧ Aside0 (Kd.R (Kd.int .i64) 3 w' w.heap.size (fun k_ => some k_ ≠ ((.slice Ao19 t623.length co19) : Value).ownBlock) v5 x5_2) ∧ Aside0 (Kd.R (Kd.int .i64) 3 w' w.heap.size (fun k_ => some k_ ≠ (v5 : Value).ownBlock) (.slice Ao19 t623.length co19) t623) ∧ Aside0 (Below w.heap.size w w'))
     case atStart => exact ⟨(y614), (0), Sqz.auS, H', ⟨Nat.le_refl _⟩, ⟨(Sqz.mvR (Kd.R_mono HO616.out (fun _ hk => hk.2)))⟩, ⟨(Sqz.mvR (Kd.R_mono HO625.out (fun _ hk => hk.1.2)))⟩, ⟨Sqz.auHB⟩⟩
     case round =>
      clear H'
      obtain ⟨x5_2, x24_2, rfl, HA, HK2, HO_5, HO_22, HB⟩ := hrel; cases gk with
      | zero => exact absurd HA.out (by simp [impl_ValueBad.l0])
      | succ k2 =>
       have H := HA.out; clear HA; simp only [impl_ValueBad.l0] at H
       by_cases c20 : x24_2 < (t623.length : Int)
       ·rw [if_pos c20] at H; have c20b0 := decide_eq_true c20; clear c20
        by_cases c21 : 0 ≤ x24_2
        ·rw [if_pos c21] at H; have c21b0 := decide_eq_true c21; clear c21
         by_cases c22 : x24_2 < (t623.length : Int)
         ·rw [if_pos c22] at H; have c22b0 := decide_eq_true c22; clear c22; obtain ⟨t627, A23, H⟩ := Sqz.be H
          by_cases c24 : t627 = true
          ·subst c24; have H1 : (impl_ValueBad.l0 k2 l0 a1 x5_2 t623 (t623.length : Int) (wrap64 (x24_2 + 1))) = some r := by rw [if_pos rfl] at H; exact H
           clear H; have H := H1; clear H1; have H' := Aside0.mk H; clear H; have p626 : 0 ≤ (x24_2 : Int) := Sqz.od; have q626 : x24_2 < (t623.length : Int) := Sqz.od; obtain ⟨ad626, e626, hx626_0⟩ := Kd.at_int (Kd.R_reads' HO_22.out).2.2 x24_2 p626 q626; cases e626; replace p626 := eq_true p626; replace q626 := eq_true q626
           go_wp2_with (((with_reducible refine gate_callee (f := 90) rfl ?_); refine goesL_ (some 31) rfl rfl Try.func90 (by kernel_rfl) rfl #[.slice A0 l0.length c0, .int .i64 a1, .int .i64 (rd t623 x24_2)] rfl Sqz.auM ?_; (with_reducible refine (impl_represents.calls k2 _ _ l0 a1 (rd t623 x24_2) true _ ?side1 ?side2 A23.out).mono ?_); (case side1 => exact Sqz.mvC ((Kd.C_below HR0.out HB.out))); (case side2 => exact HC0.out); rintro e w25 ⟨rfl, hb⟩; refine ⟨_, rfl, ?_⟩; replace HO_5 := Aside0.mk (Kd.R_below ((Sqz.mvR HO_5.out)) hb); replace HO_22 := Aside0.mk (Kd.R_below ((Sqz.mvR HO_22.out)) hb); replace HB := Aside0.mk (below_step (Sqz.auHB) hb); (try clear hb)))
           go_roundg k2
           case measure => have := HJ2.out; have := HK2.out; omega
           case rel => exact ⟨(x5_2), (wrap64 (x24_2 + 1)), Sqz.auS, H', ⟨by have := HJ2.out; have := HK2.out; omega⟩, ⟨(Sqz.mvR HO_5.out)⟩, ⟨(Sqz.mvR HO_22.out)⟩, ⟨Sqz.auHB⟩⟩
          ·replace c24 := Bool.eq_false_iff.mpr c24; subst c24; have H1 : (if x5_2.length < 17592186044416 then (impl_ValueBad.l0 k2 l0 a1 (x5_2 ++ [rd t623 x24_2]) t623 (t623.length : Int) (wrap64 (x24_2 + 1))) else (none)) = some r := by rw [if_neg (show ¬ (false = true) by decide)] at H; exact H
           clear H; have H := H1; clear H1
           by_cases c26 : x5_2.length < 17592186044416
           ·rw [if_pos c26] at H; have LMc26 := Aside0.mk c26; clear c26; obtain ⟨y628, hyy⟩ : ∃ y_ : List Int, y_ = (x5_2 ++ [rd t623 x24_2]) := ⟨_, rfl⟩
            replace H : (impl_ValueBad.l0 k2 l0 a1 y628 t623 (t623.length : Int) (wrap64 (x24_2 + 1))) = some r := Sqz.auY
            have Ny628 := Aside0.mk hyy; clear hyy; have H' := Aside0.mk H; clear H; have p626 : 0 ≤ (x24_2 : Int) := Sqz.od; have q626 : x24_2 < (t623.length : Int) := Sqz.od; obtain ⟨ad626, e626, hx626_0⟩ := Kd.at_int (Kd.R_reads' HO_22.out).2.2 x24_2 p626 q626; cases e626; replace p626 := eq_true p626; replace q626 := eq_true q626
            go_wp2_with (first | ((with_reducible refine gate_callee (f := 90) rfl ?_); refine goesL_ (some 31) rfl rfl Try.func90 (by kernel_rfl) rfl #[.slice A0 l0.length c0, .int .i64 a1, .int .i64 (rd t623 x24_2)] rfl Sqz.auM ?_; (with_reducible refine (impl_represents.calls k2 _ _ l0 a1 (rd t623 x24_2) false _ ?side1 ?side2 A23.out).mono ?_); (case side1 => exact Sqz.mvC ((Kd.C_below HR0.out HB.out))); (case side2 => exact HC0.out); rintro e w27 ⟨rfl, hb⟩; refine ⟨_, rfl, ?_⟩; replace HO_5 := Aside0.mk (Kd.R_below ((Sqz.mvR HO_5.out)) hb); replace HO_22 := Aside0.mk (Kd.R_below ((Sqz.mvR HO_22.out)) hb); replace HB := Aside0.mk (below_step (Sqz.auHB) hb); (try clear hb)) | ((with_reducible refine gate_builtin (b := .append) (xs := #[.tmp 33, .tmp 35]) rfl ?_); at_builtin; refine Kd.R_append (Kd.int .i64) (w0 := w) w.heap.size rfl (.tmp 33) (.tmp 35) 22 3 (.int .i64 0) 8 rfl Try.underlying22 info3 rfl (by decide) (by omega) u5 x5_2 (rd t623 x24_2) [.int .i64 (rd t623 x24_2)] (fun k_ => some k_ ≠ (.slice (some ad626) t623.length co19 : Value).ownBlock) (fun _ => False) rfl rfl ?aP (fun _ hk => hk.elim) ?aF ?aO ?aB ?aS ?aL ?_; (case aP => exact rfl); (case aB => exact (Sqz.auHB)); (case aF => exact (fun k_ hk => Kd.fresh' (Kd.R_lt ((Sqz.mvR HO_22.out))) k_ hk)); (case aO => exact ((Sqz.mvR HO_5.out))); (case aS => exact (below_size (Sqz.auHB))); (case aL => have := LMc26.out; omega); intro v629 w28 ho hb hg hat; rw [← Ny628.out] at ho; replace HO_22 := Aside0.mk (Kd.R_after (ok := (fun _ => True)) ((Sqz.mvR (Kd.R_mono HO_22.out (fun _ hk => ⟨trivial, hk⟩)))) hg hat); replace HB := Aside0.mk (hb); have HO630 := Aside0.mk (ho); clear HO_5; clear ho hb hg hat))
            go_roundg k2
            case measure => have := HJ2.out; have := HK2.out; omega
            case rel => exact ⟨(y628), (wrap64 (x24_2 + 1)), Sqz.auS, H', ⟨by have := HJ2.out; have := HK2.out; omega⟩, ⟨(Sqz.mvR HO630.out)⟩, ⟨(Sqz.mvR (Kd.R_mono HO_22.out (fun _ hk => hk.2)))⟩, ⟨Sqz.auHB⟩⟩
           ·rw [if_neg c26] at H; exact absurd H (by simp)
         ·rw [if_neg c22] at H; exact absurd H (by simp)
        ·rw [if_neg c21] at H; exact absurd H (by simp)
       ·rw [if_neg c20] at H; have c20b0 := decide_eq_false c20; clear c20; obtain rfl := Option.some.inj H; go_wp2; go_ret
        exact ⟨_, Sqz.auR, (Sqz.mvR (Kd.R_mono HO_5.out (fun _ hk => trivial))), Sqz.auHB⟩
    ·rw [if_neg c11] at H; exact absurd H (by simp)

/-! ### impl_ValueEverywhere: function 34 -/
def impl_ValueEverywhere.f (k : Nat) (l0 : List Int) (a1 : Int) : Option (Bool) := (impl_FormValid.f k l0).bind fun t631 => (if t631 = true then ((impl_valueOk.f a1).bind fun t632 => (if t632 = true then ((impl_ValueBad.f k l0 a1).bind fun t633 => (some ((t633.length : Int) == 0))) else (some false))) else (some false))
set_option maxHeartbeats 8000000 in
set_option maxRecDepth 100000 in
theorem impl_ValueEverywhere.calls (k : Nat) (A0 : Option Addr) (c0 : Nat) (l0 : List Int) (a1 : Int) (r : Bool) (w : World) (hr0 : Kd.C (Kd.int .i64) w A0 l0.length l0) (hc0 : l0.length ≤ c0) (h : impl_ValueEverywhere.f k l0 a1 = some r) :
  Calls Try.prog 34 #[.slice A0 l0.length c0, .int .i64 a1] w fun e w' => e = .returned (.bool r) ∧ Below w.heap.size w w' := by
 have HR0 := Aside0.mk hr0; have HC0 := Aside0.mk hc0; clear hr0 hc0; have HB := Aside0.mk (Below.refl w.heap.size w); have H : ((impl_FormValid.f k l0).bind fun t631 => (if t631 = true then ((impl_valueOk.f a1).bind fun t632 => (if t632 = true then ((impl_ValueBad.f k l0 a1).bind fun t633 => (some ((t633.length : Int) == 0))) else (some false))) else (some false))) = some r := h; clear h; obtain ⟨t631, A3, H⟩ := Sqz.be H
 by_cases c4 : t631 = true
 ·subst c4; have H1 : ((impl_valueOk.f a1).bind fun t632 => (if t632 = true then ((impl_ValueBad.f k l0 a1).bind fun t633 => (some ((t633.length : Int) == 0))) else (some false))) = some r := by rw [if_pos rfl] at H; exact H
  clear H; have H := H1; clear H1; obtain ⟨t632, A5, H⟩ := Sqz.be H
  by_cases c6 : t632 = true
  ·subst c6; have H1 : ((impl_ValueBad.f k l0 a1).bind fun t633 => (some ((t633.length : Int) == 0))) = some r := by rw [if_pos rfl] at H; exact H
   clear H; have H := H1; clear H1; obtain ⟨t633, A7, H⟩ := Sqz.be H; obtain rfl := Option.some.inj H
   go_enter Try.func34, Try.ntmps34
   go_wp2_with (first | ((with_reducible refine gate_callee (f := 44) rfl ?_); refine goesL_ (some 6) rfl rfl Try.func44 (by kernel_rfl) rfl #[.slice A0 l0.length c0] rfl Sqz.auM ?_; (with_reducible refine (impl_FormValid.calls k _ _ l0 true _ ?side1 ?side2 A3.out).mono ?_); (case side1 => exact Sqz.mvC (HR0.out)); (case side2 => exact HC0.out); rintro e w8 ⟨rfl, hb⟩; refine ⟨_, rfl, ?_⟩; replace HB := Aside0.mk (below_step (Sqz.auHB) hb); (try clear hb)) | (go_at_call 60; (with_reducible refine (impl_valueOk.calls a1 true _ A5.out).mono ?_); rintro e w' ⟨rfl, ⟨nd, rfl⟩⟩) | (go_at_call 67; (with_reducible refine (impl_ValueBad.calls k _ _ l0 a1 t633 _ ?side1 ?side2 A7.out).mono ?_); (case side1 => repeat (first | exact (Kd.C_below HR0.out (Sqz.auHB)) | (with_reducible refine Kd.C_alloc ?_ _) | (with_reducible refine Kd.C_drewN ?_ _) | (with_reducible refine Kd.C_drew ?_))); (case side2 => exact HC0.out); rintro e w9 ⟨v634, rfl, ho0, hb⟩; have HO635 := Aside0.mk (Kd.R_lower ho0 (below_size (Sqz.auHB))); replace HB := Aside0.mk (below_step (Sqz.auHB) hb); (try clear hb); (try clear ho0); obtain ⟨Ao10, co10, eo10⟩ := Kd.R_slice HO635.out; subst eo10))
   go_ret
   exact ⟨Sqz.auR, Sqz.auHB⟩
  ·replace c6 := Bool.eq_false_iff.mpr c6; subst c6; have H1 : (some false) = some r := by rw [if_neg (show ¬ (false = true) by decide)] at H; exact H
   clear H; have H := H1; clear H1; obtain rfl := Option.some.inj H
   go_enter Try.func34, Try.ntmps34
   go_wp2_with (first | ((with_reducible refine gate_callee (f := 44) rfl ?_); refine goesL_ (some 6) rfl rfl Try.func44 (by kernel_rfl) rfl #[.slice A0 l0.length c0] rfl Sqz.auM ?_; (with_reducible refine (impl_FormValid.calls k _ _ l0 true _ ?side1 ?side2 A3.out).mono ?_); (case side1 => exact Sqz.mvC (HR0.out)); (case side2 => exact HC0.out); rintro e w11 ⟨rfl, hb⟩; refine ⟨_, rfl, ?_⟩; replace HB := Aside0.mk (below_step (Sqz.auHB) hb); (try clear hb)) | (go_at_call 60; (with_reducible refine (impl_valueOk.calls a1 false _ A5.out).mono ?_); rintro e w' ⟨rfl, ⟨nd, rfl⟩⟩))
   go_ret
   exact ⟨Sqz.auR, Sqz.auHB⟩
 ·replace c4 := Bool.eq_false_iff.mpr c4; subst c4; have H1 : (some false) = some r := by rw [if_neg (show ¬ (false = true) by decide)] at H; exact H
  clear H; have H := H1; clear H1; obtain rfl := Option.some.inj H
  go_enter Try.func34, Try.ntmps34
  go_wp2_with (((with_reducible refine gate_callee (f := 44) rfl ?_); refine goesL_ (some 6) rfl rfl Try.func44 (by kernel_rfl) rfl #[.slice A0 l0.length c0] rfl Sqz.auM ?_; (with_reducible refine (impl_FormValid.calls k _ _ l0 false _ ?side1 ?side2 A3.out).mono ?_); (case side1 => exact Sqz.mvC (HR0.out)); (case side2 => exact HC0.out); rintro e w12 ⟨rfl, hb⟩; refine ⟨_, rfl, ?_⟩; replace HB := Aside0.mk (below_step (Sqz.auHB) hb); (try clear hb)))
  go_ret
  exact ⟨Sqz.auR, Sqz.auHB⟩

/-! ### laws_FnValueThere: function 10 -/
def laws_FnValueThere.f (k : Nat) (l0 : List Int) : Option (Bool) := if (l0.length : Int) > 1048576 then (some true) else ((spec_DrawValueFind.f k l0).bind fun bt636 => ((impl_ValueFind.f k bt636.1 bt636.2).bind fun bt640 => ((spec_ValueFind.f k bt636.1 bt636.2).bind fun bt645 => (if (bt640.2.2 != bt645.2.2) = true then (some false) else ((laws_sameInts.f k bt640.1 bt645.1).bind fun t650 => (if t650 = true then (if bt640.2.1 = bt645.2.1 then (if (bt636.1.length : Int) > 2 then (some true) else ((impl_ValueEverywhere.f k bt636.1 bt636.2).bind fun t651 => (some (bt640.2.2 == t651)))) else (some false)) else (some false)))))))
set_option maxHeartbeats 8000000 in
set_option maxRecDepth 100000 in
theorem laws_FnValueThere.calls (k : Nat) (A0 : Option Addr) (c0 : Nat) (l0 : List Int) (r : Bool) (w : World) (hr0 : Kd.C (Kd.int .u8) w A0 l0.length l0) (hc0 : l0.length ≤ c0) (h : laws_FnValueThere.f k l0 = some r) :
  Calls Try.prog 10 #[.slice A0 l0.length c0] w fun e w' => e = .returned (.bool r) ∧ Below w.heap.size w w' := by
 have HR0 := Aside0.mk hr0; have HC0 := Aside0.mk hc0; clear hr0 hc0; have HB := Aside0.mk (Below.refl w.heap.size w); have H : (if (l0.length : Int) > 1048576 then (some true) else ((spec_DrawValueFind.f k l0).bind fun bt636 => ((impl_ValueFind.f k bt636.1 bt636.2).bind fun bt640 => ((spec_ValueFind.f k bt636.1 bt636.2).bind fun bt645 => (if (bt640.2.2 != bt645.2.2) = true then (some false) else ((laws_sameInts.f k bt640.1 bt645.1).bind fun t650 => (if t650 = true then (if bt640.2.1 = bt645.2.1 then (if (bt636.1.length : Int) > 2 then (some true) else ((impl_ValueEverywhere.f k bt636.1 bt636.2).bind fun t651 => (some (bt640.2.2 == t651)))) else (some false)) else (some false)))))))) = some r := h; clear h
 by_cases c2 : (l0.length : Int) > 1048576
 ·rw [if_pos c2] at H; have c2b0 : decide (1048576 < (l0.length : Int)) = true := decide_eq_true c2; clear c2; obtain rfl := Option.some.inj H
  go_enter Try.func10, Try.ntmps10
  go_wp2; go_ret
  exact ⟨Sqz.auR, Sqz.auHB⟩
 ·rw [if_neg c2] at H; have c2b0 : decide (1048576 < (l0.length : Int)) = false := decide_eq_false c2; clear c2; replace H := Option.bind_eq_some_iff.mp H; obtain ⟨⟨t636, t637⟩, A30, H⟩ := H; replace H : ((impl_ValueFind.f k t636 t637).bind fun bt640 => ((spec_ValueFind.f k t636 t637).bind fun bt645 => (if (bt640.2.2 != bt645.2.2) = true then (some false) else ((laws_sameInts.f k bt640.1 bt645.1).bind fun t650 => (if t650 = true then (if bt640.2.1 = bt645.2.1 then (if (t636.length : Int) > 2 then (some true) else ((impl_ValueEverywhere.f k t636 t637).bind fun t651 => (some (bt640.2.2 == t651)))) else (some false)) else (some false)))))) = some r := H; have A3 := Aside0.mk A30; clear A30; replace H := Option.bind_eq_some_iff.mp H; obtain ⟨⟨t640, t641, t642⟩, A40, H⟩ := H; replace H : ((spec_ValueFind.f k t636 t637).bind fun bt645 => (if (t642 != bt645.2.2) = true then (some false) else ((laws_sameInts.f k t640 bt645.1).bind fun t650 => (if t650 = true then (if t641 = bt645.2.1 then (if (t636.length : Int) > 2 then (some true) else ((impl_ValueEverywhere.f k t636 t637).bind fun t651 => (some (t642 == t651)))) else (some false)) else (some false))))) = some r := H; have A4 := Aside0.mk A40; clear A40; replace H := Option.bind_eq_some_iff.mp H; obtain ⟨⟨t645, t646, t647⟩, A50, H⟩ := H; replace H : (if (t642 != t647) = true then (some false) else ((laws_sameInts.f k t640 t645).bind fun t650 => (if t650 = true then (if t641 = t646 then (if (t636.length : Int) > 2 then (some true) else ((impl_ValueEverywhere.f k t636 t637).bind fun t651 => (some (t642 == t651)))) else (some false)) else (some false)))) = some r := H; have A5 := Aside0.mk A50; clear A50
  by_cases c6 : (t642 != t647) = true
  ·rw [if_pos c6] at H; (try (skip)); (try (have c6b2 : (t642 == t647) = false := by simpa using c6)); (try (skip)); clear c6; obtain rfl := Option.some.inj H
   go_enter Try.func10, Try.ntmps10
   go_wp2_with (first | ((with_reducible refine gate_callee (f := 31) rfl ?_); refine goesL_ (some 16) rfl rfl Try.func31 (by kernel_rfl) rfl #[.slice A0 l0.length c0] rfl Sqz.auM ?_; (with_reducible refine (spec_DrawValueFind.calls k _ _ l0 t636 t637 _ ?side1 ?side2 A3.out).mono ?_); (case side1 => exact Sqz.mvC (HR0.out)); (case side2 => exact HC0.out); rintro e w7 ⟨v638, rfl, ho0, hb⟩; refine ⟨_, rfl, ?_⟩; have HO639 := Aside0.mk (Kd.R_lower ho0 (below_size (Sqz.auHB))); replace HB := Aside0.mk (below_step (Sqz.auHB) hb); (try clear hb); (try clear ho0); obtain ⟨Ao8, co8, eo8⟩ := Kd.R_slice HO639.out; subst eo8) | ((with_reducible refine gate_callee (f := 32) rfl ?_); refine goesL_ (some 22) rfl rfl Try.func32 (by kernel_rfl) rfl #[.slice Ao8 t636.length co8, .int .i64 t637] rfl Sqz.auM ?_; (with_reducible refine (impl_ValueFind.calls k _ _ t636 t637 t640 t641 t642 _ ?side1 ?side2 A4.out).mono ?_); (case side1 => exact Sqz.mvC ((Kd.R_reads' HO639.out).2.2)); (case side2 => exact (Kd.R_reads' HO639.out).2.1); rintro e w9 ⟨v643, rfl, ho0, hb⟩; refine ⟨_, rfl, ?_⟩; have HO644 := Aside0.mk (Kd.R_lower (Kd.R_new' ho0 (Kd.R_lt ((Sqz.mvR HO639.out)))) (below_size (Sqz.auHB))); replace HO639 := Aside0.mk (Kd.R_elder' ((Sqz.mvR HO639.out)) (Kd.R_base ho0) hb); replace HB := Aside0.mk (below_step (Sqz.auHB) hb); (try clear hb); (try clear ho0)) | ((with_reducible refine gate_callee (f := 33) rfl ?_); refine goesL_ (some 29) rfl rfl Try.func33 (by kernel_rfl) rfl #[.slice Ao8 t636.length co8, .int .i64 t637] rfl Sqz.auM ?_; (with_reducible refine (spec_ValueFind.calls k _ _ t636 t637 t645 t646 t647 _ ?side1 ?side2 A5.out).mono ?_); (case side1 => exact Sqz.mvC ((Kd.R_reads' HO639.out).2.2)); (case side2 => exact (Kd.R_reads' HO639.out).2.1); rintro e w10 ⟨v648, rfl, ho0, hb⟩; refine ⟨_, rfl, ?_⟩; have HO649 := Aside0.mk (Kd.R_lower (Kd.R_new' (Kd.R_new' ho0 (Kd.R_lt ((Sqz.mvR HO639.out)))) (Kd.R_lt ((Sqz.mvR HO644.out)))) (below_size (Sqz.auHB))); replace HO639 := Aside0.mk (Kd.R_elder' ((Sqz.mvR HO639.out)) (Kd.R_base ho0) hb); replace HO644 := Aside0.mk (Kd.R_elder' ((Sqz.mvR HO644.out)) (Kd.R_base ho0) hb); replace HB := Aside0.mk (below_step (Sqz.auHB) hb); (try clear hb); (try clear ho0)))
   go_ret
   exact ⟨Sqz.auR, Sqz.auHB⟩
  ·rw [if_neg c6] at H
   (try (skip)); (try (have c6b2 : (t642 == t647) = true := by simpa using c6)); clear c6; obtain ⟨t650, A11, H⟩ := Sqz.be H
   by_cases c12 : t650 = true
   ·subst c12; have H1 : (if t641 = t646 then (if (t636.length : Int) > 2 then (some true) else ((impl_ValueEverywhere.f k t636 t637).bind fun t651 => (some (t642 == t651)))) else (some false)) = some r := by rw [if_pos rfl] at H; exact H
    clear H; have H := H1; clear H1
    by_cases c13 : t641 = t646
    ·rw [if_pos c13] at H; have c13b1 := bne_eq_false_iff_eq.mpr c13; clear c13
     by_cases c14 : (t636.length : Int) > 2
     ·rw [if_pos c14] at H; have c14b0 : decide (2 < (t636.length : Int)) = true := decide_eq_true c14; clear c14; obtain rfl := Option.some.inj H
      go_enter Try.func10, Try.ntmps10
      go_wp2_with (first | ((with_reducible refine gate_callee (f := 31) rfl ?_); refine goesL_ (some 16) rfl rfl Try.func31 (by kernel_rfl) rfl #[.slice A0 l0.length c0] rfl Sqz.auM ?_; (with_reducible refine (spec_DrawValueFind.calls k _ _ l0 t636 t637 _ ?side1 ?side2 A3.out).mono ?_); (case side1 => exact Sqz.mvC (HR0.out)); (case side2 => exact HC0.out); rintro e w15 ⟨v638, rfl, ho0, hb⟩; refine ⟨_, rfl, ?_⟩; have HO639 := Aside0.mk (Kd.R_lower ho0 (below_size (Sqz.auHB))); replace HB := Aside0.mk (below_step (Sqz.auHB) hb); (try clear hb); (try clear ho0); obtain ⟨Ao16, co16, eo16⟩ := Kd.R_slice HO639.out; subst eo16) | ((with_reducible refine gate_callee (f := 32) rfl ?_); refine goesL_ (some 22) rfl rfl Try.func32 (by kernel_rfl) rfl #[.slice Ao16 t636.length co16, .int .i64 t637] rfl Sqz.auM ?_; (with_reducible refine (impl_ValueFind.calls k _ _ t636 t637 t640 t641 t642 _ ?side1 ?side2 A4.out).mono ?_); (case side1 => exact Sqz.mvC ((Kd.R_reads' HO639.out).2.2)); (case side2 => exact (Kd.R_reads' HO639.out).2.1); rintro e w17 ⟨v643, rfl, ho0, hb⟩; refine ⟨_, rfl, ?_⟩; have HO644 := Aside0.mk (Kd.R_lower (Kd.R_new' ho0 (Kd.R_lt ((Sqz.mvR HO639.out)))) (below_size (Sqz.auHB))); replace HO639 := Aside0.mk (Kd.R_elder' ((Sqz.mvR HO639.out)) (Kd.R_base ho0) hb); replace HB := Aside0.mk (below_step (Sqz.auHB) hb); (try clear hb); (try clear ho0)) | ((with_reducible refine gate_callee (f := 33) rfl ?_); refine goesL_ (some 29) rfl rfl Try.func33 (by kernel_rfl) rfl #[.slice Ao16 t636.length co16, .int .i64 t637] rfl Sqz.auM ?_; (with_reducible refine (spec_ValueFind.calls k _ _ t636 t637 t645 t646 t647 _ ?side1 ?side2 A5.out).mono ?_); (case side1 => exact Sqz.mvC ((Kd.R_reads' HO639.out).2.2)); (case side2 => exact (Kd.R_reads' HO639.out).2.1); rintro e w18 ⟨v648, rfl, ho0, hb⟩; refine ⟨_, rfl, ?_⟩; have HO649 := Aside0.mk (Kd.R_lower (Kd.R_new' (Kd.R_new' ho0 (Kd.R_lt ((Sqz.mvR HO639.out)))) (Kd.R_lt ((Sqz.mvR HO644.out)))) (below_size (Sqz.auHB))); replace HO639 := Aside0.mk (Kd.R_elder' ((Sqz.mvR HO639.out)) (Kd.R_base ho0) hb); replace HO644 := Aside0.mk (Kd.R_elder' ((Sqz.mvR HO644.out)) (Kd.R_base ho0) hb); replace HB := Aside0.mk (below_step (Sqz.auHB) hb); (try clear hb); (try clear ho0); obtain ⟨Ao19, co19, eo19⟩ := Kd.R_slice HO644.out; subst eo19; obtain ⟨Ao20, co20, eo20⟩ := Kd.R_slice HO649.out; subst eo20) | (go_at_call 19; (with_reducible refine (laws_sameInts.calls k _ _ t640 _ _ t645 true _ ?side1 ?side2 ?side3 ?side4 A11.out).mono ?_); (case side1 => exact Sqz.mvC ((Kd.R_reads' HO644.out).2.2)); (case side2 => exact (Kd.R_reads' HO644.out).2.1); (case side3 => exact Sqz.mvC ((Kd.R_reads' HO649.out).2.2)); (case side4 => exact (Kd.R_reads' HO649.out).2.1); rintro e w' ⟨rfl, ⟨nd, rfl⟩⟩))
      go_ret
      exact ⟨Sqz.auR, Sqz.auHB⟩
     ·rw [if_neg c14] at H; have c14b0 : decide (2 < (t636.length : Int)) = false := decide_eq_false c14; clear c14; obtain ⟨t651, A21, H⟩ := Sqz.be H; obtain rfl := Option.some.inj H
      go_enter Try.func10, Try.ntmps10
      go_wp2_with (first | ((with_reducible refine gate_callee (f := 31) rfl ?_); refine goesL_ (some 16) rfl rfl Try.func31 (by kernel_rfl) rfl #[.slice A0 l0.length c0] rfl Sqz.auM ?_; (with_reducible refine (spec_DrawValueFind.calls k _ _ l0 t636 t637 _ ?side1 ?side2 A3.out).mono ?_); (case side1 => exact Sqz.mvC (HR0.out)); (case side2 => exact HC0.out); rintro e w22 ⟨v638, rfl, ho0, hb⟩; refine ⟨_, rfl, ?_⟩; have HO639 := Aside0.mk (Kd.R_lower ho0 (below_size (Sqz.auHB))); replace HB := Aside0.mk (below_step (Sqz.auHB) hb); (try clear hb); (try clear ho0); obtain ⟨Ao23, co23, eo23⟩ := Kd.R_slice HO639.out; subst eo23) | ((with_reducible refine gate_callee (f := 32) rfl ?_); refine goesL_ (some 22) rfl rfl Try.func32 (by kernel_rfl) rfl #[.slice Ao23 t636.length co23, .int .i64 t637] rfl Sqz.auM ?_; (with_reducible refine (impl_ValueFind.calls k _ _ t636 t637 t640 t641 t642 _ ?side1 ?side2 A4.out).mono ?_); (case side1 => exact Sqz.mvC ((Kd.R_reads' HO639.out).2.2)); (case side2 => exact (Kd.R_reads' HO639.out).2.1); rintro e w24 ⟨v643, rfl, ho0, hb⟩; refine ⟨_, rfl, ?_⟩; have HO644 := Aside0.mk (Kd.R_lower (Kd.R_new' ho0 (Kd.R_lt ((Sqz.mvR HO639.out)))) (below_size (Sqz.auHB))); replace HO639 := Aside0.mk (Kd.R_elder' ((Sqz.mvR HO639.out)) (Kd.R_base ho0) hb); replace HB := Aside0.mk (below_step (Sqz.auHB) hb); (try clear hb); (try clear ho0)) | ((with_reducible refine gate_callee (f := 33) rfl ?_); refine goesL_ (some 29) rfl rfl Try.func33 (by kernel_rfl) rfl #[.slice Ao23 t636.length co23, .int .i64 t637] rfl Sqz.auM ?_; (with_reducible refine (spec_ValueFind.calls k _ _ t636 t637 t645 t646 t647 _ ?side1 ?side2 A5.out).mono ?_); (case side1 => exact Sqz.mvC ((Kd.R_reads' HO639.out).2.2)); (case side2 => exact (Kd.R_reads' HO639.out).2.1); rintro e w25 ⟨v648, rfl, ho0, hb⟩; refine ⟨_, rfl, ?_⟩; have HO649 := Aside0.mk (Kd.R_lower (Kd.R_new' (Kd.R_new' ho0 (Kd.R_lt ((Sqz.mvR HO639.out)))) (Kd.R_lt ((Sqz.mvR HO644.out)))) (below_size (Sqz.auHB))); replace HO639 := Aside0.mk (Kd.R_elder' ((Sqz.mvR HO639.out)) (Kd.R_base ho0) hb); replace HO644 := Aside0.mk (Kd.R_elder' ((Sqz.mvR HO644.out)) (Kd.R_base ho0) hb); replace HB := Aside0.mk (below_step (Sqz.auHB) hb); (try clear hb); (try clear ho0); obtain ⟨Ao26, co26, eo26⟩ := Kd.R_slice HO644.out; subst eo26; obtain ⟨Ao27, co27, eo27⟩ := Kd.R_slice HO649.out; subst eo27) | (go_at_call 19; (with_reducible refine (laws_sameInts.calls k _ _ t640 _ _ t645 true _ ?side1 ?side2 ?side3 ?side4 A11.out).mono ?_); (case side1 => exact Sqz.mvC ((Kd.R_reads' HO644.out).2.2)); (case side2 => exact (Kd.R_reads' HO644.out).2.1); (case side3 => exact Sqz.mvC ((Kd.R_reads' HO649.out).2.2)); (case side4 => exact (Kd.R_reads' HO649.out).2.1); rintro e w' ⟨rfl, ⟨nd, rfl⟩⟩) | (go_at_call 34; (with_reducible refine (impl_ValueEverywhere.calls k _ _ t636 t637 t651 _ ?side1 ?side2 A21.out).mono ?_); (case side1 => exact Sqz.mvC ((Kd.R_reads' HO639.out).2.2)); (case side2 => exact (Kd.R_reads' HO639.out).2.1); rintro e w28 ⟨rfl, hb⟩; replace HO639 := Aside0.mk (Kd.R_below ((Sqz.mvR HO639.out)) hb); replace HO644 := Aside0.mk (Kd.R_below ((Sqz.mvR HO644.out)) hb); replace HO649 := Aside0.mk (Kd.R_below ((Sqz.mvR HO649.out)) hb); replace HB := Aside0.mk (below_step (Sqz.auHB) hb); (try clear hb)))
      go_ret
      exact ⟨Sqz.auR, Sqz.auHB⟩
    ·rw [if_neg c13] at H; have c13b1 := bne_iff_ne.mpr c13; obtain rfl := Option.some.inj H
     go_enter Try.func10, Try.ntmps10
     go_wp2_with (first | ((with_reducible refine gate_callee (f := 31) rfl ?_); refine goesL_ (some 16) rfl rfl Try.func31 (by kernel_rfl) rfl #[.slice A0 l0.length c0] rfl Sqz.auM ?_; (with_reducible refine (spec_DrawValueFind.calls k _ _ l0 t636 t637 _ ?side1 ?side2 A3.out).mono ?_); (case side1 => exact Sqz.mvC (HR0.out)); (case side2 => exact HC0.out); rintro e w29 ⟨v638, rfl, ho0, hb⟩; refine ⟨_, rfl, ?_⟩; have HO639 := Aside0.mk (Kd.R_lower ho0 (below_size (Sqz.auHB))); replace HB := Aside0.mk (below_step (Sqz.auHB) hb); (try clear hb); (try clear ho0); obtain ⟨Ao30, co30, eo30⟩ := Kd.R_slice HO639.out; subst eo30) | ((with_reducible refine gate_callee (f := 32) rfl ?_); refine goesL_ (some 22) rfl rfl Try.func32 (by kernel_rfl) rfl #[.slice Ao30 t636.length co30, .int .i64 t637] rfl Sqz.auM ?_; (with_reducible refine (impl_ValueFind.calls k _ _ t636 t637 t640 t641 t642 _ ?side1 ?side2 A4.out).mono ?_); (case side1 => exact Sqz.mvC ((Kd.R_reads' HO639.out).2.2)); (case side2 => exact (Kd.R_reads' HO639.out).2.1); rintro e w31 ⟨v643, rfl, ho0, hb⟩; refine ⟨_, rfl, ?_⟩; have HO644 := Aside0.mk (Kd.R_lower (Kd.R_new' ho0 (Kd.R_lt ((Sqz.mvR HO639.out)))) (below_size (Sqz.auHB))); replace HO639 := Aside0.mk (Kd.R_elder' ((Sqz.mvR HO639.out)) (Kd.R_base ho0) hb); replace HB := Aside0.mk (below_step (Sqz.auHB) hb); (try clear hb); (try clear ho0)) | ((with_reducible refine gate_callee (f := 33) rfl ?_); refine goesL_ (some 29) rfl rfl Try.func33 (by kernel_rfl) rfl #[.slice Ao30 t636.length co30, .int .i64 t637] rfl Sqz.auM ?_; (with_reducible refine (spec_ValueFind.calls k _ _ t636 t637 t645 t646 t647 _ ?side1 ?side2 A5.out).mono ?_); (case side1 => exact Sqz.mvC ((Kd.R_reads' HO639.out).2.2)); (case side2 => exact (Kd.R_reads' HO639.out).2.1); rintro e w32 ⟨v648, rfl, ho0, hb⟩; refine ⟨_, rfl, ?_⟩; have HO649 := Aside0.mk (Kd.R_lower (Kd.R_new' (Kd.R_new' ho0 (Kd.R_lt ((Sqz.mvR HO639.out)))) (Kd.R_lt ((Sqz.mvR HO644.out)))) (below_size (Sqz.auHB))); replace HO639 := Aside0.mk (Kd.R_elder' ((Sqz.mvR HO639.out)) (Kd.R_base ho0) hb); replace HO644 := Aside0.mk (Kd.R_elder' ((Sqz.mvR HO644.out)) (Kd.R_base ho0) hb); replace HB := Aside0.mk (below_step (Sqz.auHB) hb); (try clear hb); (try clear ho0); obtain ⟨Ao33, co33, eo33⟩ := Kd.R_slice HO644.out; subst eo33; obtain ⟨Ao34, co34, eo34⟩ := Kd.R_slice HO649.out; subst eo34) | (go_at_call 19; (with_reducible refine (laws_sameInts.calls k _ _ t640 _ _ t645 true _ ?side1 ?side2 ?side3 ?side4 A11.out).mono ?_); (case side1 => exact Sqz.mvC ((Kd.R_reads' HO644.out).2.2)); (case side2 => exact (Kd.R_reads' HO644.out).2.1); (case side3 => exact Sqz.mvC ((Kd.R_reads' HO649.out).2.2)); (case side4 => exact (Kd.R_reads' HO649.out).2.1); rintro e w' ⟨rfl, ⟨nd, rfl⟩⟩))
     go_ret
     exact ⟨Sqz.auR, Sqz.auHB⟩
   ·replace c12 := Bool.eq_false_iff.mpr c12; subst c12; have H1 : (some false) = some r := by rw [if_neg (show ¬ (false = true) by decide)] at H; exact H
    clear H; have H := H1; clear H1; obtain rfl := Option.some.inj H
    go_enter Try.func10, Try.ntmps10
    go_wp2_with (first | ((with_reducible refine gate_callee (f := 31) rfl ?_); refine goesL_ (some 16) rfl rfl Try.func31 (by kernel_rfl) rfl #[.slice A0 l0.length c0] rfl Sqz.auM ?_; (with_reducible refine (spec_DrawValueFind.calls k _ _ l0 t636 t637 _ ?side1 ?side2 A3.out).mono ?_); (case side1 => exact Sqz.mvC (HR0.out)); (case side2 => exact HC0.out); rintro e w35 ⟨v638, rfl, ho0, hb⟩; refine ⟨_, rfl, ?_⟩; have HO639 := Aside0.mk (Kd.R_lower ho0 (below_size (Sqz.auHB))); replace HB := Aside0.mk (below_step (Sqz.auHB) hb); (try clear hb); (try clear ho0); obtain ⟨Ao36, co36, eo36⟩ := Kd.R_slice HO639.out; subst eo36) | ((with_reducible refine gate_callee (f := 32) rfl ?_); refine goesL_ (some 22) rfl rfl Try.func32 (by kernel_rfl) rfl #[.slice Ao36 t636.length co36, .int .i64 t637] rfl Sqz.auM ?_; (with_reducible refine (impl_ValueFind.calls k _ _ t636 t637 t640 t641 t642 _ ?side1 ?side2 A4.out).mono ?_); (case side1 => exact Sqz.mvC ((Kd.R_reads' HO639.out).2.2)); (case side2 => exact (Kd.R_reads' HO639.out).2.1); rintro e w37 ⟨v643, rfl, ho0, hb⟩; refine ⟨_, rfl, ?_⟩; have HO644 := Aside0.mk (Kd.R_lower (Kd.R_new' ho0 (Kd.R_lt ((Sqz.mvR HO639.out)))) (below_size (Sqz.auHB))); replace HO639 := Aside0.mk (Kd.R_elder' ((Sqz.mvR HO639.out)) (Kd.R_base ho0) hb); replace HB := Aside0.mk (below_step (Sqz.auHB) hb); (try clear hb); (try clear ho0)) | ((with_reducible refine gate_callee (f := 33) rfl ?_); refine goesL_ (some 29) rfl rfl Try.func33 (by kernel_rfl) rfl #[.slice Ao36 t636.length co36, .int .i64 t637] rfl Sqz.auM ?_; (with_reducible refine (spec_ValueFind.calls k _ _ t636 t637 t645 t646 t647 _ ?side1 ?side2 A5.out).mono ?_); (case side1 => exact Sqz.mvC ((Kd.R_reads' HO639.out).2.2)); (case side2 => exact (Kd.R_reads' HO639.out).2.1); rintro e w38 ⟨v648, rfl, ho0, hb⟩; refine ⟨_, rfl, ?_⟩; have HO649 := Aside0.mk (Kd.R_lower (Kd.R_new' (Kd.R_new' ho0 (Kd.R_lt ((Sqz.mvR HO639.out)))) (Kd.R_lt ((Sqz.mvR HO644.out)))) (below_size (Sqz.auHB))); replace HO639 := Aside0.mk (Kd.R_elder' ((Sqz.mvR HO639.out)) (Kd.R_base ho0) hb); replace HO644 := Aside0.mk (Kd.R_elder' ((Sqz.mvR HO644.out)) (Kd.R_base ho0) hb); replace HB := Aside0.mk (below_step (Sqz.auHB) hb); (try clear hb); (try clear ho0); obtain ⟨Ao39, co39, eo39⟩ := Kd.R_slice HO644.out; subst eo39; obtain ⟨Ao40, co40, eo40⟩ := Kd.R_slice HO649.out; subst eo40) | (go_at_call 19; (with_reducible refine (laws_sameInts.calls k _ _ t640 _ _ t645 false _ ?side1 ?side2 ?side3 ?side4 A11.out).mono ?_); (case side1 => exact Sqz.mvC ((Kd.R_reads' HO644.out).2.2)); (case side2 => exact (Kd.R_reads' HO644.out).2.1); (case side3 => exact Sqz.mvC ((Kd.R_reads' HO649.out).2.2)); (case side4 => exact (Kd.R_reads' HO649.out).2.1); rintro e w' ⟨rfl, ⟨nd, rfl⟩⟩))
    go_ret
    exact ⟨Sqz.auR, Sqz.auHB⟩

/-- THE ONE PURE STATEMENT of laws_FnValueThere: yours. -/
def laws_FnValueThere.Pure : Prop := ∀ (l0 : List Int), l0.length ≤ maxLen → l0.length * 1 ≤ 140737488351232 → (∀ x ∈ l0, (Lit.int .u8 x).wf = true) → ∃ k, laws_FnValueThere.f k l0 = some true
theorem laws_FnValueThere.walk (P : laws_FnValueThere.Pure) (a0 : Option Addr) (len0 cap0 : Nat) (z0 : List Int) (w : World) (w0 : (a0 = none ∧ len0 = 0 ∧ cap0 = 0 ∧ z0 = []) ∨ ∃ x, a0 = some x ∧ len0 ≤ cap0 ∧ cap0 ≤ maxLen ∧ z0.length = cap0 ∧ (∀ i, i < z0.length → w.cell? (x.add i) = some (.int .u8 (z0.getD i 0))) ∧ ∀ n ∈ z0, (Lit.int .u8 n).wf = true) (y0 : len0 * 1 ≤ 140737488351232) :
  Calls Try.prog 10 #[.slice a0 len0 cap0] w fun e w' => e = .returned (.bool true) ∧ Below w.heap.size w w' := by
 obtain ⟨l0, rfl, hr0, hm0, hw0, hc0⟩ := ReadsInt.ofRowC w0; obtain ⟨k, h⟩ := P l0 hm0 y0 hw0; refine (laws_FnValueThere.calls k _ _ l0 true w (Kd.C_of_reads (d := (0 : Int)) (h1 := fun _ => rfl) hr0) hc0 h).mono ?_; rintro e w' ⟨rfl, hd⟩; exact ⟨rfl, hd⟩

end Go.Proofs.Ytnnpafjgghpecaa.PFnValueThere
