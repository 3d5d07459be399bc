/- A function's Lean twin and its walk, written by a program of this session. -/
import Derived.Test.YtihadpckmcebgaaPFnValueAtx0
import Derived.Test.YtihadpckmcebgaaPFnValueAtx1
import Derived.Test.YtihadpckmcebgaaPFnValueAtx2
import Derived.Test.YtihadpckmcebgaaPFnValueAtx4
import Derived.Test.YtihadpckmcebgaaPFnValueAtx5
namespace Go.Proofs.Ytihadpckmcebgaa.PFnValueAt
open Go.RowKit Go.Proofs.YtihadpckmcebgaaW.PrintWords Go.Proofs.YtihadpckmcebgaaW.PrintLast Go.Proofs.YtihadpckmcebgaaW.PrintMore
attribute [local go_sem] max2_int min2_int max_two min_two max_three min_three max_four min_four   -- for this text's walks alone
set_option linter.unusedVariables false
set_option linter.unusedSimpArgs false

/-! ### laws_FnValueAt: function 5 -/
mutual
def laws_FnValueAt.j0 : Nat → List Int → List Int → Bool → Option (Bool)
  | 0, _, _, _ => none
  | k + 1, x0, x1, x20 => if x20 = true then (some true) else ((spec_DrawValueAt.f k x0).bind fun bt334 => ((impl_ValueAt.f k bt334.1 bt334.2.1 bt334.2.2).bind fun t339 => ((spec_ValueAt.f k bt334.1 bt334.2.1 bt334.2.2).bind fun t340 => (if (t339 != t340) = true then (laws_FnValueAt.j1 k x1 bt334.1 bt334.2.1 bt334.2.2 t339 t340 true) else (laws_FnValueAt.j1 k x1 bt334.1 bt334.2.1 bt334.2.2 t339 t340 (!t339))))))
def laws_FnValueAt.j1 : Nat → List Int → List Int → Int → Int → Bool → Bool → Bool → Option (Bool)
  | 0, _, _, _, _, _, _, _ => none
  | k + 1, x1, x5, x6, x7, x8, x9, x41 => if x41 = true then (some (x8 == x9)) else ((impl_FormJoin.f k x5 (([1 + ((x1.length : Int) % 20)] : List Int))).bind fun bt344 => ((laws_sizeOf.f (wrap64 ((wrap64 (x6 * (2 + ((x1.length : Int) % 3)))) * (2 + ((x1.length : Int) % 3))))).bind fun t348 => (if t348 > 30 then (if (x5.length : Int) > 1 then (if bt344.2 = true then ((impl_ValueAt.f k bt344.1 x6 x7).bind fun t349 => (some t349)) else (some true)) else (if 0 < (x5.length : Int) then ((impl_LocalSame.f k (rd x5 0) x6 x7).bind fun t351 => (if t351 = true then (if bt344.2 = true then ((impl_ValueAt.f k bt344.1 x6 x7).bind fun t352 => (some t352)) else (some true)) else (some false))) else (none))) else ((impl_ValueAt.f k x5 (wrap64 ((wrap64 (x6 * (2 + ((x1.length : Int) % 3)))) * (2 + ((x1.length : Int) % 3)))) x7).bind fun t353 => (if t353 = true then (if (x5.length : Int) > 1 then (if bt344.2 = true then ((impl_ValueAt.f k bt344.1 x6 x7).bind fun t354 => (some t354)) else (some true)) else (if 0 < (x5.length : Int) then ((impl_LocalSame.f k (rd x5 0) x6 x7).bind fun t356 => (if t356 = true then (if bt344.2 = true then ((impl_ValueAt.f k bt344.1 x6 x7).bind fun t357 => (some t357)) else (some true)) else (some false))) else (none))) else (some false))))))
end
def laws_FnValueAt.f (k : Nat) (l0 : List Int) (l1 : List Int) : Option (Bool) := if (l0.length : Int) > 1048576 then (laws_FnValueAt.j0 k l0 l1 true) else (laws_FnValueAt.j0 k l0 l1 (decide ((l1.length : Int) > 1048576)))
set_option maxHeartbeats 8000000 in
set_option maxRecDepth 100000 in
theorem laws_FnValueAt.calls (k : Nat) (A0 : Option Addr) (c0 : Nat) (l0 : List Int) (A1 : Option Addr) (c1 : Nat) (l1 : List Int) (r : Bool) (w : World) (hr0 : Kd.C (Kd.int .u8) w A0 l0.length l0) (hc0 : l0.length ≤ c0) (hr1 : Kd.C (Kd.int .u8) w A1 l1.length l1) (hc1 : l1.length ≤ c1) (h : laws_FnValueAt.f k l0 l1 = some r) :
    Calls Try.prog 5 #[.slice A0 l0.length c0, .slice A1 l1.length c1] w fun e w' => e = .returned (.bool r) ∧ Below w.heap.size w w' := by
  have HR0 := Aside0.mk hr0
  have HC0 := Aside0.mk hc0
  clear hr0 hc0
  have HR1 := Aside0.mk hr1
  have HC1 := Aside0.mk hc1
  clear hr1 hc1
  have HB := Aside0.mk (Below.refl w.heap.size w)
  have H : (if (l0.length : Int) > 1048576 then (laws_FnValueAt.j0 k l0 l1 true) else (laws_FnValueAt.j0 k l0 l1 (decide ((l1.length : Int) > 1048576)))) = some r := h
  clear h
  have HC3 := Aside0.mk H
  clear H
  go_enter Try.func5, Try.ntmps5
  go_upto_region 1 with (fail)
  go_cut [20] (fun v20 wc => ∃ (kq : Nat) (x20_2 : Bool), v20 = .bool x20_2 ∧ Aside0 (laws_FnValueAt.j0 kq l0 l1 x20_2 = some r) ∧ Aside0 (kq ≤ k) ∧ Aside0 (Below w.heap.size w wc))
  case first =>
    have H := HC3.out
    clear HC3
    by_cases c4 : (l0.length : Int) > 1048576
    · rw [if_pos c4] at H
      have c4b0 : decide (1048576 < (l0.length : Int)) = true := decide_eq_true c4
      have c4b1 : decide (1048576 < l0.length) = true := decide_eq_true (by omega)
      clear c4
      (first | rw [c4b0] | (simp only [i64_w, i32_w]; rw [c4b0]) | skip)
      have H' := Aside0.mk H
      clear H
      go_wp2
      go_meet
      case rel => exact ⟨_, (true), Sqz.auS, H', ⟨Sqz.auN⟩, ⟨Sqz.auHB⟩⟩
    · rw [if_neg c4] at H
      have c4b0 : decide (1048576 < (l0.length : Int)) = false := decide_eq_false c4
      have c4b1 : decide (1048576 < l0.length) = false := decide_eq_false (by omega)
      clear c4
      (first | rw [c4b0] | (simp only [i64_w, i32_w]; rw [c4b0]) | skip)
      have H' := Aside0.mk H
      clear H
      go_wp2
      go_meet
      case rel => exact ⟨_, (decide ((l1.length : Int) > 1048576)), Sqz.auS, H', ⟨Sqz.auN⟩, ⟨Sqz.auHB⟩⟩
  case rest =>
    clear HC3
    try clear c1
    try clear p2
    try clear c4
    try clear c4b0
    try clear c4b1
    obtain ⟨kq, x20_2, rfl, HA, HJ2, HB⟩ := hcut
    cases kq with
    | zero => exact absurd HA.out (by simp [laws_FnValueAt.j0])
    | succ kj2 =>
      have H := HA.out
      clear HA
      simp only [laws_FnValueAt.j0] at H
      by_cases c5 : x20_2 = true
      · subst c5
        have H1 : (some true) = some r := by rw [if_pos rfl] at H; exact H
        clear H
        have H := H1
        clear H1
        obtain rfl := Option.some.inj H
        go_wp2
        go_ret
        exact ⟨Sqz.auR, Sqz.auHB⟩
      · replace c5 := Bool.eq_false_iff.mpr c5
        subst c5
        have H1 : ((spec_DrawValueAt.f kj2 l0).bind fun bt334 => ((impl_ValueAt.f kj2 bt334.1 bt334.2.1 bt334.2.2).bind fun t339 => ((spec_ValueAt.f kj2 bt334.1 bt334.2.1 bt334.2.2).bind fun t340 => (if (t339 != t340) = true then (laws_FnValueAt.j1 kj2 l1 bt334.1 bt334.2.1 bt334.2.2 t339 t340 true) else (laws_FnValueAt.j1 kj2 l1 bt334.1 bt334.2.1 bt334.2.2 t339 t340 (!t339)))))) = some r := by rw [if_neg (show ¬ (false = true) by decide)] at H; exact H
        clear H
        have H := H1
        clear H1
        replace H := Option.bind_eq_some_iff.mp H
        obtain ⟨⟨t334, t335, t336⟩, A60, H⟩ := H
        replace H : ((impl_ValueAt.f kj2 t334 t335 t336).bind fun t339 => ((spec_ValueAt.f kj2 t334 t335 t336).bind fun t340 => (if (t339 != t340) = true then (laws_FnValueAt.j1 kj2 l1 t334 t335 t336 t339 t340 true) else (laws_FnValueAt.j1 kj2 l1 t334 t335 t336 t339 t340 (!t339))))) = some r := H
        have A6 := Aside0.mk A60
        clear A60
        replace H := Option.bind_eq_some_iff.mp H
        obtain ⟨t339, A70, H⟩ := H
        replace H : ((spec_ValueAt.f kj2 t334 t335 t336).bind fun t340 => (if (t339 != t340) = true then (laws_FnValueAt.j1 kj2 l1 t334 t335 t336 t339 t340 true) else (laws_FnValueAt.j1 kj2 l1 t334 t335 t336 t339 t340 (!t339)))) = some r := H
        have A7 := Aside0.mk A70
        clear A70
        replace H := Option.bind_eq_some_iff.mp H
        obtain ⟨t340, A80, H⟩ := H
        replace H : (if (t339 != t340) = true then (laws_FnValueAt.j1 kj2 l1 t334 t335 t336 t339 t340 true) else (laws_FnValueAt.j1 kj2 l1 t334 t335 t336 t339 t340 (!t339))) = some r := H
        have A8 := Aside0.mk A80
        clear A80
        have HC9 := Aside0.mk H
        clear H
        go_upto_region 6 with (first | ((with_reducible refine gate_callee (f := 27) rfl ?_); refine goesL_ (some 23) rfl rfl Try.func27 (by kernel_rfl) rfl #[.slice A0 l0.length c0] rfl Sqz.auM ?_; (with_reducible refine (spec_DrawValueAt.calls kj2 _ _ l0 t334 t335 t336 _ ?side1 ?side2 A6.out).mono ?_); (case side1 => exact Sqz.mvC ((Kd.C_below HR0.out HB.out))); (case side2 => exact HC0.out); rintro e w10 ⟨v337, rfl, ho0, hb⟩; refine ⟨_, rfl, ?_⟩; have n0_ := Aside0.mk (Kd.R_lower ho0 (below_size (Sqz.auHB))); have n1_ := Aside0.mk (below_step (Sqz.auHB) hb); clear HB; have HO338 := n0_; have HB := n1_; clear n0_ n1_; (try clear hb); (try clear hb2); (try clear hk); (try clear hi); (try clear ho0); obtain ⟨Ao11, co11, eo11⟩ := Kd.R_slice HO338.out; subst eo11) | ((with_reducible refine gate_callee (f := 26) rfl ?_); refine goesL_ (some 30) rfl rfl Try.func26 (by kernel_rfl) rfl #[.slice Ao11 t334.length co11, .int .i64 t335, .int .i64 t336] rfl Sqz.auM ?_; (with_reducible refine (impl_ValueAt.calls kj2 _ _ t334 t335 t336 t339 _ ?side1 ?side2 A7.out).mono ?_); (case side1 => exact Sqz.mvC ((Kd.R_reads' HO338.out).2.2)); (case side2 => exact (Kd.R_reads' HO338.out).2.1); rintro e w12 ⟨rfl, hb⟩; refine ⟨_, rfl, ?_⟩; have n0_ := Aside0.mk (Kd.R_below ((Sqz.mvR HO338.out)) hb); have n1_ := Aside0.mk (below_step (Sqz.auHB) hb); clear HO338; clear HB; have HO338 := n0_; have HB := n1_; clear n0_ n1_; (try clear hb); (try clear hb2); (try clear hk); (try clear hi)) | ((with_reducible refine gate_callee (f := 28) rfl ?_); refine goesL_ (some 34) rfl rfl Try.func28 (by kernel_rfl) rfl #[.slice Ao11 t334.length co11, .int .i64 t335, .int .i64 t336] rfl Sqz.auM ?_; (with_reducible refine (spec_ValueAt.calls kj2 _ _ t334 t335 t336 t340 _ ?side1 ?side2 A8.out).mono ?_); (case side1 => exact Sqz.mvC ((Kd.R_reads' HO338.out).2.2)); (case side2 => exact (Kd.R_reads' HO338.out).2.1); rintro e w13 ⟨rfl, hb⟩; refine ⟨_, rfl, ?_⟩; have n0_ := Aside0.mk (Kd.R_below ((Sqz.mvR HO338.out)) hb); have n1_ := Aside0.mk (below_step (Sqz.auHB) hb); clear HO338; clear HB; have HO338 := n0_; have HB := n1_; clear n0_ n1_; (try clear hb); (try clear hb2); (try clear hk); (try clear hi)))
        (try simp only [Act.put, List.setIfInBounds_toArray, List.set_cons_zero, List.set_cons_succ])
        go_cut [41] (fun v41 wc => ∃ (kq : Nat) (x41_8 : Bool), v41 = .bool x41_8 ∧ Aside0 (laws_FnValueAt.j1 kq l1 t334 t335 t336 t339 t340 x41_8 = some r) ∧ Aside0 (kq ≤ kj2) ∧ Aside0 (Kd.R (Kd.int .i64) 3 wc w.heap.size (fun _ => True) (.slice Ao11 t334.length co11) t334) ∧ Aside0 (Below w.heap.size w wc))
        case first =>
          have H := HC9.out
          clear HC9
          by_cases c14 : (t339 != t340) = true
          · rw [if_pos c14] at H
            have c14b0 : (t339 != t340) = true := c14
            (try (have c14b1 : decide (t339 = t340) = false := by simpa using c14))
            (try (have c14b2 : (t339 == t340) = false := by simpa using c14))
            (try (have c14b3 : ¬ (t339 = t340) := by simpa using c14))
            clear c14
            (first | rw [c14b0] | (simp only [i64_w, i32_w]; rw [c14b0]) | skip)
            have H' := Aside0.mk H
            clear H
            go_wp2
            go_meet
            case rel => exact ⟨_, (true), Sqz.auS, H', ⟨by have := HJ2.out; first | omega | exact Nat.le_refl _⟩, ⟨(Sqz.mvR HO338.out)⟩, ⟨Sqz.auHB⟩⟩
          · rw [if_neg c14] at H
            have c14b0 : (t339 != t340) = false := by simpa using c14
            (try (have c14b1 : decide (t339 = t340) = true := by simpa using c14))
            (try (have c14b2 : (t339 == t340) = true := by simpa using c14))
            clear c14
            (first | rw [c14b0] | (simp only [i64_w, i32_w]; rw [c14b0]) | skip)
            have H' := Aside0.mk H
            clear H
            go_wp2
            go_meet
            case rel => exact ⟨_, (!t339), Sqz.auS, H', ⟨by have := HJ2.out; first | omega | exact Nat.le_refl _⟩, ⟨(Sqz.mvR HO338.out)⟩, ⟨Sqz.auHB⟩⟩
        case rest =>
          clear HC9
          try clear c1
          try clear c2
          try clear p2
          try clear c4
          try clear c4b0
          try clear c4b1
          try clear c5
          try clear c14
          try clear c14b0
          try clear c14b1
          try clear c14b2
          try clear p2
          obtain ⟨kq, x41_8, rfl, HA, HJ8, HO_5, HB⟩ := hcut
          cases kq with
          | zero => exact absurd HA.out (by simp [laws_FnValueAt.j1])
          | succ kj8 =>
            have H := HA.out
            clear HA
            simp only [laws_FnValueAt.j1] at H
            by_cases c15 : x41_8 = true
            · subst c15
              have H1 : (some (t339 == t340)) = some r := by rw [if_pos rfl] at H; exact H
              clear H
              have H := H1
              clear H1
              obtain rfl := Option.some.inj H
              go_wp2
              go_ret
              exact ⟨Sqz.auR, Sqz.auHB⟩
            · replace c15 := Bool.eq_false_iff.mpr c15
              subst c15
              have H1 : ((impl_FormJoin.f kj8 t334 (([1 + ((l1.length : Int) % 20)] : List Int))).bind fun bt344 => ((laws_sizeOf.f (wrap64 ((wrap64 (t335 * (2 + ((l1.length : Int) % 3)))) * (2 + ((l1.length : Int) % 3))))).bind fun t348 => (if t348 > 30 then (if (t334.length : Int) > 1 then (if bt344.2 = true then ((impl_ValueAt.f kj8 bt344.1 t335 t336).bind fun t349 => (some t349)) else (some true)) else (if 0 < (t334.length : Int) then ((impl_LocalSame.f kj8 (rd t334 0) t335 t336).bind fun t351 => (if t351 = true then (if bt344.2 = true then ((impl_ValueAt.f kj8 bt344.1 t335 t336).bind fun t352 => (some t352)) else (some true)) else (some false))) else (none))) else ((impl_ValueAt.f kj8 t334 (wrap64 ((wrap64 (t335 * (2 + ((l1.length : Int) % 3)))) * (2 + ((l1.length : Int) % 3)))) t336).bind fun t353 => (if t353 = true then (if (t334.length : Int) > 1 then (if bt344.2 = true then ((impl_ValueAt.f kj8 bt344.1 t335 t336).bind fun t354 => (some t354)) else (some true)) else (if 0 < (t334.length : Int) then ((impl_LocalSame.f kj8 (rd t334 0) t335 t336).bind fun t356 => (if t356 = true then (if bt344.2 = true then ((impl_ValueAt.f kj8 bt344.1 t335 t336).bind fun t357 => (some t357)) else (some true)) else (some false))) else (none))) else (some false)))))) = some r := by rw [if_neg (show ¬ (false = true) by decide)] at H; exact H
              clear H
              have H := H1
              clear H1
              obtain ⟨y341, hy341⟩ : ∃ y_ : List Int, y_ = (([1 + ((l1.length : Int) % 20)] : List Int)) := ⟨_, rfl⟩
              replace H : ((impl_FormJoin.f kj8 t334 y341).bind fun bt344 => ((laws_sizeOf.f (wrap64 ((wrap64 (t335 * (2 + ((l1.length : Int) % 3)))) * (2 + ((l1.length : Int) % 3))))).bind fun t348 => (if t348 > 30 then (if (t334.length : Int) > 1 then (if bt344.2 = true then ((impl_ValueAt.f kj8 bt344.1 t335 t336).bind fun t349 => (some t349)) else (some true)) else (if 0 < (t334.length : Int) then ((impl_LocalSame.f kj8 (rd t334 0) t335 t336).bind fun t351 => (if t351 = true then (if bt344.2 = true then ((impl_ValueAt.f kj8 bt344.1 t335 t336).bind fun t352 => (some t352)) else (some true)) else (some false))) else (none))) else ((impl_ValueAt.f kj8 t334 (wrap64 ((wrap64 (t335 * (2 + ((l1.length : Int) % 3)))) * (2 + ((l1.length : Int) % 3)))) t336).bind fun t353 => (if t353 = true then (if (t334.length : Int) > 1 then (if bt344.2 = true then ((impl_ValueAt.f kj8 bt344.1 t335 t336).bind fun t354 => (some t354)) else (some true)) else (if 0 < (t334.length : Int) then ((impl_LocalSame.f kj8 (rd t334 0) t335 t336).bind fun t356 => (if t356 = true then (if bt344.2 = true then ((impl_ValueAt.f kj8 bt344.1 t335 t336).bind fun t357 => (some t357)) else (some true)) else (some false))) else (none))) else (some false)))))) = some r := by first | (rw [hy341]; with_reducible exact H) | (have H2_ := (Option.bind_some _ _).symm.trans H; rw [hy341]; with_reducible exact H2_) | (have H2_ := (Option.bind_some _ _).symm.trans H; with_reducible exact H2_) | with_reducible exact H | (rw [hy341]; exact H) | exact H
              have Ny341 := Aside0.mk hy341
              clear hy341
              replace H := Option.bind_eq_some_iff.mp H
              obtain ⟨⟨t344, t345⟩, A160, H⟩ := H
              replace H : ((laws_sizeOf.f (wrap64 ((wrap64 (t335 * (2 + ((l1.length : Int) % 3)))) * (2 + ((l1.length : Int) % 3))))).bind fun t348 => (if t348 > 30 then (if (t334.length : Int) > 1 then (if t345 = true then ((impl_ValueAt.f kj8 t344 t335 t336).bind fun t349 => (some t349)) else (some true)) else (if 0 < (t334.length : Int) then ((impl_LocalSame.f kj8 (rd t334 0) t335 t336).bind fun t351 => (if t351 = true then (if t345 = true then ((impl_ValueAt.f kj8 t344 t335 t336).bind fun t352 => (some t352)) else (some true)) else (some false))) else (none))) else ((impl_ValueAt.f kj8 t334 (wrap64 ((wrap64 (t335 * (2 + ((l1.length : Int) % 3)))) * (2 + ((l1.length : Int) % 3)))) t336).bind fun t353 => (if t353 = true then (if (t334.length : Int) > 1 then (if t345 = true then ((impl_ValueAt.f kj8 t344 t335 t336).bind fun t354 => (some t354)) else (some true)) else (if 0 < (t334.length : Int) then ((impl_LocalSame.f kj8 (rd t334 0) t335 t336).bind fun t356 => (if t356 = true then (if t345 = true then ((impl_ValueAt.f kj8 t344 t335 t336).bind fun t357 => (some t357)) else (some true)) else (some false))) else (none))) else (some false))))) = some r := H
              have A16 := Aside0.mk A160
              clear A160
              replace H := Option.bind_eq_some_iff.mp H
              obtain ⟨t348, A170, H⟩ := H
              replace H : (if t348 > 30 then (if (t334.length : Int) > 1 then (if t345 = true then ((impl_ValueAt.f kj8 t344 t335 t336).bind fun t349 => (some t349)) else (some true)) else (if 0 < (t334.length : Int) then ((impl_LocalSame.f kj8 (rd t334 0) t335 t336).bind fun t351 => (if t351 = true then (if t345 = true then ((impl_ValueAt.f kj8 t344 t335 t336).bind fun t352 => (some t352)) else (some true)) else (some false))) else (none))) else ((impl_ValueAt.f kj8 t334 (wrap64 ((wrap64 (t335 * (2 + ((l1.length : Int) % 3)))) * (2 + ((l1.length : Int) % 3)))) t336).bind fun t353 => (if t353 = true then (if (t334.length : Int) > 1 then (if t345 = true then ((impl_ValueAt.f kj8 t344 t335 t336).bind fun t354 => (some t354)) else (some true)) else (if 0 < (t334.length : Int) then ((impl_LocalSame.f kj8 (rd t334 0) t335 t336).bind fun t356 => (if t356 = true then (if t345 = true then ((impl_ValueAt.f kj8 t344 t335 t336).bind fun t357 => (some t357)) else (some true)) else (some false))) else (none))) else (some false)))) = some r := H
              have A17 := Aside0.mk A170
              clear A170
              by_cases c18 : t348 > 30
              · rw [if_pos c18] at H
                have c18b0 : decide (30 < t348) = true := decide_eq_true c18
                clear c18
                by_cases c19 : (t334.length : Int) > 1
                · rw [if_pos c19] at H
                  have c19b0 : decide (1 < (t334.length : Int)) = true := decide_eq_true c19
                  have c19b1 : decide (1 < t334.length) = true := decide_eq_true (by omega)
                  clear c19
                  by_cases c20 : t345 = true
                  · subst c20
                    have H1 : ((impl_ValueAt.f kj8 t344 t335 t336).bind fun t349 => (some t349)) = some r := by rw [if_pos rfl] at H; exact H
                    clear H
                    have H := H1
                    clear H1
                    replace H := Option.bind_eq_some_iff.mp H
                    obtain ⟨t349, A210, H⟩ := H
                    replace H : (some t349) = some r := H
                    have A21 := Aside0.mk A210
                    clear A210
                    obtain rfl := Option.some.inj H
                    go_wp2_with (first | ((with_reducible refine gate_dst (N := 55) rfl ?_); (try (refine gate_guard (by rfl) ?_; dsimp only)); refine Kd.R_lit (Kd.int .i64) _ 3 ?hg (N := 55) ?hd (xs := ([1 + ((l1.length : Int) % 20)] : List Int)) (inner := [.int .i64 (1 + ((l1.length : Int) % 20))]) (ok := fun _ => True) (okp := fun _ => True) ?hr ?hp (fun _ hk => hk) trivial (Below.refl _ _) (Nat.le_refl _) (by simp) ?_; (case hd => rfl); (case hg => rfl); (case hr => first | (go_simp; done) | (go_simp; rfl)); (case hp => exact (Reps.one (show Kd.M (Kd.int .i64) _ _ _ (1 + ((l1.length : Int) % 20)) [.int .i64 (1 + ((l1.length : Int) % 20))] from rfl) (Reps.none _ _))); intro v342 w22 ho23 hb hg_ hnew_; clear hg_ hnew_; (first | rw [← Ny341.out] at ho23 | (simp only [Int.reduceToNat] at ho23; rw [← Ny341.out] at ho23)); have n0_ := Aside0.mk (Kd.R_elder' ((Sqz.mvR HO_5.out)) (Kd.R_base ho23) hb); have n1_ := Aside0.mk (Kd.R_lower (Kd.R_new' ho23 (Kd.R_lt ((Sqz.mvR HO_5.out)))) (below_size (Sqz.auHB))); have n2_ := Aside0.mk (below_step (Sqz.auHB) hb); clear HO_5; clear HB; have HO_5 := n0_; have HO343 := n1_; have HB := n2_; clear n0_ n1_ n2_; clear hb ho23; obtain ⟨Ao24, co24, eo24⟩ := Kd.R_slice HO343.out; subst eo24) | ((with_reducible refine gate_callee (f := 25) rfl ?_); refine goesL_ (some 56) rfl rfl Try.func25 (by kernel_rfl) rfl #[.slice Ao11 t334.length co11, .slice Ao24 y341.length co24] rfl Sqz.auM ?_; (with_reducible refine (impl_FormJoin.calls kj8 _ _ t334 _ _ y341 t344 true _ ?side1 ?side2 ?side3 ?side4 A16.out).mono ?_); (case side1 => exact Sqz.mvC ((Kd.R_reads' HO_5.out).2.2)); (case side2 => exact (Kd.R_reads' HO_5.out).2.1); (case side3 => exact Sqz.mvC ((Kd.R_reads' HO343.out).2.2)); (case side4 => exact (Kd.R_reads' HO343.out).2.1); rintro e w25 ⟨v346, rfl, ho0, hb⟩; refine ⟨_, rfl, ?_⟩; have n0_ := Aside0.mk (Kd.R_elder' ((Sqz.mvR HO_5.out)) (Kd.R_base ho0) hb); have n1_ := Aside0.mk (Kd.R_elder' ((Sqz.mvR HO343.out)) (Kd.R_base ho0) hb); have n2_ := Aside0.mk (Kd.R_lower (Kd.R_new' (Kd.R_new' ho0 (Kd.R_lt ((Sqz.mvR HO_5.out)))) (Kd.R_lt ((Sqz.mvR HO343.out)))) (below_size (Sqz.auHB))); have n3_ := Aside0.mk (below_step (Sqz.auHB) hb); clear HO_5; clear HO343; clear HB; have HO_5 := n0_; have HO343 := n1_; have HO347 := n2_; have HB := n3_; clear n0_ n1_ n2_ n3_; (try clear hb); (try clear hb2); (try clear hk); (try clear hi); (try clear ho0)) | ((with_reducible refine gate_callee (f := 29) rfl ?_); refine goesL_ (some 64) rfl rfl Try.func29 (by kernel_rfl) rfl #[.int .i64 (wrap64 ((wrap64 (t335 * (2 + ((l1.length : Int) % 3)))) * (2 + ((l1.length : Int) % 3))))] rfl Sqz.auM ?_; (with_reducible refine (laws_sizeOf.calls (wrap64 ((wrap64 (t335 * (2 + ((l1.length : Int) % 3)))) * (2 + ((l1.length : Int) % 3)))) t348 _ A17.out).mono ?_); rintro e w26 ⟨rfl, hb⟩; refine ⟨_, rfl, ?_⟩; have n0_ := Aside0.mk (Kd.R_below ((Sqz.mvR HO_5.out)) hb); have n1_ := Aside0.mk (Kd.R_below ((Sqz.mvR HO343.out)) hb); have n2_ := Aside0.mk (Kd.R_below ((Sqz.mvR HO347.out)) hb); have n3_ := Aside0.mk (below_step (Sqz.auHB) hb); clear HO_5; clear HO343; clear HO347; clear HB; have HO_5 := n0_; have HO343 := n1_; have HO347 := n2_; have HB := n3_; clear n0_ n1_ n2_ n3_; (try clear hb); (try clear hb2); (try clear hk); (try clear hi); obtain ⟨Ao27, co27, eo27⟩ := Kd.R_slice HO347.out; subst eo27) | (go_at_call 26; (with_reducible refine (impl_ValueAt.calls kj8 _ _ t344 t335 t336 t349 _ ?side1 ?side2 A21.out).mono ?_); (case side1 => exact Sqz.mvC ((Kd.R_reads' HO347.out).2.2)); (case side2 => exact (Kd.R_reads' HO347.out).2.1); rintro e w28 ⟨rfl, hb⟩; have n0_ := Aside0.mk (Kd.R_below ((Sqz.mvR HO_5.out)) hb); have n1_ := Aside0.mk (Kd.R_below ((Sqz.mvR HO343.out)) hb); have n2_ := Aside0.mk (Kd.R_below ((Sqz.mvR HO347.out)) hb); have n3_ := Aside0.mk (below_step (Sqz.auHB) hb); clear HO_5; clear HO343; clear HO347; clear HB; have HO_5 := n0_; have HO343 := n1_; have HO347 := n2_; have HB := n3_; clear n0_ n1_ n2_ n3_; (try clear hb); (try clear hb2); (try clear hk); (try clear hi)))
                    go_ret
                    exact ⟨Sqz.auR, Sqz.auHB⟩
                  · replace c20 := Bool.eq_false_iff.mpr c20
                    subst c20
                    have H1 : (some true) = some r := by rw [if_neg (show ¬ (false = true) by decide)] at H; exact H
                    clear H
                    have H := H1
                    clear H1
                    obtain rfl := Option.some.inj H
                    go_wp2_with (first | ((with_reducible refine gate_dst (N := 55) rfl ?_); (try (refine gate_guard (by rfl) ?_; dsimp only)); refine Kd.R_lit (Kd.int .i64) _ 3 ?hg (N := 55) ?hd (xs := ([1 + ((l1.length : Int) % 20)] : List Int)) (inner := [.int .i64 (1 + ((l1.length : Int) % 20))]) (ok := fun _ => True) (okp := fun _ => True) ?hr ?hp (fun _ hk => hk) trivial (Below.refl _ _) (Nat.le_refl _) (by simp) ?_; (case hd => rfl); (case hg => rfl); (case hr => first | (go_simp; done) | (go_simp; rfl)); (case hp => exact (Reps.one (show Kd.M (Kd.int .i64) _ _ _ (1 + ((l1.length : Int) % 20)) [.int .i64 (1 + ((l1.length : Int) % 20))] from rfl) (Reps.none _ _))); intro v342 w29 ho30 hb hg_ hnew_; clear hg_ hnew_; (first | rw [← Ny341.out] at ho30 | (simp only [Int.reduceToNat] at ho30; rw [← Ny341.out] at ho30)); have n0_ := Aside0.mk (Kd.R_elder' ((Sqz.mvR HO_5.out)) (Kd.R_base ho30) hb); have n1_ := Aside0.mk (Kd.R_lower (Kd.R_new' ho30 (Kd.R_lt ((Sqz.mvR HO_5.out)))) (below_size (Sqz.auHB))); have n2_ := Aside0.mk (below_step (Sqz.auHB) hb); clear HO_5; clear HB; have HO_5 := n0_; have HO343 := n1_; have HB := n2_; clear n0_ n1_ n2_; clear hb ho30; obtain ⟨Ao31, co31, eo31⟩ := Kd.R_slice HO343.out; subst eo31) | ((with_reducible refine gate_callee (f := 25) rfl ?_); refine goesL_ (some 56) rfl rfl Try.func25 (by kernel_rfl) rfl #[.slice Ao11 t334.length co11, .slice Ao31 y341.length co31] rfl Sqz.auM ?_; (with_reducible refine (impl_FormJoin.calls kj8 _ _ t334 _ _ y341 t344 false _ ?side1 ?side2 ?side3 ?side4 A16.out).mono ?_); (case side1 => exact Sqz.mvC ((Kd.R_reads' HO_5.out).2.2)); (case side2 => exact (Kd.R_reads' HO_5.out).2.1); (case side3 => exact Sqz.mvC ((Kd.R_reads' HO343.out).2.2)); (case side4 => exact (Kd.R_reads' HO343.out).2.1); rintro e w32 ⟨v346, rfl, ho0, hb⟩; refine ⟨_, rfl, ?_⟩; have n0_ := Aside0.mk (Kd.R_elder' ((Sqz.mvR HO_5.out)) (Kd.R_base ho0) hb); have n1_ := Aside0.mk (Kd.R_elder' ((Sqz.mvR HO343.out)) (Kd.R_base ho0) hb); have n2_ := Aside0.mk (Kd.R_lower (Kd.R_new' (Kd.R_new' ho0 (Kd.R_lt ((Sqz.mvR HO_5.out)))) (Kd.R_lt ((Sqz.mvR HO343.out)))) (below_size (Sqz.auHB))); have n3_ := Aside0.mk (below_step (Sqz.auHB) hb); clear HO_5; clear HO343; clear HB; have HO_5 := n0_; have HO343 := n1_; have HO347 := n2_; have HB := n3_; clear n0_ n1_ n2_ n3_; (try clear hb); (try clear hb2); (try clear hk); (try clear hi); (try clear ho0)) | ((with_reducible refine gate_callee (f := 29) rfl ?_); refine goesL_ (some 64) rfl rfl Try.func29 (by kernel_rfl) rfl #[.int .i64 (wrap64 ((wrap64 (t335 * (2 + ((l1.length : Int) % 3)))) * (2 + ((l1.length : Int) % 3))))] rfl Sqz.auM ?_; (with_reducible refine (laws_sizeOf.calls (wrap64 ((wrap64 (t335 * (2 + ((l1.length : Int) % 3)))) * (2 + ((l1.length : Int) % 3)))) t348 _ A17.out).mono ?_); rintro e w33 ⟨rfl, hb⟩; refine ⟨_, rfl, ?_⟩; have n0_ := Aside0.mk (Kd.R_below ((Sqz.mvR HO_5.out)) hb); have n1_ := Aside0.mk (Kd.R_below ((Sqz.mvR HO343.out)) hb); have n2_ := Aside0.mk (Kd.R_below ((Sqz.mvR HO347.out)) hb); have n3_ := Aside0.mk (below_step (Sqz.auHB) hb); clear HO_5; clear HO343; clear HO347; clear HB; have HO_5 := n0_; have HO343 := n1_; have HO347 := n2_; have HB := n3_; clear n0_ n1_ n2_ n3_; (try clear hb); (try clear hb2); (try clear hk); (try clear hi)))
                    go_ret
                    exact ⟨Sqz.auR, Sqz.auHB⟩
                · rw [if_neg c19] at H
                  have c19b0 : decide (1 < (t334.length : Int)) = false := decide_eq_false c19
                  have c19b1 : decide (1 < t334.length) = false := decide_eq_false (by omega)
                  clear c19
                  by_cases c34 : 0 < (t334.length : Int)
                  · rw [if_pos c34] at H
                    have c34b0 : decide (0 < (t334.length : Int)) = true := decide_eq_true c34
                    have c34b1 : decide (0 < t334.length) = true := decide_eq_true (by omega)
                    clear c34
                    replace H := Option.bind_eq_some_iff.mp H
                    obtain ⟨t351, A350, H⟩ := H
                    replace H : (if t351 = true then (if t345 = true then ((impl_ValueAt.f kj8 t344 t335 t336).bind fun t352 => (some t352)) else (some true)) else (some false)) = some r := H
                    have A35 := Aside0.mk A350
                    clear A350
                    by_cases c36 : t351 = true
                    · subst c36
                      have H1 : (if t345 = true then ((impl_ValueAt.f kj8 t344 t335 t336).bind fun t352 => (some t352)) else (some true)) = some r := by rw [if_pos rfl] at H; exact H
                      clear H
                      have H := H1
                      clear H1
                      by_cases c37 : t345 = true
                      · subst c37
                        have H1 : ((impl_ValueAt.f kj8 t344 t335 t336).bind fun t352 => (some t352)) = some r := by rw [if_pos rfl] at H; exact H
                        clear H
                        have H := H1
                        clear H1
                        replace H := Option.bind_eq_some_iff.mp H
                        obtain ⟨t352, A380, H⟩ := H
                        replace H : (some t352) = some r := H
                        have A38 := Aside0.mk A380
                        clear A380
                        obtain rfl := Option.some.inj H
                        go_wp2_with (first | ((with_reducible refine gate_dst (N := 55) rfl ?_); (try (refine gate_guard (by rfl) ?_; dsimp only)); refine Kd.R_lit (Kd.int .i64) _ 3 ?hg (N := 55) ?hd (xs := ([1 + ((l1.length : Int) % 20)] : List Int)) (inner := [.int .i64 (1 + ((l1.length : Int) % 20))]) (ok := fun _ => True) (okp := fun _ => True) ?hr ?hp (fun _ hk => hk) trivial (Below.refl _ _) (Nat.le_refl _) (by simp) ?_; (case hd => rfl); (case hg => rfl); (case hr => first | (go_simp; done) | (go_simp; rfl)); (case hp => exact (Reps.one (show Kd.M (Kd.int .i64) _ _ _ (1 + ((l1.length : Int) % 20)) [.int .i64 (1 + ((l1.length : Int) % 20))] from rfl) (Reps.none _ _))); intro v342 w39 ho40 hb hg_ hnew_; clear hg_ hnew_; (first | rw [← Ny341.out] at ho40 | (simp only [Int.reduceToNat] at ho40; rw [← Ny341.out] at ho40)); have n0_ := Aside0.mk (Kd.R_elder' ((Sqz.mvR HO_5.out)) (Kd.R_base ho40) hb); have n1_ := Aside0.mk (Kd.R_lower (Kd.R_new' ho40 (Kd.R_lt ((Sqz.mvR HO_5.out)))) (below_size (Sqz.auHB))); have n2_ := Aside0.mk (below_step (Sqz.auHB) hb); clear HO_5; clear HB; have HO_5 := n0_; have HO343 := n1_; have HB := n2_; clear n0_ n1_ n2_; clear hb ho40; obtain ⟨Ao41, co41, eo41⟩ := Kd.R_slice HO343.out; subst eo41) | ((with_reducible refine gate_callee (f := 25) rfl ?_); refine goesL_ (some 56) rfl rfl Try.func25 (by kernel_rfl) rfl #[.slice Ao11 t334.length co11, .slice Ao41 y341.length co41] rfl Sqz.auM ?_; (with_reducible refine (impl_FormJoin.calls kj8 _ _ t334 _ _ y341 t344 true _ ?side1 ?side2 ?side3 ?side4 A16.out).mono ?_); (case side1 => exact Sqz.mvC ((Kd.R_reads' HO_5.out).2.2)); (case side2 => exact (Kd.R_reads' HO_5.out).2.1); (case side3 => exact Sqz.mvC ((Kd.R_reads' HO343.out).2.2)); (case side4 => exact (Kd.R_reads' HO343.out).2.1); rintro e w42 ⟨v346, rfl, ho0, hb⟩; refine ⟨_, rfl, ?_⟩; have n0_ := Aside0.mk (Kd.R_elder' ((Sqz.mvR HO_5.out)) (Kd.R_base ho0) hb); have n1_ := Aside0.mk (Kd.R_elder' ((Sqz.mvR HO343.out)) (Kd.R_base ho0) hb); have n2_ := Aside0.mk (Kd.R_lower (Kd.R_new' (Kd.R_new' ho0 (Kd.R_lt ((Sqz.mvR HO_5.out)))) (Kd.R_lt ((Sqz.mvR HO343.out)))) (below_size (Sqz.auHB))); have n3_ := Aside0.mk (below_step (Sqz.auHB) hb); clear HO_5; clear HO343; clear HB; have HO_5 := n0_; have HO343 := n1_; have HO347 := n2_; have HB := n3_; clear n0_ n1_ n2_ n3_; (try clear hb); (try clear hb2); (try clear hk); (try clear hi); (try clear ho0)) | ((with_reducible refine gate_callee (f := 29) rfl ?_); refine goesL_ (some 64) rfl rfl Try.func29 (by kernel_rfl) rfl #[.int .i64 (wrap64 ((wrap64 (t335 * (2 + ((l1.length : Int) % 3)))) * (2 + ((l1.length : Int) % 3))))] rfl Sqz.auM ?_; (with_reducible refine (laws_sizeOf.calls (wrap64 ((wrap64 (t335 * (2 + ((l1.length : Int) % 3)))) * (2 + ((l1.length : Int) % 3)))) t348 _ A17.out).mono ?_); rintro e w43 ⟨rfl, hb⟩; refine ⟨_, rfl, ?_⟩; have n0_ := Aside0.mk (Kd.R_below ((Sqz.mvR HO_5.out)) hb); have n1_ := Aside0.mk (Kd.R_below ((Sqz.mvR HO343.out)) hb); have n2_ := Aside0.mk (Kd.R_below ((Sqz.mvR HO347.out)) hb); have n3_ := Aside0.mk (below_step (Sqz.auHB) hb); clear HO_5; clear HO343; clear HO347; clear HB; have HO_5 := n0_; have HO343 := n1_; have HO347 := n2_; have HB := n3_; clear n0_ n1_ n2_ n3_; (try clear hb); (try clear hb2); (try clear hk); (try clear hi); have p350 : 0 ≤ (0 : Int) := (by omega); have q350 : 0 < (t334.length : Int) := of_decide_eq_true (by first | (with_reducible assumption) | assumption); obtain ⟨ad350, e350, hx350_0⟩ := Kd.at_int (Kd.R_reads' HO_5.out).2.2 0 p350 q350; cases e350; have qi350 : (0 < t334.length) = True := eq_true (by omega); (try rw [show ((0 : Int)).toNat = 0 from rfl] at hx350_0); (try rw [Addr.add_zero'] at hx350_0); replace p350 := eq_true p350; replace q350 := eq_true q350) | (go_at_call 30; (with_reducible refine (impl_LocalSame.calls kj8 (rd t334 0) t335 t336 true _ A35.out).mono ?_); rintro e w' ⟨rfl, ⟨nd, rfl⟩⟩; obtain ⟨Ao44, co44, eo44⟩ := Kd.R_slice HO347.out; subst eo44) | (go_at_call 26; (with_reducible refine (impl_ValueAt.calls kj8 _ _ t344 t335 t336 t352 _ ?side1 ?side2 A38.out).mono ?_); (case side1 => exact Sqz.mvC ((Kd.R_reads' HO347.out).2.2)); (case side2 => exact (Kd.R_reads' HO347.out).2.1); rintro e w45 ⟨rfl, hb⟩; have n0_ := Aside0.mk (Kd.R_below ((Sqz.mvR HO_5.out)) hb); have n1_ := Aside0.mk (Kd.R_below ((Sqz.mvR HO343.out)) hb); have n2_ := Aside0.mk (Kd.R_below ((Sqz.mvR HO347.out)) hb); have n3_ := Aside0.mk (below_step (Sqz.auHB) hb); clear HO_5; clear HO343; clear HO347; clear HB; have HO_5 := n0_; have HO343 := n1_; have HO347 := n2_; have HB := n3_; clear n0_ n1_ n2_ n3_; (try clear hb); (try clear hb2); (try clear hk); (try clear hi)))
                        go_ret
                        exact ⟨Sqz.auR, Sqz.auHB⟩
                      · replace c37 := Bool.eq_false_iff.mpr c37
                        subst c37
                        have H1 : (some true) = some r := by rw [if_neg (show ¬ (false = true) by decide)] at H; exact H
                        clear H
                        have H := H1
                        clear H1
                        obtain rfl := Option.some.inj H
                        go_wp2_with (first | ((with_reducible refine gate_dst (N := 55) rfl ?_); (try (refine gate_guard (by rfl) ?_; dsimp only)); refine Kd.R_lit (Kd.int .i64) _ 3 ?hg (N := 55) ?hd (xs := ([1 + ((l1.length : Int) % 20)] : List Int)) (inner := [.int .i64 (1 + ((l1.length : Int) % 20))]) (ok := fun _ => True) (okp := fun _ => True) ?hr ?hp (fun _ hk => hk) trivial (Below.refl _ _) (Nat.le_refl _) (by simp) ?_; (case hd => rfl); (case hg => rfl); (case hr => first | (go_simp; done) | (go_simp; rfl)); (case hp => exact (Reps.one (show Kd.M (Kd.int .i64) _ _ _ (1 + ((l1.length : Int) % 20)) [.int .i64 (1 + ((l1.length : Int) % 20))] from rfl) (Reps.none _ _))); intro v342 w46 ho47 hb hg_ hnew_; clear hg_ hnew_; (first | rw [← Ny341.out] at ho47 | (simp only [Int.reduceToNat] at ho47; rw [← Ny341.out] at ho47)); have n0_ := Aside0.mk (Kd.R_elder' ((Sqz.mvR HO_5.out)) (Kd.R_base ho47) hb); have n1_ := Aside0.mk (Kd.R_lower (Kd.R_new' ho47 (Kd.R_lt ((Sqz.mvR HO_5.out)))) (below_size (Sqz.auHB))); have n2_ := Aside0.mk (below_step (Sqz.auHB) hb); clear HO_5; clear HB; have HO_5 := n0_; have HO343 := n1_; have HB := n2_; clear n0_ n1_ n2_; clear hb ho47; obtain ⟨Ao48, co48, eo48⟩ := Kd.R_slice HO343.out; subst eo48) | ((with_reducible refine gate_callee (f := 25) rfl ?_); refine goesL_ (some 56) rfl rfl Try.func25 (by kernel_rfl) rfl #[.slice Ao11 t334.length co11, .slice Ao48 y341.length co48] rfl Sqz.auM ?_; (with_reducible refine (impl_FormJoin.calls kj8 _ _ t334 _ _ y341 t344 false _ ?side1 ?side2 ?side3 ?side4 A16.out).mono ?_); (case side1 => exact Sqz.mvC ((Kd.R_reads' HO_5.out).2.2)); (case side2 => exact (Kd.R_reads' HO_5.out).2.1); (case side3 => exact Sqz.mvC ((Kd.R_reads' HO343.out).2.2)); (case side4 => exact (Kd.R_reads' HO343.out).2.1); rintro e w49 ⟨v346, rfl, ho0, hb⟩; refine ⟨_, rfl, ?_⟩; have n0_ := Aside0.mk (Kd.R_elder' ((Sqz.mvR HO_5.out)) (Kd.R_base ho0) hb); have n1_ := Aside0.mk (Kd.R_elder' ((Sqz.mvR HO343.out)) (Kd.R_base ho0) hb); have n2_ := Aside0.mk (Kd.R_lower (Kd.R_new' (Kd.R_new' ho0 (Kd.R_lt ((Sqz.mvR HO_5.out)))) (Kd.R_lt ((Sqz.mvR HO343.out)))) (below_size (Sqz.auHB))); have n3_ := Aside0.mk (below_step (Sqz.auHB) hb); clear HO_5; clear HO343; clear HB; have HO_5 := n0_; have HO343 := n1_; have HO347 := n2_; have HB := n3_; clear n0_ n1_ n2_ n3_; (try clear hb); (try clear hb2); (try clear hk); (try clear hi); (try clear ho0)) | ((with_reducible refine gate_callee (f := 29) rfl ?_); refine goesL_ (some 64) rfl rfl Try.func29 (by kernel_rfl) rfl #[.int .i64 (wrap64 ((wrap64 (t335 * (2 + ((l1.length : Int) % 3)))) * (2 + ((l1.length : Int) % 3))))] rfl Sqz.auM ?_; (with_reducible refine (laws_sizeOf.calls (wrap64 ((wrap64 (t335 * (2 + ((l1.length : Int) % 3)))) * (2 + ((l1.length : Int) % 3)))) t348 _ A17.out).mono ?_); rintro e w50 ⟨rfl, hb⟩; refine ⟨_, rfl, ?_⟩; have n0_ := Aside0.mk (Kd.R_below ((Sqz.mvR HO_5.out)) hb); have n1_ := Aside0.mk (Kd.R_below ((Sqz.mvR HO343.out)) hb); have n2_ := Aside0.mk (Kd.R_below ((Sqz.mvR HO347.out)) hb); have n3_ := Aside0.mk (below_step (Sqz.auHB) hb); clear HO_5; clear HO343; clear HO347; clear HB; have HO_5 := n0_; have HO343 := n1_; have HO347 := n2_; have HB := n3_; clear n0_ n1_ n2_ n3_; (try clear hb); (try clear hb2); (try clear hk); (try clear hi); have p350 : 0 ≤ (0 : Int) := (by omega); have q350 : 0 < (t334.length : Int) := of_decide_eq_true (by first | (with_reducible assumption) | assumption); obtain ⟨ad350, e350, hx350_0⟩ := Kd.at_int (Kd.R_reads' HO_5.out).2.2 0 p350 q350; cases e350; have qi350 : (0 < t334.length) = True := eq_true (by omega); (try rw [show ((0 : Int)).toNat = 0 from rfl] at hx350_0); (try rw [Addr.add_zero'] at hx350_0); replace p350 := eq_true p350; replace q350 := eq_true q350) | (go_at_call 30; (with_reducible refine (impl_LocalSame.calls kj8 (rd t334 0) t335 t336 true _ A35.out).mono ?_); rintro e w' ⟨rfl, ⟨nd, rfl⟩⟩))
                        go_ret
                        exact ⟨Sqz.auR, Sqz.auHB⟩
                    · replace c36 := Bool.eq_false_iff.mpr c36
                      subst c36
                      have H1 : (some false) = some r := by rw [if_neg (show ¬ (false = true) by decide)] at H; exact H
                      clear H
                      have H := H1
                      clear H1
                      obtain rfl := Option.some.inj H
                      go_wp2_with (first | ((with_reducible refine gate_dst (N := 55) rfl ?_); (try (refine gate_guard (by rfl) ?_; dsimp only)); refine Kd.R_lit (Kd.int .i64) _ 3 ?hg (N := 55) ?hd (xs := ([1 + ((l1.length : Int) % 20)] : List Int)) (inner := [.int .i64 (1 + ((l1.length : Int) % 20))]) (ok := fun _ => True) (okp := fun _ => True) ?hr ?hp (fun _ hk => hk) trivial (Below.refl _ _) (Nat.le_refl _) (by simp) ?_; (case hd => rfl); (case hg => rfl); (case hr => first | (go_simp; done) | (go_simp; rfl)); (case hp => exact (Reps.one (show Kd.M (Kd.int .i64) _ _ _ (1 + ((l1.length : Int) % 20)) [.int .i64 (1 + ((l1.length : Int) % 20))] from rfl) (Reps.none _ _))); intro v342 w51 ho52 hb hg_ hnew_; clear hg_ hnew_; (first | rw [← Ny341.out] at ho52 | (simp only [Int.reduceToNat] at ho52; rw [← Ny341.out] at ho52)); have n0_ := Aside0.mk (Kd.R_elder' ((Sqz.mvR HO_5.out)) (Kd.R_base ho52) hb); have n1_ := Aside0.mk (Kd.R_lower (Kd.R_new' ho52 (Kd.R_lt ((Sqz.mvR HO_5.out)))) (below_size (Sqz.auHB))); have n2_ := Aside0.mk (below_step (Sqz.auHB) hb); clear HO_5; clear HB; have HO_5 := n0_; have HO343 := n1_; have HB := n2_; clear n0_ n1_ n2_; clear hb ho52; obtain ⟨Ao53, co53, eo53⟩ := Kd.R_slice HO343.out; subst eo53) | ((with_reducible refine gate_callee (f := 25) rfl ?_); refine goesL_ (some 56) rfl rfl Try.func25 (by kernel_rfl) rfl #[.slice Ao11 t334.length co11, .slice Ao53 y341.length co53] rfl Sqz.auM ?_; (with_reducible refine (impl_FormJoin.calls kj8 _ _ t334 _ _ y341 t344 t345 _ ?side1 ?side2 ?side3 ?side4 A16.out).mono ?_); (case side1 => exact Sqz.mvC ((Kd.R_reads' HO_5.out).2.2)); (case side2 => exact (Kd.R_reads' HO_5.out).2.1); (case side3 => exact Sqz.mvC ((Kd.R_reads' HO343.out).2.2)); (case side4 => exact (Kd.R_reads' HO343.out).2.1); rintro e w54 ⟨v346, rfl, ho0, hb⟩; refine ⟨_, rfl, ?_⟩; have n0_ := Aside0.mk (Kd.R_elder' ((Sqz.mvR HO_5.out)) (Kd.R_base ho0) hb); have n1_ := Aside0.mk (Kd.R_elder' ((Sqz.mvR HO343.out)) (Kd.R_base ho0) hb); have n2_ := Aside0.mk (Kd.R_lower (Kd.R_new' (Kd.R_new' ho0 (Kd.R_lt ((Sqz.mvR HO_5.out)))) (Kd.R_lt ((Sqz.mvR HO343.out)))) (below_size (Sqz.auHB))); have n3_ := Aside0.mk (below_step (Sqz.auHB) hb); clear HO_5; clear HO343; clear HB; have HO_5 := n0_; have HO343 := n1_; have HO347 := n2_; have HB := n3_; clear n0_ n1_ n2_ n3_; (try clear hb); (try clear hb2); (try clear hk); (try clear hi); (try clear ho0)) | ((with_reducible refine gate_callee (f := 29) rfl ?_); refine goesL_ (some 64) rfl rfl Try.func29 (by kernel_rfl) rfl #[.int .i64 (wrap64 ((wrap64 (t335 * (2 + ((l1.length : Int) % 3)))) * (2 + ((l1.length : Int) % 3))))] rfl Sqz.auM ?_; (with_reducible refine (laws_sizeOf.calls (wrap64 ((wrap64 (t335 * (2 + ((l1.length : Int) % 3)))) * (2 + ((l1.length : Int) % 3)))) t348 _ A17.out).mono ?_); rintro e w55 ⟨rfl, hb⟩; refine ⟨_, rfl, ?_⟩; have n0_ := Aside0.mk (Kd.R_below ((Sqz.mvR HO_5.out)) hb); have n1_ := Aside0.mk (Kd.R_below ((Sqz.mvR HO343.out)) hb); have n2_ := Aside0.mk (Kd.R_below ((Sqz.mvR HO347.out)) hb); have n3_ := Aside0.mk (below_step (Sqz.auHB) hb); clear HO_5; clear HO343; clear HO347; clear HB; have HO_5 := n0_; have HO343 := n1_; have HO347 := n2_; have HB := n3_; clear n0_ n1_ n2_ n3_; (try clear hb); (try clear hb2); (try clear hk); (try clear hi); have p350 : 0 ≤ (0 : Int) := (by omega); have q350 : 0 < (t334.length : Int) := of_decide_eq_true (by first | (with_reducible assumption) | assumption); obtain ⟨ad350, e350, hx350_0⟩ := Kd.at_int (Kd.R_reads' HO_5.out).2.2 0 p350 q350; cases e350; have qi350 : (0 < t334.length) = True := eq_true (by omega); (try rw [show ((0 : Int)).toNat = 0 from rfl] at hx350_0); (try rw [Addr.add_zero'] at hx350_0); replace p350 := eq_true p350; replace q350 := eq_true q350) | (go_at_call 30; (with_reducible refine (impl_LocalSame.calls kj8 (rd t334 0) t335 t336 false _ A35.out).mono ?_); rintro e w' ⟨rfl, ⟨nd, rfl⟩⟩))
                      go_ret
                      exact ⟨Sqz.auR, Sqz.auHB⟩
                  · rw [if_neg c34] at H
                    exact absurd H (by simp)
              · rw [if_neg c18] at H
                have c18b0 : decide (30 < t348) = false := decide_eq_false c18
                clear c18
                replace H := Option.bind_eq_some_iff.mp H
                obtain ⟨t353, A560, H⟩ := H
                replace H : (if t353 = true then (if (t334.length : Int) > 1 then (if t345 = true then ((impl_ValueAt.f kj8 t344 t335 t336).bind fun t354 => (some t354)) else (some true)) else (if 0 < (t334.length : Int) then ((impl_LocalSame.f kj8 (rd t334 0) t335 t336).bind fun t356 => (if t356 = true then (if t345 = true then ((impl_ValueAt.f kj8 t344 t335 t336).bind fun t357 => (some t357)) else (some true)) else (some false))) else (none))) else (some false)) = some r := H
                have A56 := Aside0.mk A560
                clear A560
                by_cases c57 : t353 = true
                · subst c57
                  have H1 : (if (t334.length : Int) > 1 then (if t345 = true then ((impl_ValueAt.f kj8 t344 t335 t336).bind fun t354 => (some t354)) else (some true)) else (if 0 < (t334.length : Int) then ((impl_LocalSame.f kj8 (rd t334 0) t335 t336).bind fun t356 => (if t356 = true then (if t345 = true then ((impl_ValueAt.f kj8 t344 t335 t336).bind fun t357 => (some t357)) else (some true)) else (some false))) else (none))) = some r := by rw [if_pos rfl] at H; exact H
                  clear H
                  have H := H1
                  clear H1
                  by_cases c58 : (t334.length : Int) > 1
                  · rw [if_pos c58] at H
                    have c58b0 : decide (1 < (t334.length : Int)) = true := decide_eq_true c58
                    have c58b1 : decide (1 < t334.length) = true := decide_eq_true (by omega)
                    clear c58
                    by_cases c59 : t345 = true
                    · subst c59
                      have H1 : ((impl_ValueAt.f kj8 t344 t335 t336).bind fun t354 => (some t354)) = some r := by rw [if_pos rfl] at H; exact H
                      clear H
                      have H := H1
                      clear H1
                      replace H := Option.bind_eq_some_iff.mp H
                      obtain ⟨t354, A600, H⟩ := H
                      replace H : (some t354) = some r := H
                      have A60 := Aside0.mk A600
                      clear A600
                      obtain rfl := Option.some.inj H
                      go_wp2_with (first | ((with_reducible refine gate_dst (N := 55) rfl ?_); (try (refine gate_guard (by rfl) ?_; dsimp only)); refine Kd.R_lit (Kd.int .i64) _ 3 ?hg (N := 55) ?hd (xs := ([1 + ((l1.length : Int) % 20)] : List Int)) (inner := [.int .i64 (1 + ((l1.length : Int) % 20))]) (ok := fun _ => True) (okp := fun _ => True) ?hr ?hp (fun _ hk => hk) trivial (Below.refl _ _) (Nat.le_refl _) (by simp) ?_; (case hd => rfl); (case hg => rfl); (case hr => first | (go_simp; done) | (go_simp; rfl)); (case hp => exact (Reps.one (show Kd.M (Kd.int .i64) _ _ _ (1 + ((l1.length : Int) % 20)) [.int .i64 (1 + ((l1.length : Int) % 20))] from rfl) (Reps.none _ _))); intro v342 w61 ho62 hb hg_ hnew_; clear hg_ hnew_; (first | rw [← Ny341.out] at ho62 | (simp only [Int.reduceToNat] at ho62; rw [← Ny341.out] at ho62)); have n0_ := Aside0.mk (Kd.R_elder' ((Sqz.mvR HO_5.out)) (Kd.R_base ho62) hb); have n1_ := Aside0.mk (Kd.R_lower (Kd.R_new' ho62 (Kd.R_lt ((Sqz.mvR HO_5.out)))) (below_size (Sqz.auHB))); have n2_ := Aside0.mk (below_step (Sqz.auHB) hb); clear HO_5; clear HB; have HO_5 := n0_; have HO343 := n1_; have HB := n2_; clear n0_ n1_ n2_; clear hb ho62; obtain ⟨Ao63, co63, eo63⟩ := Kd.R_slice HO343.out; subst eo63) | ((with_reducible refine gate_callee (f := 25) rfl ?_); refine goesL_ (some 56) rfl rfl Try.func25 (by kernel_rfl) rfl #[.slice Ao11 t334.length co11, .slice Ao63 y341.length co63] rfl Sqz.auM ?_; (with_reducible refine (impl_FormJoin.calls kj8 _ _ t334 _ _ y341 t344 true _ ?side1 ?side2 ?side3 ?side4 A16.out).mono ?_); (case side1 => exact Sqz.mvC ((Kd.R_reads' HO_5.out).2.2)); (case side2 => exact (Kd.R_reads' HO_5.out).2.1); (case side3 => exact Sqz.mvC ((Kd.R_reads' HO343.out).2.2)); (case side4 => exact (Kd.R_reads' HO343.out).2.1); rintro e w64 ⟨v346, rfl, ho0, hb⟩; refine ⟨_, rfl, ?_⟩; have n0_ := Aside0.mk (Kd.R_elder' ((Sqz.mvR HO_5.out)) (Kd.R_base ho0) hb); have n1_ := Aside0.mk (Kd.R_elder' ((Sqz.mvR HO343.out)) (Kd.R_base ho0) hb); have n2_ := Aside0.mk (Kd.R_lower (Kd.R_new' (Kd.R_new' ho0 (Kd.R_lt ((Sqz.mvR HO_5.out)))) (Kd.R_lt ((Sqz.mvR HO343.out)))) (below_size (Sqz.auHB))); have n3_ := Aside0.mk (below_step (Sqz.auHB) hb); clear HO_5; clear HO343; clear HB; have HO_5 := n0_; have HO343 := n1_; have HO347 := n2_; have HB := n3_; clear n0_ n1_ n2_ n3_; (try clear hb); (try clear hb2); (try clear hk); (try clear hi); (try clear ho0)) | ((with_reducible refine gate_callee (f := 29) rfl ?_); refine goesL_ (some 64) rfl rfl Try.func29 (by kernel_rfl) rfl #[.int .i64 (wrap64 ((wrap64 (t335 * (2 + ((l1.length : Int) % 3)))) * (2 + ((l1.length : Int) % 3))))] rfl Sqz.auM ?_; (with_reducible refine (laws_sizeOf.calls (wrap64 ((wrap64 (t335 * (2 + ((l1.length : Int) % 3)))) * (2 + ((l1.length : Int) % 3)))) t348 _ A17.out).mono ?_); rintro e w65 ⟨rfl, hb⟩; refine ⟨_, rfl, ?_⟩; have n0_ := Aside0.mk (Kd.R_below ((Sqz.mvR HO_5.out)) hb); have n1_ := Aside0.mk (Kd.R_below ((Sqz.mvR HO343.out)) hb); have n2_ := Aside0.mk (Kd.R_below ((Sqz.mvR HO347.out)) hb); have n3_ := Aside0.mk (below_step (Sqz.auHB) hb); clear HO_5; clear HO343; clear HO347; clear HB; have HO_5 := n0_; have HO343 := n1_; have HO347 := n2_; have HB := n3_; clear n0_ n1_ n2_ n3_; (try clear hb); (try clear hb2); (try clear hk); (try clear hi)) | (go_at_call 26; (with_reducible refine (impl_ValueAt.calls kj8 _ _ t334 (wrap64 ((wrap64 (t335 * (2 + ((l1.length : Int) % 3)))) * (2 + ((l1.length : Int) % 3)))) t336 true _ ?side1 ?side2 A56.out).mono ?_); (case side1 => exact Sqz.mvC ((Kd.R_reads' HO_5.out).2.2)); (case side2 => exact (Kd.R_reads' HO_5.out).2.1); rintro e w66 ⟨rfl, hb⟩; have n0_ := Aside0.mk (Kd.R_below ((Sqz.mvR HO_5.out)) hb); have n1_ := Aside0.mk (Kd.R_below ((Sqz.mvR HO343.out)) hb); have n2_ := Aside0.mk (Kd.R_below ((Sqz.mvR HO347.out)) hb); have n3_ := Aside0.mk (below_step (Sqz.auHB) hb); clear HO_5; clear HO343; clear HO347; clear HB; have HO_5 := n0_; have HO343 := n1_; have HO347 := n2_; have HB := n3_; clear n0_ n1_ n2_ n3_; (try clear hb); (try clear hb2); (try clear hk); (try clear hi); obtain ⟨Ao67, co67, eo67⟩ := Kd.R_slice HO347.out; subst eo67) | (go_at_call 26; (with_reducible refine (impl_ValueAt.calls kj8 _ _ t344 t335 t336 t354 _ ?side1 ?side2 A60.out).mono ?_); (case side1 => exact Sqz.mvC ((Kd.R_reads' HO347.out).2.2)); (case side2 => exact (Kd.R_reads' HO347.out).2.1); rintro e w68 ⟨rfl, hb⟩; have n0_ := Aside0.mk (Kd.R_below ((Sqz.mvR HO_5.out)) hb); have n1_ := Aside0.mk (Kd.R_below ((Sqz.mvR HO343.out)) hb); have n2_ := Aside0.mk (Kd.R_below ((Sqz.mvR HO347.out)) hb); have n3_ := Aside0.mk (below_step (Sqz.auHB) hb); clear HO_5; clear HO343; clear HO347; clear HB; have HO_5 := n0_; have HO343 := n1_; have HO347 := n2_; have HB := n3_; clear n0_ n1_ n2_ n3_; (try clear hb); (try clear hb2); (try clear hk); (try clear hi)))
                      go_ret
                      exact ⟨Sqz.auR, Sqz.auHB⟩
                    · replace c59 := Bool.eq_false_iff.mpr c59
                      subst c59
                      have H1 : (some true) = some r := by rw [if_neg (show ¬ (false = true) by decide)] at H; exact H
                      clear H
                      have H := H1
                      clear H1
                      obtain rfl := Option.some.inj H
                      go_wp2_with (first | ((with_reducible refine gate_dst (N := 55) rfl ?_); (try (refine gate_guard (by rfl) ?_; dsimp only)); refine Kd.R_lit (Kd.int .i64) _ 3 ?hg (N := 55) ?hd (xs := ([1 + ((l1.length : Int) % 20)] : List Int)) (inner := [.int .i64 (1 + ((l1.length : Int) % 20))]) (ok := fun _ => True) (okp := fun _ => True) ?hr ?hp (fun _ hk => hk) trivial (Below.refl _ _) (Nat.le_refl _) (by simp) ?_; (case hd => rfl); (case hg => rfl); (case hr => first | (go_simp; done) | (go_simp; rfl)); (case hp => exact (Reps.one (show Kd.M (Kd.int .i64) _ _ _ (1 + ((l1.length : Int) % 20)) [.int .i64 (1 + ((l1.length : Int) % 20))] from rfl) (Reps.none _ _))); intro v342 w69 ho70 hb hg_ hnew_; clear hg_ hnew_; (first | rw [← Ny341.out] at ho70 | (simp only [Int.reduceToNat] at ho70; rw [← Ny341.out] at ho70)); have n0_ := Aside0.mk (Kd.R_elder' ((Sqz.mvR HO_5.out)) (Kd.R_base ho70) hb); have n1_ := Aside0.mk (Kd.R_lower (Kd.R_new' ho70 (Kd.R_lt ((Sqz.mvR HO_5.out)))) (below_size (Sqz.auHB))); have n2_ := Aside0.mk (below_step (Sqz.auHB) hb); clear HO_5; clear HB; have HO_5 := n0_; have HO343 := n1_; have HB := n2_; clear n0_ n1_ n2_; clear hb ho70; obtain ⟨Ao71, co71, eo71⟩ := Kd.R_slice HO343.out; subst eo71) | ((with_reducible refine gate_callee (f := 25) rfl ?_); refine goesL_ (some 56) rfl rfl Try.func25 (by kernel_rfl) rfl #[.slice Ao11 t334.length co11, .slice Ao71 y341.length co71] rfl Sqz.auM ?_; (with_reducible refine (impl_FormJoin.calls kj8 _ _ t334 _ _ y341 t344 false _ ?side1 ?side2 ?side3 ?side4 A16.out).mono ?_); (case side1 => exact Sqz.mvC ((Kd.R_reads' HO_5.out).2.2)); (case side2 => exact (Kd.R_reads' HO_5.out).2.1); (case side3 => exact Sqz.mvC ((Kd.R_reads' HO343.out).2.2)); (case side4 => exact (Kd.R_reads' HO343.out).2.1); rintro e w72 ⟨v346, rfl, ho0, hb⟩; refine ⟨_, rfl, ?_⟩; have n0_ := Aside0.mk (Kd.R_elder' ((Sqz.mvR HO_5.out)) (Kd.R_base ho0) hb); have n1_ := Aside0.mk (Kd.R_elder' ((Sqz.mvR HO343.out)) (Kd.R_base ho0) hb); have n2_ := Aside0.mk (Kd.R_lower (Kd.R_new' (Kd.R_new' ho0 (Kd.R_lt ((Sqz.mvR HO_5.out)))) (Kd.R_lt ((Sqz.mvR HO343.out)))) (below_size (Sqz.auHB))); have n3_ := Aside0.mk (below_step (Sqz.auHB) hb); clear HO_5; clear HO343; clear HB; have HO_5 := n0_; have HO343 := n1_; have HO347 := n2_; have HB := n3_; clear n0_ n1_ n2_ n3_; (try clear hb); (try clear hb2); (try clear hk); (try clear hi); (try clear ho0)) | ((with_reducible refine gate_callee (f := 29) rfl ?_); refine goesL_ (some 64) rfl rfl Try.func29 (by kernel_rfl) rfl #[.int .i64 (wrap64 ((wrap64 (t335 * (2 + ((l1.length : Int) % 3)))) * (2 + ((l1.length : Int) % 3))))] rfl Sqz.auM ?_; (with_reducible refine (laws_sizeOf.calls (wrap64 ((wrap64 (t335 * (2 + ((l1.length : Int) % 3)))) * (2 + ((l1.length : Int) % 3)))) t348 _ A17.out).mono ?_); rintro e w73 ⟨rfl, hb⟩; refine ⟨_, rfl, ?_⟩; have n0_ := Aside0.mk (Kd.R_below ((Sqz.mvR HO_5.out)) hb); have n1_ := Aside0.mk (Kd.R_below ((Sqz.mvR HO343.out)) hb); have n2_ := Aside0.mk (Kd.R_below ((Sqz.mvR HO347.out)) hb); have n3_ := Aside0.mk (below_step (Sqz.auHB) hb); clear HO_5; clear HO343; clear HO347; clear HB; have HO_5 := n0_; have HO343 := n1_; have HO347 := n2_; have HB := n3_; clear n0_ n1_ n2_ n3_; (try clear hb); (try clear hb2); (try clear hk); (try clear hi)) | (go_at_call 26; (with_reducible refine (impl_ValueAt.calls kj8 _ _ t334 (wrap64 ((wrap64 (t335 * (2 + ((l1.length : Int) % 3)))) * (2 + ((l1.length : Int) % 3)))) t336 true _ ?side1 ?side2 A56.out).mono ?_); (case side1 => exact Sqz.mvC ((Kd.R_reads' HO_5.out).2.2)); (case side2 => exact (Kd.R_reads' HO_5.out).2.1); rintro e w74 ⟨rfl, hb⟩; have n0_ := Aside0.mk (Kd.R_below ((Sqz.mvR HO_5.out)) hb); have n1_ := Aside0.mk (Kd.R_below ((Sqz.mvR HO343.out)) hb); have n2_ := Aside0.mk (Kd.R_below ((Sqz.mvR HO347.out)) hb); have n3_ := Aside0.mk (below_step (Sqz.auHB) hb); clear HO_5; clear HO343; clear HO347; clear HB; have HO_5 := n0_; have HO343 := n1_; have HO347 := n2_; have HB := n3_; clear n0_ n1_ n2_ n3_; (try clear hb); (try clear hb2); (try clear hk); (try clear hi)))
                      go_ret
                      exact ⟨Sqz.auR, Sqz.auHB⟩
                  · rw [if_neg c58] at H
                    have c58b0 : decide (1 < (t334.length : Int)) = false := decide_eq_false c58
                    have c58b1 : decide (1 < t334.length) = false := decide_eq_false (by omega)
                    clear c58
                    by_cases c75 : 0 < (t334.length : Int)
                    · rw [if_pos c75] at H
                      have c75b0 : decide (0 < (t334.length : Int)) = true := decide_eq_true c75
                      have c75b1 : decide (0 < t334.length) = true := decide_eq_true (by omega)
                      clear c75
                      replace H := Option.bind_eq_some_iff.mp H
                      obtain ⟨t356, A760, H⟩ := H
                      replace H : (if t356 = true then (if t345 = true then ((impl_ValueAt.f kj8 t344 t335 t336).bind fun t357 => (some t357)) else (some true)) else (some false)) = some r := H
                      have A76 := Aside0.mk A760
                      clear A760
                      by_cases c77 : t356 = true
                      · subst c77
                        have H1 : (if t345 = true then ((impl_ValueAt.f kj8 t344 t335 t336).bind fun t357 => (some t357)) else (some true)) = some r := by rw [if_pos rfl] at H; exact H
                        clear H
                        have H := H1
                        clear H1
                        by_cases c78 : t345 = true
                        · subst c78
                          have H1 : ((impl_ValueAt.f kj8 t344 t335 t336).bind fun t357 => (some t357)) = some r := by rw [if_pos rfl] at H; exact H
                          clear H
                          have H := H1
                          clear H1
                          replace H := Option.bind_eq_some_iff.mp H
                          obtain ⟨t357, A790, H⟩ := H
                          replace H : (some t357) = some r := H
                          have A79 := Aside0.mk A790
                          clear A790
                          obtain rfl := Option.some.inj H
                          go_wp2_with (first | ((with_reducible refine gate_dst (N := 55) rfl ?_); (try (refine gate_guard (by rfl) ?_; dsimp only)); refine Kd.R_lit (Kd.int .i64) _ 3 ?hg (N := 55) ?hd (xs := ([1 + ((l1.length : Int) % 20)] : List Int)) (inner := [.int .i64 (1 + ((l1.length : Int) % 20))]) (ok := fun _ => True) (okp := fun _ => True) ?hr ?hp (fun _ hk => hk) trivial (Below.refl _ _) (Nat.le_refl _) (by simp) ?_; (case hd => rfl); (case hg => rfl); (case hr => first | (go_simp; done) | (go_simp; rfl)); (case hp => exact (Reps.one (show Kd.M (Kd.int .i64) _ _ _ (1 + ((l1.length : Int) % 20)) [.int .i64 (1 + ((l1.length : Int) % 20))] from rfl) (Reps.none _ _))); intro v342 w80 ho81 hb hg_ hnew_; clear hg_ hnew_; (first | rw [← Ny341.out] at ho81 | (simp only [Int.reduceToNat] at ho81; rw [← Ny341.out] at ho81)); have n0_ := Aside0.mk (Kd.R_elder' ((Sqz.mvR HO_5.out)) (Kd.R_base ho81) hb); have n1_ := Aside0.mk (Kd.R_lower (Kd.R_new' ho81 (Kd.R_lt ((Sqz.mvR HO_5.out)))) (below_size (Sqz.auHB))); have n2_ := Aside0.mk (below_step (Sqz.auHB) hb); clear HO_5; clear HB; have HO_5 := n0_; have HO343 := n1_; have HB := n2_; clear n0_ n1_ n2_; clear hb ho81; obtain ⟨Ao82, co82, eo82⟩ := Kd.R_slice HO343.out; subst eo82) | ((with_reducible refine gate_callee (f := 25) rfl ?_); refine goesL_ (some 56) rfl rfl Try.func25 (by kernel_rfl) rfl #[.slice Ao11 t334.length co11, .slice Ao82 y341.length co82] rfl Sqz.auM ?_; (with_reducible refine (impl_FormJoin.calls kj8 _ _ t334 _ _ y341 t344 true _ ?side1 ?side2 ?side3 ?side4 A16.out).mono ?_); (case side1 => exact Sqz.mvC ((Kd.R_reads' HO_5.out).2.2)); (case side2 => exact (Kd.R_reads' HO_5.out).2.1); (case side3 => exact Sqz.mvC ((Kd.R_reads' HO343.out).2.2)); (case side4 => exact (Kd.R_reads' HO343.out).2.1); rintro e w83 ⟨v346, rfl, ho0, hb⟩; refine ⟨_, rfl, ?_⟩; have n0_ := Aside0.mk (Kd.R_elder' ((Sqz.mvR HO_5.out)) (Kd.R_base ho0) hb); have n1_ := Aside0.mk (Kd.R_elder' ((Sqz.mvR HO343.out)) (Kd.R_base ho0) hb); have n2_ := Aside0.mk (Kd.R_lower (Kd.R_new' (Kd.R_new' ho0 (Kd.R_lt ((Sqz.mvR HO_5.out)))) (Kd.R_lt ((Sqz.mvR HO343.out)))) (below_size (Sqz.auHB))); have n3_ := Aside0.mk (below_step (Sqz.auHB) hb); clear HO_5; clear HO343; clear HB; have HO_5 := n0_; have HO343 := n1_; have HO347 := n2_; have HB := n3_; clear n0_ n1_ n2_ n3_; (try clear hb); (try clear hb2); (try clear hk); (try clear hi); (try clear ho0)) | ((with_reducible refine gate_callee (f := 29) rfl ?_); refine goesL_ (some 64) rfl rfl Try.func29 (by kernel_rfl) rfl #[.int .i64 (wrap64 ((wrap64 (t335 * (2 + ((l1.length : Int) % 3)))) * (2 + ((l1.length : Int) % 3))))] rfl Sqz.auM ?_; (with_reducible refine (laws_sizeOf.calls (wrap64 ((wrap64 (t335 * (2 + ((l1.length : Int) % 3)))) * (2 + ((l1.length : Int) % 3)))) t348 _ A17.out).mono ?_); rintro e w84 ⟨rfl, hb⟩; refine ⟨_, rfl, ?_⟩; have n0_ := Aside0.mk (Kd.R_below ((Sqz.mvR HO_5.out)) hb); have n1_ := Aside0.mk (Kd.R_below ((Sqz.mvR HO343.out)) hb); have n2_ := Aside0.mk (Kd.R_below ((Sqz.mvR HO347.out)) hb); have n3_ := Aside0.mk (below_step (Sqz.auHB) hb); clear HO_5; clear HO343; clear HO347; clear HB; have HO_5 := n0_; have HO343 := n1_; have HO347 := n2_; have HB := n3_; clear n0_ n1_ n2_ n3_; (try clear hb); (try clear hb2); (try clear hk); (try clear hi)) | (go_at_call 26; (with_reducible refine (impl_ValueAt.calls kj8 _ _ t334 (wrap64 ((wrap64 (t335 * (2 + ((l1.length : Int) % 3)))) * (2 + ((l1.length : Int) % 3)))) t336 true _ ?side1 ?side2 A56.out).mono ?_); (case side1 => exact Sqz.mvC ((Kd.R_reads' HO_5.out).2.2)); (case side2 => exact (Kd.R_reads' HO_5.out).2.1); rintro e w85 ⟨rfl, hb⟩; have n0_ := Aside0.mk (Kd.R_below ((Sqz.mvR HO_5.out)) hb); have n1_ := Aside0.mk (Kd.R_below ((Sqz.mvR HO343.out)) hb); have n2_ := Aside0.mk (Kd.R_below ((Sqz.mvR HO347.out)) hb); have n3_ := Aside0.mk (below_step (Sqz.auHB) hb); clear HO_5; clear HO343; clear HO347; clear HB; have HO_5 := n0_; have HO343 := n1_; have HO347 := n2_; have HB := n3_; clear n0_ n1_ n2_ n3_; (try clear hb); (try clear hb2); (try clear hk); (try clear hi); have p355 : 0 ≤ (0 : Int) := (by omega); have q355 : 0 < (t334.length : Int) := of_decide_eq_true (by first | (with_reducible assumption) | assumption); obtain ⟨ad355, e355, hx355_0⟩ := Kd.at_int (Kd.R_reads' HO_5.out).2.2 0 p355 q355; cases e355; have qi355 : (0 < t334.length) = True := eq_true (by omega); (try rw [show ((0 : Int)).toNat = 0 from rfl] at hx355_0); (try rw [Addr.add_zero'] at hx355_0); replace p355 := eq_true p355; replace q355 := eq_true q355) | (go_at_call 30; (with_reducible refine (impl_LocalSame.calls kj8 (rd t334 0) t335 t336 true _ A76.out).mono ?_); rintro e w' ⟨rfl, ⟨nd, rfl⟩⟩; obtain ⟨Ao86, co86, eo86⟩ := Kd.R_slice HO347.out; subst eo86) | (go_at_call 26; (with_reducible refine (impl_ValueAt.calls kj8 _ _ t344 t335 t336 t357 _ ?side1 ?side2 A79.out).mono ?_); (case side1 => exact Sqz.mvC ((Kd.R_reads' HO347.out).2.2)); (case side2 => exact (Kd.R_reads' HO347.out).2.1); rintro e w87 ⟨rfl, hb⟩; have n0_ := Aside0.mk (Kd.R_below ((Sqz.mvR HO_5.out)) hb); have n1_ := Aside0.mk (Kd.R_below ((Sqz.mvR HO343.out)) hb); have n2_ := Aside0.mk (Kd.R_below ((Sqz.mvR HO347.out)) hb); have n3_ := Aside0.mk (below_step (Sqz.auHB) hb); clear HO_5; clear HO343; clear HO347; clear HB; have HO_5 := n0_; have HO343 := n1_; have HO347 := n2_; have HB := n3_; clear n0_ n1_ n2_ n3_; (try clear hb); (try clear hb2); (try clear hk); (try clear hi)))
                          go_ret
                          exact ⟨Sqz.auR, Sqz.auHB⟩
                        · replace c78 := Bool.eq_false_iff.mpr c78
                          subst c78
                          have H1 : (some true) = some r := by rw [if_neg (show ¬ (false = true) by decide)] at H; exact H
                          clear H
                          have H := H1
                          clear H1
                          obtain rfl := Option.some.inj H
                          go_wp2_with (first | ((with_reducible refine gate_dst (N := 55) rfl ?_); (try (refine gate_guard (by rfl) ?_; dsimp only)); refine Kd.R_lit (Kd.int .i64) _ 3 ?hg (N := 55) ?hd (xs := ([1 + ((l1.length : Int) % 20)] : List Int)) (inner := [.int .i64 (1 + ((l1.length : Int) % 20))]) (ok := fun _ => True) (okp := fun _ => True) ?hr ?hp (fun _ hk => hk) trivial (Below.refl _ _) (Nat.le_refl _) (by simp) ?_; (case hd => rfl); (case hg => rfl); (case hr => first | (go_simp; done) | (go_simp; rfl)); (case hp => exact (Reps.one (show Kd.M (Kd.int .i64) _ _ _ (1 + ((l1.length : Int) % 20)) [.int .i64 (1 + ((l1.length : Int) % 20))] from rfl) (Reps.none _ _))); intro v342 w88 ho89 hb hg_ hnew_; clear hg_ hnew_; (first | rw [← Ny341.out] at ho89 | (simp only [Int.reduceToNat] at ho89; rw [← Ny341.out] at ho89)); have n0_ := Aside0.mk (Kd.R_elder' ((Sqz.mvR HO_5.out)) (Kd.R_base ho89) hb); have n1_ := Aside0.mk (Kd.R_lower (Kd.R_new' ho89 (Kd.R_lt ((Sqz.mvR HO_5.out)))) (below_size (Sqz.auHB))); have n2_ := Aside0.mk (below_step (Sqz.auHB) hb); clear HO_5; clear HB; have HO_5 := n0_; have HO343 := n1_; have HB := n2_; clear n0_ n1_ n2_; clear hb ho89; obtain ⟨Ao90, co90, eo90⟩ := Kd.R_slice HO343.out; subst eo90) | ((with_reducible refine gate_callee (f := 25) rfl ?_); refine goesL_ (some 56) rfl rfl Try.func25 (by kernel_rfl) rfl #[.slice Ao11 t334.length co11, .slice Ao90 y341.length co90] rfl Sqz.auM ?_; (with_reducible refine (impl_FormJoin.calls kj8 _ _ t334 _ _ y341 t344 false _ ?side1 ?side2 ?side3 ?side4 A16.out).mono ?_); (case side1 => exact Sqz.mvC ((Kd.R_reads' HO_5.out).2.2)); (case side2 => exact (Kd.R_reads' HO_5.out).2.1); (case side3 => exact Sqz.mvC ((Kd.R_reads' HO343.out).2.2)); (case side4 => exact (Kd.R_reads' HO343.out).2.1); rintro e w91 ⟨v346, rfl, ho0, hb⟩; refine ⟨_, rfl, ?_⟩; have n0_ := Aside0.mk (Kd.R_elder' ((Sqz.mvR HO_5.out)) (Kd.R_base ho0) hb); have n1_ := Aside0.mk (Kd.R_elder' ((Sqz.mvR HO343.out)) (Kd.R_base ho0) hb); have n2_ := Aside0.mk (Kd.R_lower (Kd.R_new' (Kd.R_new' ho0 (Kd.R_lt ((Sqz.mvR HO_5.out)))) (Kd.R_lt ((Sqz.mvR HO343.out)))) (below_size (Sqz.auHB))); have n3_ := Aside0.mk (below_step (Sqz.auHB) hb); clear HO_5; clear HO343; clear HB; have HO_5 := n0_; have HO343 := n1_; have HO347 := n2_; have HB := n3_; clear n0_ n1_ n2_ n3_; (try clear hb); (try clear hb2); (try clear hk); (try clear hi); (try clear ho0)) | ((with_reducible refine gate_callee (f := 29) rfl ?_); refine goesL_ (some 64) rfl rfl Try.func29 (by kernel_rfl) rfl #[.int .i64 (wrap64 ((wrap64 (t335 * (2 + ((l1.length : Int) % 3)))) * (2 + ((l1.length : Int) % 3))))] rfl Sqz.auM ?_; (with_reducible refine (laws_sizeOf.calls (wrap64 ((wrap64 (t335 * (2 + ((l1.length : Int) % 3)))) * (2 + ((l1.length : Int) % 3)))) t348 _ A17.out).mono ?_); rintro e w92 ⟨rfl, hb⟩; refine ⟨_, rfl, ?_⟩; have n0_ := Aside0.mk (Kd.R_below ((Sqz.mvR HO_5.out)) hb); have n1_ := Aside0.mk (Kd.R_below ((Sqz.mvR HO343.out)) hb); have n2_ := Aside0.mk (Kd.R_below ((Sqz.mvR HO347.out)) hb); have n3_ := Aside0.mk (below_step (Sqz.auHB) hb); clear HO_5; clear HO343; clear HO347; clear HB; have HO_5 := n0_; have HO343 := n1_; have HO347 := n2_; have HB := n3_; clear n0_ n1_ n2_ n3_; (try clear hb); (try clear hb2); (try clear hk); (try clear hi)) | (go_at_call 26; (with_reducible refine (impl_ValueAt.calls kj8 _ _ t334 (wrap64 ((wrap64 (t335 * (2 + ((l1.length : Int) % 3)))) * (2 + ((l1.length : Int) % 3)))) t336 true _ ?side1 ?side2 A56.out).mono ?_); (case side1 => exact Sqz.mvC ((Kd.R_reads' HO_5.out).2.2)); (case side2 => exact (Kd.R_reads' HO_5.out).2.1); rintro e w93 ⟨rfl, hb⟩; have n0_ := Aside0.mk (Kd.R_below ((Sqz.mvR HO_5.out)) hb); have n1_ := Aside0.mk (Kd.R_below ((Sqz.mvR HO343.out)) hb); have n2_ := Aside0.mk (Kd.R_below ((Sqz.mvR HO347.out)) hb); have n3_ := Aside0.mk (below_step (Sqz.auHB) hb); clear HO_5; clear HO343; clear HO347; clear HB; have HO_5 := n0_; have HO343 := n1_; have HO347 := n2_; have HB := n3_; clear n0_ n1_ n2_ n3_; (try clear hb); (try clear hb2); (try clear hk); (try clear hi); have p355 : 0 ≤ (0 : Int) := (by omega); have q355 : 0 < (t334.length : Int) := of_decide_eq_true (by first | (with_reducible assumption) | assumption); obtain ⟨ad355, e355, hx355_0⟩ := Kd.at_int (Kd.R_reads' HO_5.out).2.2 0 p355 q355; cases e355; have qi355 : (0 < t334.length) = True := eq_true (by omega); (try rw [show ((0 : Int)).toNat = 0 from rfl] at hx355_0); (try rw [Addr.add_zero'] at hx355_0); replace p355 := eq_true p355; replace q355 := eq_true q355) | (go_at_call 30; (with_reducible refine (impl_LocalSame.calls kj8 (rd t334 0) t335 t336 true _ A76.out).mono ?_); rintro e w' ⟨rfl, ⟨nd, rfl⟩⟩))
                          go_ret
                          exact ⟨Sqz.auR, Sqz.auHB⟩
                      · replace c77 := Bool.eq_false_iff.mpr c77
                        subst c77
                        have H1 : (some false) = some r := by rw [if_neg (show ¬ (false = true) by decide)] at H; exact H
                        clear H
                        have H := H1
                        clear H1
                        obtain rfl := Option.some.inj H
                        go_wp2_with (first | ((with_reducible refine gate_dst (N := 55) rfl ?_); (try (refine gate_guard (by rfl) ?_; dsimp only)); refine Kd.R_lit (Kd.int .i64) _ 3 ?hg (N := 55) ?hd (xs := ([1 + ((l1.length : Int) % 20)] : List Int)) (inner := [.int .i64 (1 + ((l1.length : Int) % 20))]) (ok := fun _ => True) (okp := fun _ => True) ?hr ?hp (fun _ hk => hk) trivial (Below.refl _ _) (Nat.le_refl _) (by simp) ?_; (case hd => rfl); (case hg => rfl); (case hr => first | (go_simp; done) | (go_simp; rfl)); (case hp => exact (Reps.one (show Kd.M (Kd.int .i64) _ _ _ (1 + ((l1.length : Int) % 20)) [.int .i64 (1 + ((l1.length : Int) % 20))] from rfl) (Reps.none _ _))); intro v342 w94 ho95 hb hg_ hnew_; clear hg_ hnew_; (first | rw [← Ny341.out] at ho95 | (simp only [Int.reduceToNat] at ho95; rw [← Ny341.out] at ho95)); have n0_ := Aside0.mk (Kd.R_elder' ((Sqz.mvR HO_5.out)) (Kd.R_base ho95) hb); have n1_ := Aside0.mk (Kd.R_lower (Kd.R_new' ho95 (Kd.R_lt ((Sqz.mvR HO_5.out)))) (below_size (Sqz.auHB))); have n2_ := Aside0.mk (below_step (Sqz.auHB) hb); clear HO_5; clear HB; have HO_5 := n0_; have HO343 := n1_; have HB := n2_; clear n0_ n1_ n2_; clear hb ho95; obtain ⟨Ao96, co96, eo96⟩ := Kd.R_slice HO343.out; subst eo96) | ((with_reducible refine gate_callee (f := 25) rfl ?_); refine goesL_ (some 56) rfl rfl Try.func25 (by kernel_rfl) rfl #[.slice Ao11 t334.length co11, .slice Ao96 y341.length co96] rfl Sqz.auM ?_; (with_reducible refine (impl_FormJoin.calls kj8 _ _ t334 _ _ y341 t344 t345 _ ?side1 ?side2 ?side3 ?side4 A16.out).mono ?_); (case side1 => exact Sqz.mvC ((Kd.R_reads' HO_5.out).2.2)); (case side2 => exact (Kd.R_reads' HO_5.out).2.1); (case side3 => exact Sqz.mvC ((Kd.R_reads' HO343.out).2.2)); (case side4 => exact (Kd.R_reads' HO343.out).2.1); rintro e w97 ⟨v346, rfl, ho0, hb⟩; refine ⟨_, rfl, ?_⟩; have n0_ := Aside0.mk (Kd.R_elder' ((Sqz.mvR HO_5.out)) (Kd.R_base ho0) hb); have n1_ := Aside0.mk (Kd.R_elder' ((Sqz.mvR HO343.out)) (Kd.R_base ho0) hb); have n2_ := Aside0.mk (Kd.R_lower (Kd.R_new' (Kd.R_new' ho0 (Kd.R_lt ((Sqz.mvR HO_5.out)))) (Kd.R_lt ((Sqz.mvR HO343.out)))) (below_size (Sqz.auHB))); have n3_ := Aside0.mk (below_step (Sqz.auHB) hb); clear HO_5; clear HO343; clear HB; have HO_5 := n0_; have HO343 := n1_; have HO347 := n2_; have HB := n3_; clear n0_ n1_ n2_ n3_; (try clear hb); (try clear hb2); (try clear hk); (try clear hi); (try clear ho0)) | ((with_reducible refine gate_callee (f := 29) rfl ?_); refine goesL_ (some 64) rfl rfl Try.func29 (by kernel_rfl) rfl #[.int .i64 (wrap64 ((wrap64 (t335 * (2 + ((l1.length : Int) % 3)))) * (2 + ((l1.length : Int) % 3))))] rfl Sqz.auM ?_; (with_reducible refine (laws_sizeOf.calls (wrap64 ((wrap64 (t335 * (2 + ((l1.length : Int) % 3)))) * (2 + ((l1.length : Int) % 3)))) t348 _ A17.out).mono ?_); rintro e w98 ⟨rfl, hb⟩; refine ⟨_, rfl, ?_⟩; have n0_ := Aside0.mk (Kd.R_below ((Sqz.mvR HO_5.out)) hb); have n1_ := Aside0.mk (Kd.R_below ((Sqz.mvR HO343.out)) hb); have n2_ := Aside0.mk (Kd.R_below ((Sqz.mvR HO347.out)) hb); have n3_ := Aside0.mk (below_step (Sqz.auHB) hb); clear HO_5; clear HO343; clear HO347; clear HB; have HO_5 := n0_; have HO343 := n1_; have HO347 := n2_; have HB := n3_; clear n0_ n1_ n2_ n3_; (try clear hb); (try clear hb2); (try clear hk); (try clear hi)) | (go_at_call 26; (with_reducible refine (impl_ValueAt.calls kj8 _ _ t334 (wrap64 ((wrap64 (t335 * (2 + ((l1.length : Int) % 3)))) * (2 + ((l1.length : Int) % 3)))) t336 true _ ?side1 ?side2 A56.out).mono ?_); (case side1 => exact Sqz.mvC ((Kd.R_reads' HO_5.out).2.2)); (case side2 => exact (Kd.R_reads' HO_5.out).2.1); rintro e w99 ⟨rfl, hb⟩; have n0_ := Aside0.mk (Kd.R_below ((Sqz.mvR HO_5.out)) hb); have n1_ := Aside0.mk (Kd.R_below ((Sqz.mvR HO343.out)) hb); have n2_ := Aside0.mk (Kd.R_below ((Sqz.mvR HO347.out)) hb); have n3_ := Aside0.mk (below_step (Sqz.auHB) hb); clear HO_5; clear HO343; clear HO347; clear HB; have HO_5 := n0_; have HO343 := n1_; have HO347 := n2_; have HB := n3_; clear n0_ n1_ n2_ n3_; (try clear hb); (try clear hb2); (try clear hk); (try clear hi); have p355 : 0 ≤ (0 : Int) := (by omega); have q355 : 0 < (t334.length : Int) := of_decide_eq_true (by first | (with_reducible assumption) | assumption); obtain ⟨ad355, e355, hx355_0⟩ := Kd.at_int (Kd.R_reads' HO_5.out).2.2 0 p355 q355; cases e355; have qi355 : (0 < t334.length) = True := eq_true (by omega); (try rw [show ((0 : Int)).toNat = 0 from rfl] at hx355_0); (try rw [Addr.add_zero'] at hx355_0); replace p355 := eq_true p355; replace q355 := eq_true q355) | (go_at_call 30; (with_reducible refine (impl_LocalSame.calls kj8 (rd t334 0) t335 t336 false _ A76.out).mono ?_); rintro e w' ⟨rfl, ⟨nd, rfl⟩⟩))
                        go_ret
                        exact ⟨Sqz.auR, Sqz.auHB⟩
                    · rw [if_neg c75] at H
                      exact absurd H (by simp)
                · replace c57 := Bool.eq_false_iff.mpr c57
                  subst c57
                  have H1 : (some false) = some r := by rw [if_neg (show ¬ (false = true) by decide)] at H; exact H
                  clear H
                  have H := H1
                  clear H1
                  obtain rfl := Option.some.inj H
                  go_wp2_with (first | ((with_reducible refine gate_dst (N := 55) rfl ?_); (try (refine gate_guard (by rfl) ?_; dsimp only)); refine Kd.R_lit (Kd.int .i64) _ 3 ?hg (N := 55) ?hd (xs := ([1 + ((l1.length : Int) % 20)] : List Int)) (inner := [.int .i64 (1 + ((l1.length : Int) % 20))]) (ok := fun _ => True) (okp := fun _ => True) ?hr ?hp (fun _ hk => hk) trivial (Below.refl _ _) (Nat.le_refl _) (by simp) ?_; (case hd => rfl); (case hg => rfl); (case hr => first | (go_simp; done) | (go_simp; rfl)); (case hp => exact (Reps.one (show Kd.M (Kd.int .i64) _ _ _ (1 + ((l1.length : Int) % 20)) [.int .i64 (1 + ((l1.length : Int) % 20))] from rfl) (Reps.none _ _))); intro v342 w100 ho101 hb hg_ hnew_; clear hg_ hnew_; (first | rw [← Ny341.out] at ho101 | (simp only [Int.reduceToNat] at ho101; rw [← Ny341.out] at ho101)); have n0_ := Aside0.mk (Kd.R_elder' ((Sqz.mvR HO_5.out)) (Kd.R_base ho101) hb); have n1_ := Aside0.mk (Kd.R_lower (Kd.R_new' ho101 (Kd.R_lt ((Sqz.mvR HO_5.out)))) (below_size (Sqz.auHB))); have n2_ := Aside0.mk (below_step (Sqz.auHB) hb); clear HO_5; clear HB; have HO_5 := n0_; have HO343 := n1_; have HB := n2_; clear n0_ n1_ n2_; clear hb ho101; obtain ⟨Ao102, co102, eo102⟩ := Kd.R_slice HO343.out; subst eo102) | ((with_reducible refine gate_callee (f := 25) rfl ?_); refine goesL_ (some 56) rfl rfl Try.func25 (by kernel_rfl) rfl #[.slice Ao11 t334.length co11, .slice Ao102 y341.length co102] rfl Sqz.auM ?_; (with_reducible refine (impl_FormJoin.calls kj8 _ _ t334 _ _ y341 t344 t345 _ ?side1 ?side2 ?side3 ?side4 A16.out).mono ?_); (case side1 => exact Sqz.mvC ((Kd.R_reads' HO_5.out).2.2)); (case side2 => exact (Kd.R_reads' HO_5.out).2.1); (case side3 => exact Sqz.mvC ((Kd.R_reads' HO343.out).2.2)); (case side4 => exact (Kd.R_reads' HO343.out).2.1); rintro e w103 ⟨v346, rfl, ho0, hb⟩; refine ⟨_, rfl, ?_⟩; have n0_ := Aside0.mk (Kd.R_elder' ((Sqz.mvR HO_5.out)) (Kd.R_base ho0) hb); have n1_ := Aside0.mk (Kd.R_elder' ((Sqz.mvR HO343.out)) (Kd.R_base ho0) hb); have n2_ := Aside0.mk (Kd.R_lower (Kd.R_new' (Kd.R_new' ho0 (Kd.R_lt ((Sqz.mvR HO_5.out)))) (Kd.R_lt ((Sqz.mvR HO343.out)))) (below_size (Sqz.auHB))); have n3_ := Aside0.mk (below_step (Sqz.auHB) hb); clear HO_5; clear HO343; clear HB; have HO_5 := n0_; have HO343 := n1_; have HO347 := n2_; have HB := n3_; clear n0_ n1_ n2_ n3_; (try clear hb); (try clear hb2); (try clear hk); (try clear hi); (try clear ho0)) | ((with_reducible refine gate_callee (f := 29) rfl ?_); refine goesL_ (some 64) rfl rfl Try.func29 (by kernel_rfl) rfl #[.int .i64 (wrap64 ((wrap64 (t335 * (2 + ((l1.length : Int) % 3)))) * (2 + ((l1.length : Int) % 3))))] rfl Sqz.auM ?_; (with_reducible refine (laws_sizeOf.calls (wrap64 ((wrap64 (t335 * (2 + ((l1.length : Int) % 3)))) * (2 + ((l1.length : Int) % 3)))) t348 _ A17.out).mono ?_); rintro e w104 ⟨rfl, hb⟩; refine ⟨_, rfl, ?_⟩; have n0_ := Aside0.mk (Kd.R_below ((Sqz.mvR HO_5.out)) hb); have n1_ := Aside0.mk (Kd.R_below ((Sqz.mvR HO343.out)) hb); have n2_ := Aside0.mk (Kd.R_below ((Sqz.mvR HO347.out)) hb); have n3_ := Aside0.mk (below_step (Sqz.auHB) hb); clear HO_5; clear HO343; clear HO347; clear HB; have HO_5 := n0_; have HO343 := n1_; have HO347 := n2_; have HB := n3_; clear n0_ n1_ n2_ n3_; (try clear hb); (try clear hb2); (try clear hk); (try clear hi)) | (go_at_call 26; (with_reducible refine (impl_ValueAt.calls kj8 _ _ t334 (wrap64 ((wrap64 (t335 * (2 + ((l1.length : Int) % 3)))) * (2 + ((l1.length : Int) % 3)))) t336 false _ ?side1 ?side2 A56.out).mono ?_); (case side1 => exact Sqz.mvC ((Kd.R_reads' HO_5.out).2.2)); (case side2 => exact (Kd.R_reads' HO_5.out).2.1); rintro e w105 ⟨rfl, hb⟩; have n0_ := Aside0.mk (Kd.R_below ((Sqz.mvR HO_5.out)) hb); have n1_ := Aside0.mk (Kd.R_below ((Sqz.mvR HO343.out)) hb); have n2_ := Aside0.mk (Kd.R_below ((Sqz.mvR HO347.out)) hb); have n3_ := Aside0.mk (below_step (Sqz.auHB) hb); clear HO_5; clear HO343; clear HO347; clear HB; have HO_5 := n0_; have HO343 := n1_; have HO347 := n2_; have HB := n3_; clear n0_ n1_ n2_ n3_; (try clear hb); (try clear hb2); (try clear hk); (try clear hi)))
                  go_ret
                  exact ⟨Sqz.auR, Sqz.auHB⟩

/-- THE ONE PURE STATEMENT of laws_FnValueAt: yours. -/
def laws_FnValueAt.Pure : Prop := ∀ (l0 : List Int) (l1 : List Int), l0.length ≤ maxLen → l0.length * 1 ≤ 140737488351232 → (∀ x ∈ l0, (Lit.int .u8 x).wf = true) → l1.length ≤ maxLen → l1.length * 1 ≤ 140737488351232 → (∀ x ∈ l1, (Lit.int .u8 x).wf = true) → ∃ k, laws_FnValueAt.f k l0 l1 = some true
theorem laws_FnValueAt.walk (P : laws_FnValueAt.Pure) (a0 : Option Addr) (len0 cap0 : Nat) (z0 : List Int) (a1 : Option Addr) (len1 cap1 : Nat) (z1 : List Int) (w : World) (w0 : (a0 = none ∧ len0 = 0 ∧ cap0 = 0 ∧ z0 = []) ∨ ∃ x, a0 = some x ∧ len0 ≤ cap0 ∧ cap0 ≤ maxLen ∧ z0.length = cap0 ∧ (∀ i, i < z0.length → w.cell? (x.add i) = some (.int .u8 (z0.getD i 0))) ∧ ∀ n ∈ z0, (Lit.int .u8 n).wf = true) (y0 : len0 * 1 ≤ 140737488351232) (w1 : (a1 = none ∧ len1 = 0 ∧ cap1 = 0 ∧ z1 = []) ∨ ∃ x, a1 = some x ∧ len1 ≤ cap1 ∧ cap1 ≤ maxLen ∧ z1.length = cap1 ∧ (∀ i, i < z1.length → w.cell? (x.add i) = some (.int .u8 (z1.getD i 0))) ∧ ∀ n ∈ z1, (Lit.int .u8 n).wf = true) (y1 : len1 * 1 ≤ 140737488351232) :
    Calls Try.prog 5 #[.slice a0 len0 cap0, .slice a1 len1 cap1] w fun e w' => e = .returned (.bool true) ∧ Below w.heap.size w w' := by
  obtain ⟨l0, rfl, hr0, hm0, hw0, hc0⟩ := ReadsInt.ofRowC w0
  obtain ⟨l1, rfl, hr1, hm1, hw1, hc1⟩ := ReadsInt.ofRowC w1
  obtain ⟨k, h⟩ := P l0 l1 hm0 y0 hw0 hm1 y1 hw1
  refine (laws_FnValueAt.calls k _ _ l0 _ _ l1 true w (Kd.C_of_reads (d := (0 : Int)) (h1 := fun _ => rfl) hr0) hc0 (Kd.C_of_reads (d := (0 : Int)) (h1 := fun _ => rfl) hr1) hc1 h).mono ?_
  rintro e w' ⟨rfl, hd⟩
  exact ⟨rfl, hd⟩

end Go.Proofs.Ytihadpckmcebgaa.PFnValueAt
