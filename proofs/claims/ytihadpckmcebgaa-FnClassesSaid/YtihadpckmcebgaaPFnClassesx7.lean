/- A function's Lean twin and its walk, written by a program of this session. -/
import Derived.Test.YtihadpckmcebgaaPFnClassesx0
import Derived.Test.YtihadpckmcebgaaPFnClassesx2
import Derived.Test.YtihadpckmcebgaaPFnClassesx4
import Derived.Test.YtihadpckmcebgaaPFnClassesx6
namespace Go.Proofs.Ytihadpckmcebgaa.PFnClasses
open Go.RowKit Go.Proofs.YtihadpckmcebgaaW.PrintWords Go.Proofs.YtihadpckmcebgaaW.PrintLast Go.Proofs.YtihadpckmcebgaaW.PrintMore
attribute [local go_sem] max2_int min2_int max_two min_two max_three min_three max_four min_four   -- for this text's walks alone
set_option linter.unusedVariables false
set_option linter.unusedSimpArgs false

/-! ### laws_FnClasses: function 7 -/
mutual
def laws_FnClasses.j0 : Nat → List Int → Int → List Int → List Int → Bool → Option (Bool)
  | 0, _, _, _, _, _ => none
  | k + 1, x3, x4, x5, x6, x33 => if x33 = true then ((laws_sameInts.f k x5 x6).bind fun t382 => (some t382)) else ((impl_LocalNames.f k x4).bind fun bt383 => (laws_FnClasses.l0 k x3 x4 x5 bt383.1 bt383.2 true 0))
def laws_FnClasses.l0 : Nat → List Int → Int → List Int → List Int → Bool → Bool → Int → Option (Bool)
  | 0, _, _, _, _, _, _, _ => none
  | k + 1, x3, x4, x5, x7, x8, x9, x10 => if x10 < (x7.length : Int) then (if x9 = true then (if 0 ≤ x10 then ((laws_sizeOf.f (rd x7 x10)).bind fun t389 => (laws_FnClasses.j2 k x3 x4 x5 x7 x8 (decide (t389 ≤ 30)) x10)) else (none)) else (laws_FnClasses.j2 k x3 x4 x5 x7 x8 false x10)) else (if x9 = true then (if x8 = true then ((impl_PlanesAt.f k x3 x4).bind fun t387 => (if t387 = 0 then (if (x3.length : Int) < 3 then (some true) else (if x4 < 3 then (some true) else (some (decide ((x5.length : Int) ≥ 3))))) else (if (x5.length : Int) = (x7.length : Int) then (if (x3.length : Int) < 3 then (some true) else (if x4 < 3 then (some true) else (some (decide ((x5.length : Int) ≥ 3))))) else (some false)))) else (some false)) else (some x8))
def laws_FnClasses.j2 : Nat → List Int → Int → List Int → List Int → Bool → Bool → Int → Option (Bool)
  | 0, _, _, _, _, _, _, _ => none
  | k + 1, x3, x4, x5, x7, x8, x9, x10 => if 0 ≤ x10 then (if x10 < (x7.length : Int) then ((laws_sizeOf.f (rd x7 x10)).bind fun t391 => (if t391 ≤ 30 then ((laws_hasInt.f k x5 (rd x7 x10)).bind fun t393 => ((impl_ValueAt.f k x3 (rd x7 x10) x4).bind fun t395 => (if (t393 != t395) = true then (some false) else (laws_FnClasses.l0 k x3 x4 x5 x7 x8 x9 (wrap64 (x10 + 1)))))) else (laws_FnClasses.l0 k x3 x4 x5 x7 x8 x9 (wrap64 (x10 + 1))))) else (none)) else (none)
end
def laws_FnClasses.f (k : Nat) (l0 : List Int) : Option (Bool) := if (l0.length : Int) > 1048576 then (some true) else ((spec_DrawValueClasses.f k l0).bind fun bt371 => ((impl_ValueClasses.f k bt371.1 bt371.2).bind fun t375 => ((spec_ValueClasses.f k bt371.1 bt371.2).bind fun t378 => ((laws_sameInts.f k t375 t378).bind fun t381 => (if t381 = true then (laws_FnClasses.j0 k bt371.1 bt371.2 t375 t378 ((t375.length : Int) == 0)) else (laws_FnClasses.j0 k bt371.1 bt371.2 t375 t378 true))))))
def laws_FnClasses.T14 : Bool × List (List Nat × List Nat) := (true, [([], []), ([], []), ([0, 1], [0, 1]), ([2], [2]), ([3], [3]), ([4], [4]), ([5, 4], [5]), ([6], [6]), ([6], [6]), ([6], [6]), ([8, 9, 6], [6, 8, 9]), ([10, 6], [6, 10]), ([7, 11, 6, 6], [6, 7, 11]), ([6], [6]), ([6], [6]), ([6], [6]), ([14, 15, 6], [6, 14, 15]), ([16, 6], [6, 16]), ([6], [6]), ([13, 17, 18, 12, 6], [6, 13, 17, 18]), ([12, 19, 6], [6, 12, 19]), ([6, 20], [6, 20])])
def laws_FnClasses.B14 : List Nat := [0, 0, 3, 7, 15, 31, 63, 127, 127, 127, 895, 1919, 4095, 127, 127, 127, 49279, 114815, 127, 524287, 1048575, 2097151]
theorem laws_FnClasses.tab14 : rtab .any (opsOf Try.f7 14) = laws_FnClasses.T14 := by kernel_rfl
theorem laws_FnClasses.bits14 : waitsOk laws_FnClasses.T14.2 laws_FnClasses.B14 = true := by kernel_rfl
set_option maxHeartbeats 8000000 in
set_option maxRecDepth 100000 in
theorem laws_FnClasses.calls (k : Nat) (A0 : Option Addr) (c0 : Nat) (l0 : List Int) (r : Bool) (w : World) (hr0 : Kd.C (Kd.int .u8) w A0 l0.length l0) (hc0 : l0.length ≤ c0) (h : laws_FnClasses.f k l0 = some r) :
    Calls Try.prog 7 #[.slice A0 l0.length c0] w fun e w' => e = .returned (.bool r) ∧ Below w.heap.size w w' := by
  have HR0 := Aside0.mk hr0
  have HC0 := Aside0.mk hc0
  clear hr0 hc0
  have HB := Aside0.mk (Below.refl w.heap.size w)
  have H : (if (l0.length : Int) > 1048576 then (some true) else ((spec_DrawValueClasses.f k l0).bind fun bt371 => ((impl_ValueClasses.f k bt371.1 bt371.2).bind fun t375 => ((spec_ValueClasses.f k bt371.1 bt371.2).bind fun t378 => ((laws_sameInts.f k t375 t378).bind fun t381 => (if t381 = true then (laws_FnClasses.j0 k bt371.1 bt371.2 t375 t378 ((t375.length : Int) == 0)) else (laws_FnClasses.j0 k bt371.1 bt371.2 t375 t378 true))))))) = some r := h
  clear h
  by_cases c2 : (l0.length : Int) > 1048576
  · rw [if_pos c2] at H
    have c2b0 : decide (1048576 < (l0.length : Int)) = true := decide_eq_true c2
    have c2b1 : decide (1048576 < l0.length) = true := decide_eq_true (by omega)
    clear c2
    obtain rfl := Option.some.inj H
    go_enter Try.func7, Try.ntmps7
    go_wp2
    go_ret
    exact ⟨Sqz.auR, Sqz.auHB⟩
  · rw [if_neg c2] at H
    have c2b0 : decide (1048576 < (l0.length : Int)) = false := decide_eq_false c2
    have c2b1 : decide (1048576 < l0.length) = false := decide_eq_false (by omega)
    clear c2
    replace H := Option.bind_eq_some_iff.mp H
    obtain ⟨⟨t371, t372⟩, A30, H⟩ := H
    replace H : ((impl_ValueClasses.f k t371 t372).bind fun t375 => ((spec_ValueClasses.f k t371 t372).bind fun t378 => ((laws_sameInts.f k t375 t378).bind fun t381 => (if t381 = true then (laws_FnClasses.j0 k t371 t372 t375 t378 ((t375.length : Int) == 0)) else (laws_FnClasses.j0 k t371 t372 t375 t378 true))))) = some r := H
    have A3 := Aside0.mk A30
    clear A30
    replace H := Option.bind_eq_some_iff.mp H
    obtain ⟨t375, A40, H⟩ := H
    replace H : ((spec_ValueClasses.f k t371 t372).bind fun t378 => ((laws_sameInts.f k t375 t378).bind fun t381 => (if t381 = true then (laws_FnClasses.j0 k t371 t372 t375 t378 ((t375.length : Int) == 0)) else (laws_FnClasses.j0 k t371 t372 t375 t378 true)))) = some r := H
    have A4 := Aside0.mk A40
    clear A40
    replace H := Option.bind_eq_some_iff.mp H
    obtain ⟨t378, A50, H⟩ := H
    replace H : ((laws_sameInts.f k t375 t378).bind fun t381 => (if t381 = true then (laws_FnClasses.j0 k t371 t372 t375 t378 ((t375.length : Int) == 0)) else (laws_FnClasses.j0 k t371 t372 t375 t378 true))) = some r := H
    have A5 := Aside0.mk A50
    clear A50
    have HC6 := Aside0.mk H
    clear H
    go_enter Try.func7, Try.ntmps7
    go_upto_region 6 with (first | ((with_reducible refine gate_callee (f := 34) rfl ?_); refine goesL_ (some 16) rfl rfl Try.func34 (by kernel_rfl) rfl #[.slice A0 l0.length c0] rfl Sqz.auM ?_; (with_reducible refine (spec_DrawValueClasses.calls k _ _ l0 t371 t372 _ ?side1 ?side2 A3.out).mono ?_); (case side1 => exact Sqz.mvC (HR0.out)); (case side2 => exact HC0.out); rintro e w7 ⟨v373, rfl, ho0, hb⟩; refine ⟨_, rfl, ?_⟩; have n0_ := Aside0.mk (Kd.R_lower ho0 (below_size (Sqz.auHB))); have n1_ := Aside0.mk (below_step (Sqz.auHB) hb); clear HB; have HO374 := n0_; have HB := n1_; clear n0_ n1_; (try clear hb); (try clear hb2); (try clear hk); (try clear hi); (try clear ho0); obtain ⟨Ao8, co8, eo8⟩ := Kd.R_slice HO374.out; subst eo8) | ((with_reducible refine gate_callee (f := 35) rfl ?_); refine goesL_ (some 21) rfl rfl Try.func35 (by kernel_rfl) rfl #[.slice Ao8 t371.length co8, .int .i64 t372] rfl Sqz.auM ?_; (with_reducible refine (impl_ValueClasses.calls k _ _ t371 t372 t375 _ ?side1 ?side2 A4.out).mono ?_); (case side1 => exact Sqz.mvC ((Kd.R_reads' HO374.out).2.2)); (case side2 => exact (Kd.R_reads' HO374.out).2.1); rintro e w9 ⟨v376, rfl, ho0, hb⟩; refine ⟨_, rfl, ?_⟩; have n0_ := Aside0.mk (Kd.R_elder' ((Sqz.mvR HO374.out)) (Kd.R_base ho0) hb); have n1_ := Aside0.mk (Kd.R_lower (Kd.R_new' ho0 (Kd.R_lt ((Sqz.mvR HO374.out)))) (below_size (Sqz.auHB))); have n2_ := Aside0.mk (below_step (Sqz.auHB) hb); clear HO374; clear HB; have HO374 := n0_; have HO377 := n1_; have HB := n2_; clear n0_ n1_ n2_; (try clear hb); (try clear hb2); (try clear hk); (try clear hi); (try clear ho0)) | ((with_reducible refine gate_callee (f := 36) rfl ?_); refine goesL_ (some 24) rfl rfl Try.func36 (by kernel_rfl) rfl #[.slice Ao8 t371.length co8, .int .i64 t372] rfl Sqz.auM ?_; (with_reducible refine (spec_ValueClasses.calls k _ _ t371 t372 t378 _ ?side1 ?side2 A5.out).mono ?_); (case side1 => exact Sqz.mvC ((Kd.R_reads' HO374.out).2.2)); (case side2 => exact (Kd.R_reads' HO374.out).2.1); rintro e w10 ⟨v379, rfl, ho0, hb⟩; refine ⟨_, rfl, ?_⟩; have n0_ := Aside0.mk (Kd.R_elder' ((Sqz.mvR HO374.out)) (Kd.R_base ho0) hb); have n1_ := Aside0.mk (Kd.R_elder' ((Sqz.mvR HO377.out)) (Kd.R_base ho0) hb); have n2_ := Aside0.mk (Kd.R_lower (Kd.R_new' (Kd.R_new' ho0 (Kd.R_lt ((Sqz.mvR HO374.out)))) (Kd.R_lt ((Sqz.mvR HO377.out)))) (below_size (Sqz.auHB))); have n3_ := Aside0.mk (below_step (Sqz.auHB) hb); clear HO374; clear HO377; clear HB; have HO374 := n0_; have HO377 := n1_; have HO380 := n2_; have HB := n3_; clear n0_ n1_ n2_ n3_; (try clear hb); (try clear hb2); (try clear hk); (try clear hi); (try clear ho0)))
    (try simp only [Act.put, List.setIfInBounds_toArray, List.set_cons_zero, List.set_cons_succ])
    go_cut [33] (fun v33 wc => ∃ (kq : Nat) (x33_5 : Bool), v33 = .bool x33_5 ∧ Aside0 (laws_FnClasses.j0 kq t371 t372 t375 t378 x33_5 = some r) ∧ Aside0 (kq ≤ k) ∧ Aside0 (Kd.R (Kd.int .i64) 3 wc w.heap.size (fun k_ => some k_ ≠ (v376 : Value).ownBlock ∧ some k_ ≠ (v379 : Value).ownBlock) (.slice Ao8 t371.length co8) t371) ∧ Aside0 (Kd.R (Kd.int .i64) 3 wc w.heap.size (fun k_ => some k_ ≠ ((.slice Ao8 t371.length co8) : Value).ownBlock ∧ some k_ ≠ (v379 : Value).ownBlock) v376 t375) ∧ Aside0 (Kd.R (Kd.int .i64) 3 wc w.heap.size (fun k_ => some k_ ≠ ((.slice Ao8 t371.length co8) : Value).ownBlock ∧ some k_ ≠ (v376 : Value).ownBlock) v379 t378) ∧ Aside0 (Below w.heap.size w wc))
    case first =>
      have H := HC6.out
      clear HC6
      replace H := Option.bind_eq_some_iff.mp H
      obtain ⟨t381, A110, H⟩ := H
      replace H : (if t381 = true then (laws_FnClasses.j0 k t371 t372 t375 t378 ((t375.length : Int) == 0)) else (laws_FnClasses.j0 k t371 t372 t375 t378 true)) = some r := H
      have A11 := Aside0.mk A110
      clear A110
      by_cases c12 : t381 = true
      · subst c12
        have H1 : (laws_FnClasses.j0 k t371 t372 t375 t378 ((t375.length : Int) == 0)) = some r := by rw [if_pos rfl] at H; exact H
        clear H
        have H := H1
        clear H1
        have H' := Aside0.mk H
        clear H
        obtain ⟨Ao13, co13, eo13⟩ := Kd.R_slice HO377.out
        subst eo13
        obtain ⟨Ao14, co14, eo14⟩ := Kd.R_slice HO380.out
        subst eo14
        go_wp2_with (first | ((with_reducible refine gate_callee (f := 37) rfl ?_); refine goesL_ (some 27) rfl rfl Try.func37 (by kernel_rfl) rfl #[.slice Ao13 t375.length co13, .slice Ao14 t378.length co14] rfl Sqz.auM ?_; (with_reducible refine (laws_sameInts.calls k _ _ t375 _ _ t378 true _ ?side1 ?side2 ?side3 ?side4 A11.out).mono ?_); (case side1 => exact Sqz.mvC ((Kd.R_reads' HO377.out).2.2)); (case side2 => exact (Kd.R_reads' HO377.out).2.1); (case side3 => exact Sqz.mvC ((Kd.R_reads' HO380.out).2.2)); (case side4 => exact (Kd.R_reads' HO380.out).2.1); rintro e w' ⟨rfl, ⟨nd, rfl⟩⟩; refine ⟨_, rfl, ?_⟩))
        go_meet
        case rel => exact ⟨_, (((t375.length : Int) == 0)), Sqz.auS, H', ⟨Sqz.auN⟩, ⟨(Sqz.mvR (Kd.R_mono HO374.out (fun _ hk => ⟨hk.1.2, hk.2⟩)))⟩, ⟨(Sqz.mvR (Kd.R_mono HO377.out (fun _ hk => ⟨hk.1.2, hk.2⟩)))⟩, ⟨(Sqz.mvR (Kd.R_mono HO380.out (fun _ hk => ⟨hk.1.2, hk.2⟩)))⟩, ⟨Sqz.auHB⟩⟩
      · replace c12 := Bool.eq_false_iff.mpr c12
        subst c12
        have H1 : (laws_FnClasses.j0 k t371 t372 t375 t378 true) = some r := by rw [if_neg (show ¬ (false = true) by decide)] at H; exact H
        clear H
        have H := H1
        clear H1
        have H' := Aside0.mk H
        clear H
        obtain ⟨Ao15, co15, eo15⟩ := Kd.R_slice HO377.out
        subst eo15
        obtain ⟨Ao16, co16, eo16⟩ := Kd.R_slice HO380.out
        subst eo16
        go_wp2_with (first | ((with_reducible refine gate_callee (f := 37) rfl ?_); refine goesL_ (some 27) rfl rfl Try.func37 (by kernel_rfl) rfl #[.slice Ao15 t375.length co15, .slice Ao16 t378.length co16] rfl Sqz.auM ?_; (with_reducible refine (laws_sameInts.calls k _ _ t375 _ _ t378 false _ ?side1 ?side2 ?side3 ?side4 A11.out).mono ?_); (case side1 => exact Sqz.mvC ((Kd.R_reads' HO377.out).2.2)); (case side2 => exact (Kd.R_reads' HO377.out).2.1); (case side3 => exact Sqz.mvC ((Kd.R_reads' HO380.out).2.2)); (case side4 => exact (Kd.R_reads' HO380.out).2.1); rintro e w' ⟨rfl, ⟨nd, rfl⟩⟩; refine ⟨_, rfl, ?_⟩))
        go_meet
        case rel => exact ⟨_, (true), Sqz.auS, H', ⟨Sqz.auN⟩, ⟨(Sqz.mvR (Kd.R_mono HO374.out (fun _ hk => ⟨hk.1.2, hk.2⟩)))⟩, ⟨(Sqz.mvR (Kd.R_mono HO377.out (fun _ hk => ⟨hk.1.2, hk.2⟩)))⟩, ⟨(Sqz.mvR (Kd.R_mono HO380.out (fun _ hk => ⟨hk.1.2, hk.2⟩)))⟩, ⟨Sqz.auHB⟩⟩
    case rest =>
      clear HC6
      try clear c1
      try clear c2
      try clear c2b0
      try clear c2b1
      try clear p2
      try clear c3
      try clear c7
      try clear c12
      obtain ⟨kq, x33_5, rfl, HA, HJ5, HO_3, HO_5, HO_6, HB⟩ := hcut
      cases kq with
      | zero => exact absurd HA.out (by simp [laws_FnClasses.j0])
      | succ kj5 =>
        have H := HA.out
        clear HA
        simp only [laws_FnClasses.j0] at H
        by_cases c17 : x33_5 = true
        · subst c17
          have H1 : ((laws_sameInts.f kj5 t375 t378).bind fun t382 => (some t382)) = some r := by rw [if_pos rfl] at H; exact H
          clear H
          have H := H1
          clear H1
          replace H := Option.bind_eq_some_iff.mp H
          obtain ⟨t382, A180, H⟩ := H
          replace H : (some t382) = some r := H
          have A18 := Aside0.mk A180
          clear A180
          obtain rfl := Option.some.inj H
          obtain ⟨Ao19, co19, eo19⟩ := Kd.R_slice HO_5.out
          subst eo19
          obtain ⟨Ao20, co20, eo20⟩ := Kd.R_slice HO_6.out
          subst eo20
          go_wp2_with (first | ((with_reducible refine gate_callee (f := 37) rfl ?_); refine goesL_ (some 36) rfl rfl Try.func37 (by kernel_rfl) rfl #[.slice Ao19 t375.length co19, .slice Ao20 t378.length co20] rfl Sqz.auM ?_; (with_reducible refine (laws_sameInts.calls kj5 _ _ t375 _ _ t378 t382 _ ?side1 ?side2 ?side3 ?side4 A18.out).mono ?_); (case side1 => exact Sqz.mvC ((Kd.R_reads' HO_5.out).2.2)); (case side2 => exact (Kd.R_reads' HO_5.out).2.1); (case side3 => exact Sqz.mvC ((Kd.R_reads' HO_6.out).2.2)); (case side4 => exact (Kd.R_reads' HO_6.out).2.1); rintro e w' ⟨rfl, ⟨nd, rfl⟩⟩; refine ⟨_, rfl, ?_⟩))
          go_ret
          exact ⟨Sqz.auR, Sqz.auHB⟩
        · replace c17 := Bool.eq_false_iff.mpr c17
          subst c17
          have H1 : ((impl_LocalNames.f kj5 t372).bind fun bt383 => (laws_FnClasses.l0 kj5 t371 t372 t375 bt383.1 bt383.2 true 0)) = some r := by rw [if_neg (show ¬ (false = true) by decide)] at H; exact H
          clear H
          have H := H1
          clear H1
          replace H := Option.bind_eq_some_iff.mp H
          obtain ⟨⟨t383, t384⟩, A210, H⟩ := H
          replace H : (laws_FnClasses.l0 kj5 t371 t372 t375 t383 t384 true 0) = some r := H
          have A21 := Aside0.mk A210
          clear A210
          have H' := Aside0.mk H
          clear H
          go_wp2_with (first | ((with_reducible refine gate_callee (f := 38) rfl ?_); refine goesL_ (some 39) rfl rfl Try.func38 (by kernel_rfl) rfl #[.int .i64 t372] rfl Sqz.auM ?_; (with_reducible refine (impl_LocalNames.calls kj5 t372 t383 t384 _ A21.out).mono ?_); rintro e w22 ⟨v385, rfl, ho0, hb⟩; refine ⟨_, rfl, ?_⟩; have n0_ := Aside0.mk (Kd.R_elder' ((Sqz.mvR HO_3.out)) (Kd.R_base ho0) hb); have n1_ := Aside0.mk (Kd.R_elder' ((Sqz.mvR HO_5.out)) (Kd.R_base ho0) hb); have n2_ := Aside0.mk (Kd.R_elder' ((Sqz.mvR HO_6.out)) (Kd.R_base ho0) hb); have n3_ := Aside0.mk (Kd.R_lower (Kd.R_new' (Kd.R_new' (Kd.R_new' ho0 (Kd.R_lt ((Sqz.mvR HO_3.out)))) (Kd.R_lt ((Sqz.mvR HO_5.out)))) (Kd.R_lt ((Sqz.mvR HO_6.out)))) (below_size (Sqz.auHB))); have n4_ := Aside0.mk (below_step (Sqz.auHB) hb); clear HO_3; clear HO_5; clear HO_6; clear HB; have HO_3 := n0_; have HO_5 := n1_; have HO_6 := n2_; have HO386 := n3_; have HB := n4_; clear n0_ n1_ n2_ n3_ n4_; (try clear hb); (try clear hb2); (try clear hk); (try clear hi); (try clear ho0)))
          go_loopg [9, 10] kj5 (fun kq v9 v10 w' => ∃ (x9_2 : Bool) (x10_2 : Int), v9 = .bool x9_2 ∧ v10 = .int .i64 x10_2 ∧ Aside0 (laws_FnClasses.l0 kq t371 t372 t375 t383 t384 x9_2 x10_2 = some r) ∧ Aside0 (kq ≤ kj5) ∧ Aside0 (Kd.R (Kd.int .i64) 3 w' w.heap.size (fun k_ => some k_ ≠ (v376 : Value).ownBlock ∧ some k_ ≠ (v385 : Value).ownBlock) (.slice Ao8 t371.length co8) t371) ∧ Aside0 (Kd.R (Kd.int .i64) 3 w' w.heap.size (fun k_ => some k_ ≠ ((.slice Ao8 t371.length co8) : Value).ownBlock ∧ some k_ ≠ (v385 : Value).ownBlock) v376 t375) ∧ Aside0 (Kd.R (Kd.int .i64) 3 w' w.heap.size (fun k_ => some k_ ≠ ((.slice Ao8 t371.length co8) : Value).ownBlock ∧ some k_ ≠ (v376 : Value).ownBlock) v385 t383) ∧ Aside0 (Below w.heap.size w w'))
          case atStart => exact ⟨(true), (0), Sqz.auS, Sqz.auS, H', ⟨Nat.le_refl _⟩, ⟨(Sqz.mvR (Kd.R_mono HO_3.out (fun _ hk => ⟨hk.1.1, hk.2⟩)))⟩, ⟨(Sqz.mvR (Kd.R_mono HO_5.out (fun _ hk => ⟨hk.1.1, hk.2⟩)))⟩, ⟨(Sqz.mvR (Kd.R_mono HO386.out (fun _ hk => ⟨hk.1.1.2, hk.1.2⟩)))⟩, ⟨Sqz.auHB⟩⟩
          case round =>
            clear H'
            try clear c1
            try clear c2
            try clear c2b0
            try clear c2b1
            try clear p2
            try clear c3
            try clear c7
            try clear c12
            try clear c17
            try clear p2
            obtain ⟨x9_2, x10_2, rfl, rfl, HA, HK2, HO_3, HO_5, HO_7, HB⟩ := hrel
            cases gk with
            | zero => exact absurd HA.out (by simp [laws_FnClasses.l0])
            | succ k2 =>
              have H := HA.out
              clear HA
              simp only [laws_FnClasses.l0] at H
              by_cases c23 : x10_2 < (t383.length : Int)
              · rw [if_pos c23] at H
                have c23b0 : decide (x10_2 < (t383.length : Int)) = true := decide_eq_true c23
                clear c23
                have HC24 := Aside0.mk H
                clear H
                obtain ⟨Ao25, co25, eo25⟩ := Kd.R_slice HO_7.out
                subst eo25
                go_upto_region 13 with (fail)
                go_cut [9] (fun v9 wc => ∃ (kq : Nat) (x9_23 : Bool), v9 = .bool x9_23 ∧ Aside0 (laws_FnClasses.j2 kq t371 t372 t375 t383 t384 x9_23 x10_2 = some r) ∧ Aside0 (kq ≤ k2) ∧ Aside0 (Kd.R (Kd.int .i64) 3 wc w.heap.size (fun k_ => some k_ ≠ (v376 : Value).ownBlock ∧ some k_ ≠ ((.slice Ao25 t383.length co25) : Value).ownBlock) (.slice Ao8 t371.length co8) t371) ∧ Aside0 (Kd.R (Kd.int .i64) 3 wc w.heap.size (fun k_ => some k_ ≠ ((.slice Ao8 t371.length co8) : Value).ownBlock ∧ some k_ ≠ ((.slice Ao25 t383.length co25) : Value).ownBlock) v376 t375) ∧ Aside0 (Kd.R (Kd.int .i64) 3 wc w.heap.size (fun k_ => some k_ ≠ ((.slice Ao8 t371.length co8) : Value).ownBlock ∧ some k_ ≠ (v376 : Value).ownBlock) (.slice Ao25 t383.length co25) t383) ∧ Aside0 (Below w.heap.size w wc))
                case first =>
                  have H := HC24.out
                  clear HC24
                  by_cases c26 : x9_2 = true
                  · subst c26
                    have H1 : (if 0 ≤ x10_2 then ((laws_sizeOf.f (rd t383 x10_2)).bind fun t389 => (laws_FnClasses.j2 k2 t371 t372 t375 t383 t384 (decide (t389 ≤ 30)) x10_2)) else (none)) = some r := by rw [if_pos rfl] at H; exact H
                    clear H
                    have H := H1
                    clear H1
                    by_cases c27 : 0 ≤ x10_2
                    · rw [if_pos c27] at H
                      have c27b0 : decide (0 ≤ x10_2) = true := decide_eq_true c27
                      clear c27
                      (first | rw [c27b0] | (simp only [i64_w, i32_w]; rw [c27b0]) | skip)
                      replace H := Option.bind_eq_some_iff.mp H
                      obtain ⟨t389, A280, H⟩ := H
                      replace H : (laws_FnClasses.j2 k2 t371 t372 t375 t383 t384 (decide (t389 ≤ 30)) x10_2) = some r := H
                      have A28 := Aside0.mk A280
                      clear A280
                      have H' := Aside0.mk H
                      clear H
                      have p388 : 0 ≤ (x10_2 : Int) := of_decide_eq_true (by first | (with_reducible assumption) | assumption)
                      have q388 : x10_2 < (t383.length : Int) := of_decide_eq_true (by first | (with_reducible assumption) | assumption)
                      obtain ⟨ad388, e388, hx388_0⟩ := Kd.at_int (Kd.R_reads' HO_7.out).2.2 x10_2 p388 q388
                      cases e388
                      replace p388 := eq_true p388
                      replace q388 := eq_true q388
                      go_wp2_with (first | (go_at_call 29; (with_reducible refine (laws_sizeOf.calls (rd t383 x10_2) t389 _ A28.out).mono ?_); rintro e w29 ⟨rfl, hb⟩; have n0_ := Aside0.mk (Kd.R_below ((Sqz.mvR HO_3.out)) hb); have n1_ := Aside0.mk (Kd.R_below ((Sqz.mvR HO_5.out)) hb); have n2_ := Aside0.mk (Kd.R_below ((Sqz.mvR HO_7.out)) hb); have n3_ := Aside0.mk (below_step (Sqz.auHB) hb); clear HO_3; clear HO_5; clear HO_7; clear HB; have HO_3 := n0_; have HO_5 := n1_; have HO_7 := n2_; have HB := n3_; clear n0_ n1_ n2_ n3_; (try clear hb); (try clear hb2); (try clear hk); (try clear hi)))
                      go_meet
                      case rel => exact ⟨_, (decide (t389 ≤ 30)), Sqz.auS, H', ⟨by have := HJ5.out; have := HK2.out; first | omega | exact Nat.le_refl _⟩, ⟨(Sqz.mvR HO_3.out)⟩, ⟨(Sqz.mvR HO_5.out)⟩, ⟨(Sqz.mvR HO_7.out)⟩, ⟨Sqz.auHB⟩⟩
                    · rw [if_neg c27] at H
                      exact absurd H (by simp)
                  · replace c26 := Bool.eq_false_iff.mpr c26
                    subst c26
                    have H1 : (laws_FnClasses.j2 k2 t371 t372 t375 t383 t384 false x10_2) = some r := by rw [if_neg (show ¬ (false = true) by decide)] at H; exact H
                    clear H
                    have H := H1
                    clear H1
                    have H' := Aside0.mk H
                    clear H
                    go_wp2
                    go_meet
                    case rel => exact ⟨_, (false), Sqz.auS, H', ⟨by have := HJ5.out; have := HK2.out; first | omega | exact Nat.le_refl _⟩, ⟨(Sqz.mvR HO_3.out)⟩, ⟨(Sqz.mvR HO_5.out)⟩, ⟨(Sqz.mvR HO_7.out)⟩, ⟨Sqz.auHB⟩⟩
                case rest =>
                  clear HC24
                  try clear c1
                  try clear c2
                  try clear c2b0
                  try clear c2b1
                  try clear p2
                  try clear c3
                  try clear p3
                  try clear q3
                  try clear hx3
                  try clear c7
                  try clear c12
                  try clear c17
                  try clear c23
                  try clear c23b0
                  try clear c26
                  try clear c27
                  try clear c27b0
                  try clear hx388_0
                  try clear p2
                  try clear p388
                  try clear q388
                  obtain ⟨kq, x9_23, rfl, HA, HJ23, HO_3, HO_5, HO_7, HB⟩ := hcut
                  cases kq with
                  | zero => exact absurd HA.out (by simp [laws_FnClasses.j2])
                  | succ kj23 =>
                    have H := HA.out
                    clear HA
                    simp only [laws_FnClasses.j2] at H
                    by_cases c30 : 0 ≤ x10_2
                    · rw [if_pos c30] at H
                      have c30b0 : decide (0 ≤ x10_2) = true := decide_eq_true c30
                      clear c30
                      by_cases c31 : x10_2 < (t383.length : Int)
                      · rw [if_pos c31] at H
                        have c31b0 : decide (x10_2 < (t383.length : Int)) = true := decide_eq_true c31
                        clear c31
                        replace H := Option.bind_eq_some_iff.mp H
                        obtain ⟨t391, A320, H⟩ := H
                        replace H : (if t391 ≤ 30 then ((laws_hasInt.f kj23 t375 (rd t383 x10_2)).bind fun t393 => ((impl_ValueAt.f kj23 t371 (rd t383 x10_2) t372).bind fun t395 => (if (t393 != t395) = true then (some false) else (laws_FnClasses.l0 kj23 t371 t372 t375 t383 t384 x9_23 (wrap64 (x10_2 + 1)))))) else (laws_FnClasses.l0 kj23 t371 t372 t375 t383 t384 x9_23 (wrap64 (x10_2 + 1)))) = some r := H
                        have A32 := Aside0.mk A320
                        clear A320
                        by_cases c33 : t391 ≤ 30
                        · rw [if_pos c33] at H
                          have c33b0 : decide (t391 ≤ 30) = true := decide_eq_true c33
                          clear c33
                          replace H := Option.bind_eq_some_iff.mp H
                          obtain ⟨t393, A340, H⟩ := H
                          replace H : ((impl_ValueAt.f kj23 t371 (rd t383 x10_2) t372).bind fun t395 => (if (t393 != t395) = true then (some false) else (laws_FnClasses.l0 kj23 t371 t372 t375 t383 t384 x9_23 (wrap64 (x10_2 + 1))))) = some r := H
                          have A34 := Aside0.mk A340
                          clear A340
                          replace H := Option.bind_eq_some_iff.mp H
                          obtain ⟨t395, A350, H⟩ := H
                          replace H : (if (t393 != t395) = true then (some false) else (laws_FnClasses.l0 kj23 t371 t372 t375 t383 t384 x9_23 (wrap64 (x10_2 + 1)))) = some r := H
                          have A35 := Aside0.mk A350
                          clear A350
                          by_cases c36 : (t393 != t395) = true
                          · rw [if_pos c36] at H
                            have c36b0 : (t393 != t395) = true := c36
                            (try (have c36b1 : decide (t393 = t395) = false := by simpa using c36))
                            (try (have c36b2 : (t393 == t395) = false := by simpa using c36))
                            (try (have c36b3 : ¬ (t393 = t395) := by simpa using c36))
                            clear c36
                            obtain rfl := Option.some.inj H
                            try go_wp2
                            have n0_ := Aside0.mk (Kd.R_drew HO_3.out)
                            have n1_ := Aside0.mk (Kd.R_drew HO_5.out)
                            have n2_ := Aside0.mk (Kd.R_drew HO_7.out)
                            have n3_ := Aside0.mk (below_drew1 HB.out)
                            clear HO_3
                            clear HO_5
                            clear HO_7
                            clear HB
                            have HO_3 := n0_
                            have HO_5 := n1_
                            have HO_7 := n2_
                            have HB := n3_
                            clear n0_ n1_ n2_ n3_
                            have p390 : 0 ≤ (x10_2 : Int) := of_decide_eq_true (by first | (with_reducible assumption) | assumption)
                            have q390 : x10_2 < (t383.length : Int) := of_decide_eq_true (by first | (with_reducible assumption) | assumption)
                            obtain ⟨ad390, e390, hx390_0⟩ := Kd.at_int (Kd.R_reads' HO_7.out).2.2 x10_2 p390 q390
                            cases e390
                            replace p390 := eq_true p390
                            replace q390 := eq_true q390
                            have p392 : 0 ≤ (x10_2 : Int) := of_decide_eq_true (by first | (with_reducible assumption) | assumption)
                            have q392 : x10_2 < (t383.length : Int) := of_decide_eq_true (by first | (with_reducible assumption) | assumption)
                            obtain ⟨ad392, e392, hx392_0⟩ := Kd.at_int (Kd.R_reads' HO_7.out).2.2 x10_2 p392 q392
                            obtain rfl : ad390 = ad392 := (by injection e392)
                            replace p392 := eq_true p392
                            replace q392 := eq_true q392
                            have p394 : 0 ≤ (x10_2 : Int) := of_decide_eq_true (by first | (with_reducible assumption) | assumption)
                            have q394 : x10_2 < (t383.length : Int) := of_decide_eq_true (by first | (with_reducible assumption) | assumption)
                            obtain ⟨ad394, e394, hx394_0⟩ := Kd.at_int (Kd.R_reads' HO_7.out).2.2 x10_2 p394 q394
                            obtain rfl : ad390 = ad394 := (by injection e394)
                            replace p394 := eq_true p394
                            replace q394 := eq_true q394
                            refine start_ (n := 22) (S := fun w' => w'.cell? (ad390.add (x10_2).toNat) = some (.int .i64 (rd t383 x10_2)) ∧ w'.cell? (ad390.add (x10_2).toNat) = some (.int .i64 (rd t383 x10_2)) ∧ w'.cell? (ad390.add (x10_2).toNat) = some (.int .i64 (rd t383 x10_2))) (ds := []) #[false, false, false, false, false, false, false, false, false, false, false, false, false, false, false, false, false, false, false, false, false, false] (by kernel_rfl) rfl rfl ⟨hx390_0, hx392_0, hx394_0⟩ (fun hHeld => ?_); refine with_tabW laws_FnClasses.tab14 laws_FnClasses.bits14 (fun HT_ HW_ => ?_)
                            generalize wc.drew = w37 at HO_3 HO_5 HO_7 HB hx390_0 hx392_0 hx394_0 hHeld ⊢
                            refine pure_ (i := 0) (N := some 57) (v := ?_) (a' := ?_) #[true, false, false, false, false, false, false, false, false, false, false, false, false, false, false, false, false, false, false, false, false, false] rfl rfl (any_of HT_.out (by kernel_rfl)) (fun _ _ _ h => h) (Or.inl ⟨by rfl, ?_⟩) ?_ ?_
                            rotate_left
                            · intro w'
                              go_simp
                              with_reducible rfl
                            rotate_left
                            · simp only [Act.put, List.setIfInBounds_toArray, List.set_cons_zero, List.set_cons_succ, i64_w, i32_w]
                              rfl
                            refine pure_ (i := 1) (N := some 58) (v := ?_) (a' := ?_) #[true, true, false, false, false, false, false, false, false, false, false, false, false, false, false, false, false, false, false, false, false, false] rfl rfl (any_of HT_.out (by kernel_rfl)) (fun _ _ _ h => h) (Or.inl ⟨by rfl, ?_⟩) ?_ ?_
                            rotate_left
                            · intro w'
                              go_simp
                              with_reducible rfl
                            rotate_left
                            · simp only [Act.put, List.setIfInBounds_toArray, List.set_cons_zero, List.set_cons_succ, i64_w, i32_w]
                              rfl
                            refine pure_ (i := 2) (N := some 59) (v := ?_) (a' := ?_) #[true, true, true, false, false, false, false, false, false, false, false, false, false, false, false, false, false, false, false, false, false, false] rfl rfl (any_of HT_.out (by kernel_rfl)) (fun _ _ _ h => h) (Or.inl ⟨by rfl, ?_⟩) ?_ ?_
                            rotate_left
                            · intro w'
                              go_simp
                              with_reducible rfl
                            rotate_left
                            · simp only [Act.put, List.setIfInBounds_toArray, List.set_cons_zero, List.set_cons_succ, i64_w, i32_w]
                              rfl
                            refine take_ (i := 3) (N := some 60) (v := ?_) (a' := ?_) #[true, true, true, true, false, false, false, false, false, false, false, false, false, false, false, false, false, false, false, false, false, false] rfl rfl (take_ofW HT_.out HW_.out (by kernel_rfl)) (fun _ _ _ h => h) (Or.inl ⟨by rfl, ?_⟩) hHeld ?_ ?_
                            rotate_left
                            · rintro w' ⟨s0, s1, s2⟩
                              go_simp
                              with_reducible rfl
                            rotate_left
                            · simp only [Act.put, List.setIfInBounds_toArray, List.set_cons_zero, List.set_cons_succ, i64_w, i32_w]
                              rfl
                            refine one_ (i := 4) (N := some 61) #[true, true, true, true, true, false, false, false, false, false, false, false, false, false, false, false, false, false, false, false, false, false] rfl rfl (one_of HT_.out (by kernel_rfl)) (by decide) (fun K hK => ?_)
                            refine goes_ Try.func29 (by kernel_rfl) rfl #[.int .i64 (rd t383 x10_2)] (by rfl) rfl rfl Sqz.auM ?_
                            with_reducible refine (laws_sizeOf.calls (rd t383 x10_2) t391 _ A32.out).mono ?_
                            rintro e w38 ⟨rfl, hb⟩
                            have HS0_ := (hb.cell (World.block_lt_of_cell? _ _ (hHeld.1))).trans (hHeld.1)
                            have HS1_ := (hb.cell (World.block_lt_of_cell? _ _ (hHeld.2.1))).trans (hHeld.2.1)
                            have HS2_ := (hb.cell (World.block_lt_of_cell? _ _ (hHeld.2.2))).trans (hHeld.2.2)
                            refine ⟨_, rfl, ?_⟩
                            have n0_ := Aside0.mk (Kd.R_below ((Sqz.mvR HO_3.out)) hb)
                            have n1_ := Aside0.mk (Kd.R_below ((Sqz.mvR HO_5.out)) hb)
                            have n2_ := Aside0.mk (Kd.R_below ((Sqz.mvR HO_7.out)) hb)
                            have n3_ := Aside0.mk (below_step (Sqz.auHB) hb)
                            clear HO_3
                            clear HO_5
                            clear HO_7
                            clear HB
                            have HO_3 := n0_
                            have HO_5 := n1_
                            have HO_7 := n2_
                            have HB := n3_
                            clear n0_ n1_ n2_ n3_
                            (try clear hb)
                            (try clear hb2)
                            (try clear hk)
                            (try clear hi)
                            obtain ⟨Ao39, co39, eo39⟩ := Kd.R_slice HO_5.out
                            (first | subst eo39 | (injection eo39 with f1_ f2_ f3_; have f4_ := f1_.symm; have f5_ := f3_.symm; clear f1_ f2_ f3_; subst f4_; subst f5_))
                            refine hK.out _ _ ⟨HS0_, HS1_, HS2_⟩ (fun hHeld => ?_)
                            clear hK K
                            refine norm_ (a' := ?_) ?_ ?_
                            rotate_left
                            · show Act.put _ (some 61) _ = _
                              simp only [Act.put, List.setIfInBounds_toArray, List.set_cons_zero, List.set_cons_succ, i64_w, i32_w]
                              rfl
                            refine pure_ (i := 5) (N := some 62) (v := ?_) (a' := ?_) #[true, true, true, true, true, true, false, false, false, false, false, false, false, false, false, false, false, false, false, false, false, false] rfl rfl (any_of HT_.out (by kernel_rfl)) (fun _ _ _ h => h) (Or.inl ⟨by rfl, ?_⟩) ?_ ?_
                            rotate_left
                            · intro w'
                              go_simp
                              with_reducible rfl
                            rotate_left
                            · simp only [Act.put, List.setIfInBounds_toArray, List.set_cons_zero, List.set_cons_succ, i64_w, i32_w]
                              rfl
                            refine pure_ (i := 6) (N := some 63) (v := ?_) (a' := ?_) #[true, true, true, true, true, true, true, false, false, false, false, false, false, false, false, false, false, false, false, false, false, false] rfl rfl (any_of HT_.out (by kernel_rfl)) (fun _ _ _ h => h) (Or.inl ⟨by rfl, ?_⟩) ?_ ?_
                            rotate_left
                            · intro w'
                              go_simp
                              with_reducible rfl
                            rotate_left
                            · simp only [Act.put, List.setIfInBounds_toArray, List.set_cons_zero, List.set_cons_succ, i64_w, i32_w]
                              rfl
                            refine pure_ (i := 7) (N := some 64) (v := ?_) (a' := ?_) #[true, true, true, true, true, true, true, true, false, false, false, false, false, false, false, false, false, false, false, false, false, false] rfl rfl (any_of HT_.out (by kernel_rfl)) (fun _ _ _ h => h) (Or.inl ⟨by rfl, ?_⟩) ?_ ?_
                            rotate_left
                            · intro w'
                              go_simp
                              with_reducible rfl
                            rotate_left
                            · simp only [Act.put, List.setIfInBounds_toArray, List.set_cons_zero, List.set_cons_succ, i64_w, i32_w]
                              rfl
                            refine pure_ (i := 8) (N := some 65) (v := ?_) (a' := ?_) #[true, true, true, true, true, true, true, true, true, false, false, false, false, false, false, false, false, false, false, false, false, false] rfl rfl (any_of HT_.out (by kernel_rfl)) (fun _ _ _ h => h) (Or.inl ⟨by rfl, ?_⟩) ?_ ?_
                            rotate_left
                            · intro w'
                              go_simp
                              with_reducible rfl
                            rotate_left
                            · simp only [Act.put, List.setIfInBounds_toArray, List.set_cons_zero, List.set_cons_succ, i64_w, i32_w]
                              rfl
                            refine pure_ (i := 9) (N := some 66) (v := ?_) (a' := ?_) #[true, true, true, true, true, true, true, true, true, true, false, false, false, false, false, false, false, false, false, false, false, false] rfl rfl (any_of HT_.out (by kernel_rfl)) (fun _ _ _ h => h) (Or.inl ⟨by rfl, ?_⟩) ?_ ?_
                            rotate_left
                            · intro w'
                              go_simp
                              with_reducible rfl
                            rotate_left
                            · simp only [Act.put, List.setIfInBounds_toArray, List.set_cons_zero, List.set_cons_succ, i64_w, i32_w]
                              rfl
                            refine pure_ (i := 10) (N := some 67) (v := ?_) (a' := ?_) #[true, true, true, true, true, true, true, true, true, true, true, false, false, false, false, false, false, false, false, false, false, false] rfl rfl (any_of HT_.out (by kernel_rfl)) (fun _ _ _ h => h) (Or.inl ⟨by rfl, ?_⟩) ?_ ?_
                            rotate_left
                            · intro w'
                              go_simp
                              with_reducible rfl
                            rotate_left
                            · simp only [Act.put, List.setIfInBounds_toArray, List.set_cons_zero, List.set_cons_succ, i64_w, i32_w]
                              rfl
                            refine pure_ (i := 13) (N := some 70) (v := ?_) (a' := ?_) #[true, true, true, true, true, true, true, true, true, true, true, false, false, true, false, false, false, false, false, false, false, false] rfl rfl (any_of HT_.out (by kernel_rfl)) (fun _ _ _ h => h) (Or.inl ⟨by rfl, ?_⟩) ?_ ?_
                            rotate_left
                            · intro w'
                              go_simp
                              with_reducible rfl
                            rotate_left
                            · simp only [Act.put, List.setIfInBounds_toArray, List.set_cons_zero, List.set_cons_succ, i64_w, i32_w]
                              rfl
                            refine pure_ (i := 14) (N := some 71) (v := ?_) (a' := ?_) #[true, true, true, true, true, true, true, true, true, true, true, false, false, true, true, false, false, false, false, false, false, false] rfl rfl (any_of HT_.out (by kernel_rfl)) (fun _ _ _ h => h) (Or.inl ⟨by rfl, ?_⟩) ?_ ?_
                            rotate_left
                            · intro w'
                              go_simp
                              with_reducible rfl
                            rotate_left
                            · simp only [Act.put, List.setIfInBounds_toArray, List.set_cons_zero, List.set_cons_succ, i64_w, i32_w]
                              rfl
                            refine pure_ (i := 15) (N := some 72) (v := ?_) (a' := ?_) #[true, true, true, true, true, true, true, true, true, true, true, false, false, true, true, true, false, false, false, false, false, false] rfl rfl (any_of HT_.out (by kernel_rfl)) (fun _ _ _ h => h) (Or.inl ⟨by rfl, ?_⟩) ?_ ?_
                            rotate_left
                            · intro w'
                              go_simp
                              with_reducible rfl
                            rotate_left
                            · simp only [Act.put, List.setIfInBounds_toArray, List.set_cons_zero, List.set_cons_succ, i64_w, i32_w]
                              rfl
                            refine pure_ (i := 16) (N := some 73) (v := ?_) (a' := ?_) #[true, true, true, true, true, true, true, true, true, true, true, false, false, true, true, true, true, false, false, false, false, false] rfl rfl (any_of HT_.out (by kernel_rfl)) (fun _ _ _ h => h) (Or.inl ⟨by rfl, ?_⟩) ?_ ?_
                            rotate_left
                            · intro w'
                              go_simp
                              with_reducible rfl
                            rotate_left
                            · simp only [Act.put, List.setIfInBounds_toArray, List.set_cons_zero, List.set_cons_succ, i64_w, i32_w]
                              rfl
                            refine pure_ (i := 18) (N := some 75) (v := ?_) (a' := ?_) #[true, true, true, true, true, true, true, true, true, true, true, false, false, true, true, true, true, false, true, false, false, false] rfl rfl (any_of HT_.out (by kernel_rfl)) (fun _ _ _ h => h) (Or.inl ⟨by rfl, ?_⟩) ?_ ?_
                            rotate_left
                            · intro w'
                              go_simp
                              with_reducible rfl
                            rotate_left
                            · simp only [Act.put, List.setIfInBounds_toArray, List.set_cons_zero, List.set_cons_succ, i64_w, i32_w]
                              rfl
                            refine take_ (i := 11) (N := some 68) (v := ?_) (a' := ?_) #[true, true, true, true, true, true, true, true, true, true, true, true, false, true, true, true, true, false, true, false, false, false] rfl rfl (take_ofW HT_.out HW_.out (by kernel_rfl)) (fun _ _ _ h => h) (Or.inl ⟨by rfl, ?_⟩) hHeld ?_ ?_
                            rotate_left
                            · rintro w' ⟨s0, s1, s2⟩
                              go_simp
                              with_reducible rfl
                            rotate_left
                            · simp only [Act.put, List.setIfInBounds_toArray, List.set_cons_zero, List.set_cons_succ, i64_w, i32_w]
                              rfl
                            refine take_ (i := 17) (N := some 74) (v := ?_) (a' := ?_) #[true, true, true, true, true, true, true, true, true, true, true, true, false, true, true, true, true, true, true, false, false, false] rfl rfl (take_ofW HT_.out HW_.out (by kernel_rfl)) (fun _ _ _ h => h) (Or.inl ⟨by rfl, ?_⟩) hHeld ?_ ?_
                            rotate_left
                            · rintro w' ⟨s0, s1, s2⟩
                              go_simp
                              with_reducible rfl
                            rotate_left
                            · simp only [Act.put, List.setIfInBounds_toArray, List.set_cons_zero, List.set_cons_succ, i64_w, i32_w]
                              rfl
                            refine one_ (i := 12) (N := some 69) #[true, true, true, true, true, true, true, true, true, true, true, true, true, true, true, true, true, true, true, false, false, false] rfl rfl (one_of HT_.out (by kernel_rfl)) (by decide) (fun K hK => ?_)
                            refine goes_ Try.func39 (by kernel_rfl) rfl #[.slice Ao39 t375.length co39, .int .i64 (rd t383 x10_2)] (by rfl) rfl rfl Sqz.auM ?_
                            with_reducible refine (laws_hasInt.calls kj23 _ _ t375 (rd t383 x10_2) t393 _ ?side1 ?side2 A34.out).mono ?_
                            (case side1 => exact Sqz.mvC ((Kd.R_reads' HO_5.out).2.2))
                            (case side2 => exact (Kd.R_reads' HO_5.out).2.1)
                            rintro e w' ⟨rfl, ⟨nd, rfl⟩⟩
                            refine ⟨_, rfl, ?_⟩
                            refine hK.out _ _ ⟨hHeld.1, hHeld.2.1, hHeld.2.2⟩ (fun hHeld => ?_)
                            clear hK K
                            refine norm_ (a' := ?_) ?_ ?_
                            rotate_left
                            · show Act.put _ (some 69) _ = _
                              simp only [Act.put, List.setIfInBounds_toArray, List.set_cons_zero, List.set_cons_succ, i64_w, i32_w]
                              rfl
                            refine one_ (i := 19) (N := some 76) #[true, true, true, true, true, true, true, true, true, true, true, true, true, true, true, true, true, true, true, true, false, false] rfl rfl (one_of HT_.out (by kernel_rfl)) (by decide) (fun K hK => ?_)
                            refine goes_ Try.func26 (by kernel_rfl) rfl #[.slice Ao8 t371.length co8, .int .i64 (rd t383 x10_2), .int .i64 t372] (by rfl) rfl rfl Sqz.auM ?_
                            with_reducible refine (impl_ValueAt.calls kj23 _ _ t371 (rd t383 x10_2) t372 t395 _ ?side1 ?side2 A35.out).mono ?_
                            (case side1 => exact Sqz.mvC ((Kd.R_reads' HO_3.out).2.2))
                            (case side2 => exact (Kd.R_reads' HO_3.out).2.1)
                            rintro e w40 ⟨rfl, hb⟩
                            have HS0_ := (hb.cell (World.block_lt_of_cell? _ _ (hHeld.1))).trans (hHeld.1)
                            have HS1_ := (hb.cell (World.block_lt_of_cell? _ _ (hHeld.2.1))).trans (hHeld.2.1)
                            have HS2_ := (hb.cell (World.block_lt_of_cell? _ _ (hHeld.2.2))).trans (hHeld.2.2)
                            refine ⟨_, rfl, ?_⟩
                            have n0_ := Aside0.mk (Kd.R_below ((Sqz.mvR HO_3.out)) hb)
                            have n1_ := Aside0.mk (Kd.R_below ((Sqz.mvR HO_5.out)) hb)
                            have n2_ := Aside0.mk (Kd.R_below ((Sqz.mvR HO_7.out)) hb)
                            have n3_ := Aside0.mk (below_step (Sqz.auHB) hb)
                            clear HO_3
                            clear HO_5
                            clear HO_7
                            clear HB
                            have HO_3 := n0_
                            have HO_5 := n1_
                            have HO_7 := n2_
                            have HB := n3_
                            clear n0_ n1_ n2_ n3_
                            (try clear hb)
                            (try clear hb2)
                            (try clear hk)
                            (try clear hi)
                            refine hK.out _ _ ⟨HS0_, HS1_, HS2_⟩ (fun hHeld => ?_)
                            clear hK K
                            refine norm_ (a' := ?_) ?_ ?_
                            rotate_left
                            · show Act.put _ (some 76) _ = _
                              simp only [Act.put, List.setIfInBounds_toArray, List.set_cons_zero, List.set_cons_succ, i64_w, i32_w]
                              rfl
                            refine pure_ (i := 20) (N := some 77) (v := ?_) (a' := ?_) #[true, true, true, true, true, true, true, true, true, true, true, true, true, true, true, true, true, true, true, true, true, false] rfl rfl (any_of HT_.out (by kernel_rfl)) (fun _ _ _ h => h) (Or.inl ⟨by rfl, ?_⟩) ?_ ?_
                            rotate_left
                            · intro w'
                              go_simp
                              with_reducible rfl
                            rotate_left
                            · simp only [Act.put, List.setIfInBounds_toArray, List.set_cons_zero, List.set_cons_succ, i64_w, i32_w]
                              rfl
                            refine pure_ (i := 21) (N := some 78) (v := ?_) (a' := ?_) #[true, true, true, true, true, true, true, true, true, true, true, true, true, true, true, true, true, true, true, true, true, true] rfl rfl (any_of HT_.out (by kernel_rfl)) (fun _ _ _ h => h) (Or.inl ⟨by rfl, ?_⟩) ?_ ?_
                            rotate_left
                            · intro w'
                              go_simp
                              with_reducible rfl
                            rotate_left
                            · simp only [Act.put, List.setIfInBounds_toArray, List.set_cons_zero, List.set_cons_succ, i64_w, i32_w]
                              rfl
                            refine done_ (done_of HT_.out (by kernel_rfl)) ?_
                            try go_wp2
                            go_ret
                            exact ⟨Sqz.auR, Sqz.auHB⟩
                          · rw [if_neg c36] at H
                            have c36b0 : (t393 != t395) = false := by simpa using c36
                            (try (have c36b1 : decide (t393 = t395) = true := by simpa using c36))
                            (try (have c36b2 : (t393 == t395) = true := by simpa using c36))
                            clear c36
                            have H' := Aside0.mk H
                            clear H
                            try go_wp2
                            have n0_ := Aside0.mk (Kd.R_drew HO_3.out)
                            have n1_ := Aside0.mk (Kd.R_drew HO_5.out)
                            have n2_ := Aside0.mk (Kd.R_drew HO_7.out)
                            have n3_ := Aside0.mk (below_drew1 HB.out)
                            clear HO_3
                            clear HO_5
                            clear HO_7
                            clear HB
                            have HO_3 := n0_
                            have HO_5 := n1_
                            have HO_7 := n2_
                            have HB := n3_
                            clear n0_ n1_ n2_ n3_
                            have p390 : 0 ≤ (x10_2 : Int) := of_decide_eq_true (by first | (with_reducible assumption) | assumption)
                            have q390 : x10_2 < (t383.length : Int) := of_decide_eq_true (by first | (with_reducible assumption) | assumption)
                            obtain ⟨ad390, e390, hx390_0⟩ := Kd.at_int (Kd.R_reads' HO_7.out).2.2 x10_2 p390 q390
                            cases e390
                            replace p390 := eq_true p390
                            replace q390 := eq_true q390
                            have p392 : 0 ≤ (x10_2 : Int) := of_decide_eq_true (by first | (with_reducible assumption) | assumption)
                            have q392 : x10_2 < (t383.length : Int) := of_decide_eq_true (by first | (with_reducible assumption) | assumption)
                            obtain ⟨ad392, e392, hx392_0⟩ := Kd.at_int (Kd.R_reads' HO_7.out).2.2 x10_2 p392 q392
                            obtain rfl : ad390 = ad392 := (by injection e392)
                            replace p392 := eq_true p392
                            replace q392 := eq_true q392
                            have p394 : 0 ≤ (x10_2 : Int) := of_decide_eq_true (by first | (with_reducible assumption) | assumption)
                            have q394 : x10_2 < (t383.length : Int) := of_decide_eq_true (by first | (with_reducible assumption) | assumption)
                            obtain ⟨ad394, e394, hx394_0⟩ := Kd.at_int (Kd.R_reads' HO_7.out).2.2 x10_2 p394 q394
                            obtain rfl : ad390 = ad394 := (by injection e394)
                            replace p394 := eq_true p394
                            replace q394 := eq_true q394
                            refine start_ (n := 22) (S := fun w' => w'.cell? (ad390.add (x10_2).toNat) = some (.int .i64 (rd t383 x10_2)) ∧ w'.cell? (ad390.add (x10_2).toNat) = some (.int .i64 (rd t383 x10_2)) ∧ w'.cell? (ad390.add (x10_2).toNat) = some (.int .i64 (rd t383 x10_2))) (ds := []) #[false, false, false, false, false, false, false, false, false, false, false, false, false, false, false, false, false, false, false, false, false, false] (by kernel_rfl) rfl rfl ⟨hx390_0, hx392_0, hx394_0⟩ (fun hHeld => ?_); refine with_tabW laws_FnClasses.tab14 laws_FnClasses.bits14 (fun HT_ HW_ => ?_)
                            generalize wc.drew = w41 at HO_3 HO_5 HO_7 HB hx390_0 hx392_0 hx394_0 hHeld ⊢
                            refine pure_ (i := 0) (N := some 57) (v := ?_) (a' := ?_) #[true, false, false, false, false, false, false, false, false, false, false, false, false, false, false, false, false, false, false, false, false, false] rfl rfl (any_of HT_.out (by kernel_rfl)) (fun _ _ _ h => h) (Or.inl ⟨by rfl, ?_⟩) ?_ ?_
                            rotate_left
                            · intro w'
                              go_simp
                              with_reducible rfl
                            rotate_left
                            · simp only [Act.put, List.setIfInBounds_toArray, List.set_cons_zero, List.set_cons_succ, i64_w, i32_w]
                              rfl
                            refine pure_ (i := 1) (N := some 58) (v := ?_) (a' := ?_) #[true, true, false, false, false, false, false, false, false, false, false, false, false, false, false, false, false, false, false, false, false, false] rfl rfl (any_of HT_.out (by kernel_rfl)) (fun _ _ _ h => h) (Or.inl ⟨by rfl, ?_⟩) ?_ ?_
                            rotate_left
                            · intro w'
                              go_simp
                              with_reducible rfl
                            rotate_left
                            · simp only [Act.put, List.setIfInBounds_toArray, List.set_cons_zero, List.set_cons_succ, i64_w, i32_w]
                              rfl
                            refine pure_ (i := 2) (N := some 59) (v := ?_) (a' := ?_) #[true, true, true, false, false, false, false, false, false, false, false, false, false, false, false, false, false, false, false, false, false, false] rfl rfl (any_of HT_.out (by kernel_rfl)) (fun _ _ _ h => h) (Or.inl ⟨by rfl, ?_⟩) ?_ ?_
                            rotate_left
                            · intro w'
                              go_simp
                              with_reducible rfl
                            rotate_left
                            · simp only [Act.put, List.setIfInBounds_toArray, List.set_cons_zero, List.set_cons_succ, i64_w, i32_w]
                              rfl
                            refine take_ (i := 3) (N := some 60) (v := ?_) (a' := ?_) #[true, true, true, true, false, false, false, false, false, false, false, false, false, false, false, false, false, false, false, false, false, false] rfl rfl (take_ofW HT_.out HW_.out (by kernel_rfl)) (fun _ _ _ h => h) (Or.inl ⟨by rfl, ?_⟩) hHeld ?_ ?_
                            rotate_left
                            · rintro w' ⟨s0, s1, s2⟩
                              go_simp
                              with_reducible rfl
                            rotate_left
                            · simp only [Act.put, List.setIfInBounds_toArray, List.set_cons_zero, List.set_cons_succ, i64_w, i32_w]
                              rfl
                            refine one_ (i := 4) (N := some 61) #[true, true, true, true, true, false, false, false, false, false, false, false, false, false, false, false, false, false, false, false, false, false] rfl rfl (one_of HT_.out (by kernel_rfl)) (by decide) (fun K hK => ?_)
                            refine goes_ Try.func29 (by kernel_rfl) rfl #[.int .i64 (rd t383 x10_2)] (by rfl) rfl rfl Sqz.auM ?_
                            with_reducible refine (laws_sizeOf.calls (rd t383 x10_2) t391 _ A32.out).mono ?_
                            rintro e w42 ⟨rfl, hb⟩
                            have HS0_ := (hb.cell (World.block_lt_of_cell? _ _ (hHeld.1))).trans (hHeld.1)
                            have HS1_ := (hb.cell (World.block_lt_of_cell? _ _ (hHeld.2.1))).trans (hHeld.2.1)
                            have HS2_ := (hb.cell (World.block_lt_of_cell? _ _ (hHeld.2.2))).trans (hHeld.2.2)
                            refine ⟨_, rfl, ?_⟩
                            have n0_ := Aside0.mk (Kd.R_below ((Sqz.mvR HO_3.out)) hb)
                            have n1_ := Aside0.mk (Kd.R_below ((Sqz.mvR HO_5.out)) hb)
                            have n2_ := Aside0.mk (Kd.R_below ((Sqz.mvR HO_7.out)) hb)
                            have n3_ := Aside0.mk (below_step (Sqz.auHB) hb)
                            clear HO_3
                            clear HO_5
                            clear HO_7
                            clear HB
                            have HO_3 := n0_
                            have HO_5 := n1_
                            have HO_7 := n2_
                            have HB := n3_
                            clear n0_ n1_ n2_ n3_
                            (try clear hb)
                            (try clear hb2)
                            (try clear hk)
                            (try clear hi)
                            obtain ⟨Ao43, co43, eo43⟩ := Kd.R_slice HO_5.out
                            (first | subst eo43 | (injection eo43 with f1_ f2_ f3_; have f4_ := f1_.symm; have f5_ := f3_.symm; clear f1_ f2_ f3_; subst f4_; subst f5_))
                            refine hK.out _ _ ⟨HS0_, HS1_, HS2_⟩ (fun hHeld => ?_)
                            clear hK K
                            refine norm_ (a' := ?_) ?_ ?_
                            rotate_left
                            · show Act.put _ (some 61) _ = _
                              simp only [Act.put, List.setIfInBounds_toArray, List.set_cons_zero, List.set_cons_succ, i64_w, i32_w]
                              rfl
                            refine pure_ (i := 5) (N := some 62) (v := ?_) (a' := ?_) #[true, true, true, true, true, true, false, false, false, false, false, false, false, false, false, false, false, false, false, false, false, false] rfl rfl (any_of HT_.out (by kernel_rfl)) (fun _ _ _ h => h) (Or.inl ⟨by rfl, ?_⟩) ?_ ?_
                            rotate_left
                            · intro w'
                              go_simp
                              with_reducible rfl
                            rotate_left
                            · simp only [Act.put, List.setIfInBounds_toArray, List.set_cons_zero, List.set_cons_succ, i64_w, i32_w]
                              rfl
                            refine pure_ (i := 6) (N := some 63) (v := ?_) (a' := ?_) #[true, true, true, true, true, true, true, false, false, false, false, false, false, false, false, false, false, false, false, false, false, false] rfl rfl (any_of HT_.out (by kernel_rfl)) (fun _ _ _ h => h) (Or.inl ⟨by rfl, ?_⟩) ?_ ?_
                            rotate_left
                            · intro w'
                              go_simp
                              with_reducible rfl
                            rotate_left
                            · simp only [Act.put, List.setIfInBounds_toArray, List.set_cons_zero, List.set_cons_succ, i64_w, i32_w]
                              rfl
                            refine pure_ (i := 7) (N := some 64) (v := ?_) (a' := ?_) #[true, true, true, true, true, true, true, true, false, false, false, false, false, false, false, false, false, false, false, false, false, false] rfl rfl (any_of HT_.out (by kernel_rfl)) (fun _ _ _ h => h) (Or.inl ⟨by rfl, ?_⟩) ?_ ?_
                            rotate_left
                            · intro w'
                              go_simp
                              with_reducible rfl
                            rotate_left
                            · simp only [Act.put, List.setIfInBounds_toArray, List.set_cons_zero, List.set_cons_succ, i64_w, i32_w]
                              rfl
                            refine pure_ (i := 8) (N := some 65) (v := ?_) (a' := ?_) #[true, true, true, true, true, true, true, true, true, false, false, false, false, false, false, false, false, false, false, false, false, false] rfl rfl (any_of HT_.out (by kernel_rfl)) (fun _ _ _ h => h) (Or.inl ⟨by rfl, ?_⟩) ?_ ?_
                            rotate_left
                            · intro w'
                              go_simp
                              with_reducible rfl
                            rotate_left
                            · simp only [Act.put, List.setIfInBounds_toArray, List.set_cons_zero, List.set_cons_succ, i64_w, i32_w]
                              rfl
                            refine pure_ (i := 9) (N := some 66) (v := ?_) (a' := ?_) #[true, true, true, true, true, true, true, true, true, true, false, false, false, false, false, false, false, false, false, false, false, false] rfl rfl (any_of HT_.out (by kernel_rfl)) (fun _ _ _ h => h) (Or.inl ⟨by rfl, ?_⟩) ?_ ?_
                            rotate_left
                            · intro w'
                              go_simp
                              with_reducible rfl
                            rotate_left
                            · simp only [Act.put, List.setIfInBounds_toArray, List.set_cons_zero, List.set_cons_succ, i64_w, i32_w]
                              rfl
                            refine pure_ (i := 10) (N := some 67) (v := ?_) (a' := ?_) #[true, true, true, true, true, true, true, true, true, true, true, false, false, false, false, false, false, false, false, false, false, false] rfl rfl (any_of HT_.out (by kernel_rfl)) (fun _ _ _ h => h) (Or.inl ⟨by rfl, ?_⟩) ?_ ?_
                            rotate_left
                            · intro w'
                              go_simp
                              with_reducible rfl
                            rotate_left
                            · simp only [Act.put, List.setIfInBounds_toArray, List.set_cons_zero, List.set_cons_succ, i64_w, i32_w]
                              rfl
                            refine pure_ (i := 13) (N := some 70) (v := ?_) (a' := ?_) #[true, true, true, true, true, true, true, true, true, true, true, false, false, true, false, false, false, false, false, false, false, false] rfl rfl (any_of HT_.out (by kernel_rfl)) (fun _ _ _ h => h) (Or.inl ⟨by rfl, ?_⟩) ?_ ?_
                            rotate_left
                            · intro w'
                              go_simp
                              with_reducible rfl
                            rotate_left
                            · simp only [Act.put, List.setIfInBounds_toArray, List.set_cons_zero, List.set_cons_succ, i64_w, i32_w]
                              rfl
                            refine pure_ (i := 14) (N := some 71) (v := ?_) (a' := ?_) #[true, true, true, true, true, true, true, true, true, true, true, false, false, true, true, false, false, false, false, false, false, false] rfl rfl (any_of HT_.out (by kernel_rfl)) (fun _ _ _ h => h) (Or.inl ⟨by rfl, ?_⟩) ?_ ?_
                            rotate_left
                            · intro w'
                              go_simp
                              with_reducible rfl
                            rotate_left
                            · simp only [Act.put, List.setIfInBounds_toArray, List.set_cons_zero, List.set_cons_succ, i64_w, i32_w]
                              rfl
                            refine pure_ (i := 15) (N := some 72) (v := ?_) (a' := ?_) #[true, true, true, true, true, true, true, true, true, true, true, false, false, true, true, true, false, false, false, false, false, false] rfl rfl (any_of HT_.out (by kernel_rfl)) (fun _ _ _ h => h) (Or.inl ⟨by rfl, ?_⟩) ?_ ?_
                            rotate_left
                            · intro w'
                              go_simp
                              with_reducible rfl
                            rotate_left
                            · simp only [Act.put, List.setIfInBounds_toArray, List.set_cons_zero, List.set_cons_succ, i64_w, i32_w]
                              rfl
                            refine pure_ (i := 16) (N := some 73) (v := ?_) (a' := ?_) #[true, true, true, true, true, true, true, true, true, true, true, false, false, true, true, true, true, false, false, false, false, false] rfl rfl (any_of HT_.out (by kernel_rfl)) (fun _ _ _ h => h) (Or.inl ⟨by rfl, ?_⟩) ?_ ?_
                            rotate_left
                            · intro w'
                              go_simp
                              with_reducible rfl
                            rotate_left
                            · simp only [Act.put, List.setIfInBounds_toArray, List.set_cons_zero, List.set_cons_succ, i64_w, i32_w]
                              rfl
                            refine pure_ (i := 18) (N := some 75) (v := ?_) (a' := ?_) #[true, true, true, true, true, true, true, true, true, true, true, false, false, true, true, true, true, false, true, false, false, false] rfl rfl (any_of HT_.out (by kernel_rfl)) (fun _ _ _ h => h) (Or.inl ⟨by rfl, ?_⟩) ?_ ?_
                            rotate_left
                            · intro w'
                              go_simp
                              with_reducible rfl
                            rotate_left
                            · simp only [Act.put, List.setIfInBounds_toArray, List.set_cons_zero, List.set_cons_succ, i64_w, i32_w]
                              rfl
                            refine take_ (i := 11) (N := some 68) (v := ?_) (a' := ?_) #[true, true, true, true, true, true, true, true, true, true, true, true, false, true, true, true, true, false, true, false, false, false] rfl rfl (take_ofW HT_.out HW_.out (by kernel_rfl)) (fun _ _ _ h => h) (Or.inl ⟨by rfl, ?_⟩) hHeld ?_ ?_
                            rotate_left
                            · rintro w' ⟨s0, s1, s2⟩
                              go_simp
                              with_reducible rfl
                            rotate_left
                            · simp only [Act.put, List.setIfInBounds_toArray, List.set_cons_zero, List.set_cons_succ, i64_w, i32_w]
                              rfl
                            refine take_ (i := 17) (N := some 74) (v := ?_) (a' := ?_) #[true, true, true, true, true, true, true, true, true, true, true, true, false, true, true, true, true, true, true, false, false, false] rfl rfl (take_ofW HT_.out HW_.out (by kernel_rfl)) (fun _ _ _ h => h) (Or.inl ⟨by rfl, ?_⟩) hHeld ?_ ?_
                            rotate_left
                            · rintro w' ⟨s0, s1, s2⟩
                              go_simp
                              with_reducible rfl
                            rotate_left
                            · simp only [Act.put, List.setIfInBounds_toArray, List.set_cons_zero, List.set_cons_succ, i64_w, i32_w]
                              rfl
                            refine one_ (i := 12) (N := some 69) #[true, true, true, true, true, true, true, true, true, true, true, true, true, true, true, true, true, true, true, false, false, false] rfl rfl (one_of HT_.out (by kernel_rfl)) (by decide) (fun K hK => ?_)
                            refine goes_ Try.func39 (by kernel_rfl) rfl #[.slice Ao43 t375.length co43, .int .i64 (rd t383 x10_2)] (by rfl) rfl rfl Sqz.auM ?_
                            with_reducible refine (laws_hasInt.calls kj23 _ _ t375 (rd t383 x10_2) t393 _ ?side1 ?side2 A34.out).mono ?_
                            (case side1 => exact Sqz.mvC ((Kd.R_reads' HO_5.out).2.2))
                            (case side2 => exact (Kd.R_reads' HO_5.out).2.1)
                            rintro e w' ⟨rfl, ⟨nd, rfl⟩⟩
                            refine ⟨_, rfl, ?_⟩
                            refine hK.out _ _ ⟨hHeld.1, hHeld.2.1, hHeld.2.2⟩ (fun hHeld => ?_)
                            clear hK K
                            refine norm_ (a' := ?_) ?_ ?_
                            rotate_left
                            · show Act.put _ (some 69) _ = _
                              simp only [Act.put, List.setIfInBounds_toArray, List.set_cons_zero, List.set_cons_succ, i64_w, i32_w]
                              rfl
                            refine one_ (i := 19) (N := some 76) #[true, true, true, true, true, true, true, true, true, true, true, true, true, true, true, true, true, true, true, true, false, false] rfl rfl (one_of HT_.out (by kernel_rfl)) (by decide) (fun K hK => ?_)
                            refine goes_ Try.func26 (by kernel_rfl) rfl #[.slice Ao8 t371.length co8, .int .i64 (rd t383 x10_2), .int .i64 t372] (by rfl) rfl rfl Sqz.auM ?_
                            with_reducible refine (impl_ValueAt.calls kj23 _ _ t371 (rd t383 x10_2) t372 t395 _ ?side1 ?side2 A35.out).mono ?_
                            (case side1 => exact Sqz.mvC ((Kd.R_reads' HO_3.out).2.2))
                            (case side2 => exact (Kd.R_reads' HO_3.out).2.1)
                            rintro e w44 ⟨rfl, hb⟩
                            have HS0_ := (hb.cell (World.block_lt_of_cell? _ _ (hHeld.1))).trans (hHeld.1)
                            have HS1_ := (hb.cell (World.block_lt_of_cell? _ _ (hHeld.2.1))).trans (hHeld.2.1)
                            have HS2_ := (hb.cell (World.block_lt_of_cell? _ _ (hHeld.2.2))).trans (hHeld.2.2)
                            refine ⟨_, rfl, ?_⟩
                            have n0_ := Aside0.mk (Kd.R_below ((Sqz.mvR HO_3.out)) hb)
                            have n1_ := Aside0.mk (Kd.R_below ((Sqz.mvR HO_5.out)) hb)
                            have n2_ := Aside0.mk (Kd.R_below ((Sqz.mvR HO_7.out)) hb)
                            have n3_ := Aside0.mk (below_step (Sqz.auHB) hb)
                            clear HO_3
                            clear HO_5
                            clear HO_7
                            clear HB
                            have HO_3 := n0_
                            have HO_5 := n1_
                            have HO_7 := n2_
                            have HB := n3_
                            clear n0_ n1_ n2_ n3_
                            (try clear hb)
                            (try clear hb2)
                            (try clear hk)
                            (try clear hi)
                            refine hK.out _ _ ⟨HS0_, HS1_, HS2_⟩ (fun hHeld => ?_)
                            clear hK K
                            refine norm_ (a' := ?_) ?_ ?_
                            rotate_left
                            · show Act.put _ (some 76) _ = _
                              simp only [Act.put, List.setIfInBounds_toArray, List.set_cons_zero, List.set_cons_succ, i64_w, i32_w]
                              rfl
                            refine pure_ (i := 20) (N := some 77) (v := ?_) (a' := ?_) #[true, true, true, true, true, true, true, true, true, true, true, true, true, true, true, true, true, true, true, true, true, false] rfl rfl (any_of HT_.out (by kernel_rfl)) (fun _ _ _ h => h) (Or.inl ⟨by rfl, ?_⟩) ?_ ?_
                            rotate_left
                            · intro w'
                              go_simp
                              with_reducible rfl
                            rotate_left
                            · simp only [Act.put, List.setIfInBounds_toArray, List.set_cons_zero, List.set_cons_succ, i64_w, i32_w]
                              rfl
                            refine pure_ (i := 21) (N := some 78) (v := ?_) (a' := ?_) #[true, true, true, true, true, true, true, true, true, true, true, true, true, true, true, true, true, true, true, true, true, true] rfl rfl (any_of HT_.out (by kernel_rfl)) (fun _ _ _ h => h) (Or.inl ⟨by rfl, ?_⟩) ?_ ?_
                            rotate_left
                            · intro w'
                              go_simp
                              with_reducible rfl
                            rotate_left
                            · simp only [Act.put, List.setIfInBounds_toArray, List.set_cons_zero, List.set_cons_succ, i64_w, i32_w]
                              rfl
                            refine done_ (done_of HT_.out (by kernel_rfl)) ?_
                            try go_wp2
                            go_roundg kj23
                            case measure => have := HJ5.out; have := HK2.out; have := HJ23.out; omega
                            case rel => exact ⟨(x9_23), (wrap64 (x10_2 + 1)), Sqz.auS, Sqz.auS, H', ⟨by have := HJ5.out; have := HK2.out; have := HJ23.out; omega⟩, ⟨(Sqz.mvR HO_3.out)⟩, ⟨(Sqz.mvR HO_5.out)⟩, ⟨(Sqz.mvR HO_7.out)⟩, ⟨Sqz.auHB⟩⟩
                        · rw [if_neg c33] at H
                          have c33b0 : decide (t391 ≤ 30) = false := decide_eq_false c33
                          clear c33
                          have H' := Aside0.mk H
                          clear H
                          try go_wp2
                          have n0_ := Aside0.mk (Kd.R_drew HO_3.out)
                          have n1_ := Aside0.mk (Kd.R_drew HO_5.out)
                          have n2_ := Aside0.mk (Kd.R_drew HO_7.out)
                          have n3_ := Aside0.mk (below_drew1 HB.out)
                          clear HO_3
                          clear HO_5
                          clear HO_7
                          clear HB
                          have HO_3 := n0_
                          have HO_5 := n1_
                          have HO_7 := n2_
                          have HB := n3_
                          clear n0_ n1_ n2_ n3_
                          have p390 : 0 ≤ (x10_2 : Int) := of_decide_eq_true (by first | (with_reducible assumption) | assumption)
                          have q390 : x10_2 < (t383.length : Int) := of_decide_eq_true (by first | (with_reducible assumption) | assumption)
                          obtain ⟨ad390, e390, hx390_0⟩ := Kd.at_int (Kd.R_reads' HO_7.out).2.2 x10_2 p390 q390
                          cases e390
                          replace p390 := eq_true p390
                          replace q390 := eq_true q390
                          refine start_ (n := 22) (S := fun w' => w'.cell? (ad390.add (x10_2).toNat) = some (.int .i64 (rd t383 x10_2))) (ds := []) #[false, false, false, false, false, false, false, false, false, false, false, false, false, false, false, false, false, false, false, false, false, false] (by kernel_rfl) rfl rfl (hx390_0) (fun hHeld => ?_); refine with_tabW laws_FnClasses.tab14 laws_FnClasses.bits14 (fun HT_ HW_ => ?_)
                          generalize wc.drew = w45 at HO_3 HO_5 HO_7 HB hx390_0 hHeld ⊢
                          refine pure_ (i := 0) (N := some 57) (v := ?_) (a' := ?_) #[true, false, false, false, false, false, false, false, false, false, false, false, false, false, false, false, false, false, false, false, false, false] rfl rfl (any_of HT_.out (by kernel_rfl)) (fun _ _ _ h => h) (Or.inl ⟨by rfl, ?_⟩) ?_ ?_
                          rotate_left
                          · intro w'
                            go_simp
                            with_reducible rfl
                          rotate_left
                          · simp only [Act.put, List.setIfInBounds_toArray, List.set_cons_zero, List.set_cons_succ, i64_w, i32_w]
                            rfl
                          refine pure_ (i := 1) (N := some 58) (v := ?_) (a' := ?_) #[true, true, false, false, false, false, false, false, false, false, false, false, false, false, false, false, false, false, false, false, false, false] rfl rfl (any_of HT_.out (by kernel_rfl)) (fun _ _ _ h => h) (Or.inl ⟨by rfl, ?_⟩) ?_ ?_
                          rotate_left
                          · intro w'
                            go_simp
                            with_reducible rfl
                          rotate_left
                          · simp only [Act.put, List.setIfInBounds_toArray, List.set_cons_zero, List.set_cons_succ, i64_w, i32_w]
                            rfl
                          refine pure_ (i := 2) (N := some 59) (v := ?_) (a' := ?_) #[true, true, true, false, false, false, false, false, false, false, false, false, false, false, false, false, false, false, false, false, false, false] rfl rfl (any_of HT_.out (by kernel_rfl)) (fun _ _ _ h => h) (Or.inl ⟨by rfl, ?_⟩) ?_ ?_
                          rotate_left
                          · intro w'
                            go_simp
                            with_reducible rfl
                          rotate_left
                          · simp only [Act.put, List.setIfInBounds_toArray, List.set_cons_zero, List.set_cons_succ, i64_w, i32_w]
                            rfl
                          refine take_ (i := 3) (N := some 60) (v := ?_) (a' := ?_) #[true, true, true, true, false, false, false, false, false, false, false, false, false, false, false, false, false, false, false, false, false, false] rfl rfl (take_ofW HT_.out HW_.out (by kernel_rfl)) (fun _ _ _ h => h) (Or.inl ⟨by rfl, ?_⟩) hHeld ?_ ?_
                          rotate_left
                          · intro w' s0
                            go_simp
                            with_reducible rfl
                          rotate_left
                          · simp only [Act.put, List.setIfInBounds_toArray, List.set_cons_zero, List.set_cons_succ, i64_w, i32_w]
                            rfl
                          refine one_ (i := 4) (N := some 61) #[true, true, true, true, true, false, false, false, false, false, false, false, false, false, false, false, false, false, false, false, false, false] rfl rfl (one_of HT_.out (by kernel_rfl)) (by decide) (fun K hK => ?_)
                          refine goes_ Try.func29 (by kernel_rfl) rfl #[.int .i64 (rd t383 x10_2)] (by rfl) rfl rfl Sqz.auM ?_
                          with_reducible refine (laws_sizeOf.calls (rd t383 x10_2) t391 _ A32.out).mono ?_
                          rintro e w46 ⟨rfl, hb⟩
                          have HS0_ := (hb.cell (World.block_lt_of_cell? _ _ (hHeld))).trans (hHeld)
                          refine ⟨_, rfl, ?_⟩
                          have n0_ := Aside0.mk (Kd.R_below ((Sqz.mvR HO_3.out)) hb)
                          have n1_ := Aside0.mk (Kd.R_below ((Sqz.mvR HO_5.out)) hb)
                          have n2_ := Aside0.mk (Kd.R_below ((Sqz.mvR HO_7.out)) hb)
                          have n3_ := Aside0.mk (below_step (Sqz.auHB) hb)
                          clear HO_3
                          clear HO_5
                          clear HO_7
                          clear HB
                          have HO_3 := n0_
                          have HO_5 := n1_
                          have HO_7 := n2_
                          have HB := n3_
                          clear n0_ n1_ n2_ n3_
                          (try clear hb)
                          (try clear hb2)
                          (try clear hk)
                          (try clear hi)
                          refine hK.out _ _ (HS0_) (fun hHeld => ?_)
                          clear hK K
                          refine norm_ (a' := ?_) ?_ ?_
                          rotate_left
                          · show Act.put _ (some 61) _ = _
                            simp only [Act.put, List.setIfInBounds_toArray, List.set_cons_zero, List.set_cons_succ, i64_w, i32_w]
                            rfl
                          refine pure_ (i := 5) (N := some 62) (v := ?_) (a' := ?_) #[true, true, true, true, true, true, false, false, false, false, false, false, false, false, false, false, false, false, false, false, false, false] rfl rfl (any_of HT_.out (by kernel_rfl)) (fun _ _ _ h => h) (Or.inl ⟨by rfl, ?_⟩) ?_ ?_
                          rotate_left
                          · intro w'
                            go_simp
                            with_reducible rfl
                          rotate_left
                          · simp only [Act.put, List.setIfInBounds_toArray, List.set_cons_zero, List.set_cons_succ, i64_w, i32_w]
                            rfl
                          refine pure_ (i := 6) (N := some 63) (v := ?_) (a' := ?_) #[true, true, true, true, true, true, true, false, false, false, false, false, false, false, false, false, false, false, false, false, false, false] rfl rfl (any_of HT_.out (by kernel_rfl)) (fun _ _ _ h => h) (Or.inl ⟨by rfl, ?_⟩) ?_ ?_
                          rotate_left
                          · intro w'
                            go_simp
                            with_reducible rfl
                          rotate_left
                          · simp only [Act.put, List.setIfInBounds_toArray, List.set_cons_zero, List.set_cons_succ, i64_w, i32_w]
                            rfl
                          refine pure_ (i := 7) (N := some 64) (v := undef) (a' := ?_) #[true, true, true, true, true, true, true, true, false, false, false, false, false, false, false, false, false, false, false, false, false, false] rfl rfl (any_of HT_.out (by kernel_rfl)) (fun _ _ _ h => h) (Or.inr ⟨by rfl, rfl⟩) ?_ ?_
                          rotate_left
                          · simp only [Act.put, List.setIfInBounds_toArray, List.set_cons_zero, List.set_cons_succ, i64_w, i32_w]
                            rfl
                          refine pure_ (i := 8) (N := some 65) (v := undef) (a' := ?_) #[true, true, true, true, true, true, true, true, true, false, false, false, false, false, false, false, false, false, false, false, false, false] rfl rfl (any_of HT_.out (by kernel_rfl)) (fun _ _ _ h => h) (Or.inr ⟨by rfl, rfl⟩) ?_ ?_
                          rotate_left
                          · simp only [Act.put, List.setIfInBounds_toArray, List.set_cons_zero, List.set_cons_succ, i64_w, i32_w]
                            rfl
                          refine pure_ (i := 9) (N := some 66) (v := undef) (a' := ?_) #[true, true, true, true, true, true, true, true, true, true, false, false, false, false, false, false, false, false, false, false, false, false] rfl rfl (any_of HT_.out (by kernel_rfl)) (fun _ _ _ h => h) (Or.inr ⟨by rfl, rfl⟩) ?_ ?_
                          rotate_left
                          · simp only [Act.put, List.setIfInBounds_toArray, List.set_cons_zero, List.set_cons_succ, i64_w, i32_w]
                            rfl
                          refine pure_ (i := 10) (N := some 67) (v := undef) (a' := ?_) #[true, true, true, true, true, true, true, true, true, true, true, false, false, false, false, false, false, false, false, false, false, false] rfl rfl (any_of HT_.out (by kernel_rfl)) (fun _ _ _ h => h) (Or.inr ⟨by rfl, rfl⟩) ?_ ?_
                          rotate_left
                          · simp only [Act.put, List.setIfInBounds_toArray, List.set_cons_zero, List.set_cons_succ, i64_w, i32_w]
                            rfl
                          refine pure_ (i := 11) (N := some 68) (v := undef) (a' := ?_) #[true, true, true, true, true, true, true, true, true, true, true, true, false, false, false, false, false, false, false, false, false, false] rfl rfl (any_of HT_.out (by kernel_rfl)) (fun _ _ _ h => h) (Or.inr ⟨by rfl, rfl⟩) ?_ ?_
                          rotate_left
                          · simp only [Act.put, List.setIfInBounds_toArray, List.set_cons_zero, List.set_cons_succ, i64_w, i32_w]
                            rfl
                          refine pure_ (i := 12) (N := some 69) (v := undef) (a' := ?_) #[true, true, true, true, true, true, true, true, true, true, true, true, true, false, false, false, false, false, false, false, false, false] rfl rfl (any_of HT_.out (by kernel_rfl)) (fun _ _ _ h => h) (Or.inr ⟨by rfl, rfl⟩) ?_ ?_
                          rotate_left
                          · simp only [Act.put, List.setIfInBounds_toArray, List.set_cons_zero, List.set_cons_succ, i64_w, i32_w]
                            rfl
                          refine pure_ (i := 13) (N := some 70) (v := undef) (a' := ?_) #[true, true, true, true, true, true, true, true, true, true, true, true, true, true, false, false, false, false, false, false, false, false] rfl rfl (any_of HT_.out (by kernel_rfl)) (fun _ _ _ h => h) (Or.inr ⟨by rfl, rfl⟩) ?_ ?_
                          rotate_left
                          · simp only [Act.put, List.setIfInBounds_toArray, List.set_cons_zero, List.set_cons_succ, i64_w, i32_w]
                            rfl
                          refine pure_ (i := 14) (N := some 71) (v := undef) (a' := ?_) #[true, true, true, true, true, true, true, true, true, true, true, true, true, true, true, false, false, false, false, false, false, false] rfl rfl (any_of HT_.out (by kernel_rfl)) (fun _ _ _ h => h) (Or.inr ⟨by rfl, rfl⟩) ?_ ?_
                          rotate_left
                          · simp only [Act.put, List.setIfInBounds_toArray, List.set_cons_zero, List.set_cons_succ, i64_w, i32_w]
                            rfl
                          refine pure_ (i := 15) (N := some 72) (v := undef) (a' := ?_) #[true, true, true, true, true, true, true, true, true, true, true, true, true, true, true, true, false, false, false, false, false, false] rfl rfl (any_of HT_.out (by kernel_rfl)) (fun _ _ _ h => h) (Or.inr ⟨by rfl, rfl⟩) ?_ ?_
                          rotate_left
                          · simp only [Act.put, List.setIfInBounds_toArray, List.set_cons_zero, List.set_cons_succ, i64_w, i32_w]
                            rfl
                          refine pure_ (i := 16) (N := some 73) (v := undef) (a' := ?_) #[true, true, true, true, true, true, true, true, true, true, true, true, true, true, true, true, true, false, false, false, false, false] rfl rfl (any_of HT_.out (by kernel_rfl)) (fun _ _ _ h => h) (Or.inr ⟨by rfl, rfl⟩) ?_ ?_
                          rotate_left
                          · simp only [Act.put, List.setIfInBounds_toArray, List.set_cons_zero, List.set_cons_succ, i64_w, i32_w]
                            rfl
                          refine pure_ (i := 17) (N := some 74) (v := undef) (a' := ?_) #[true, true, true, true, true, true, true, true, true, true, true, true, true, true, true, true, true, true, false, false, false, false] rfl rfl (any_of HT_.out (by kernel_rfl)) (fun _ _ _ h => h) (Or.inr ⟨by rfl, rfl⟩) ?_ ?_
                          rotate_left
                          · simp only [Act.put, List.setIfInBounds_toArray, List.set_cons_zero, List.set_cons_succ, i64_w, i32_w]
                            rfl
                          refine pure_ (i := 18) (N := some 75) (v := undef) (a' := ?_) #[true, true, true, true, true, true, true, true, true, true, true, true, true, true, true, true, true, true, true, false, false, false] rfl rfl (any_of HT_.out (by kernel_rfl)) (fun _ _ _ h => h) (Or.inr ⟨by rfl, rfl⟩) ?_ ?_
                          rotate_left
                          · simp only [Act.put, List.setIfInBounds_toArray, List.set_cons_zero, List.set_cons_succ, i64_w, i32_w]
                            rfl
                          refine pure_ (i := 19) (N := some 76) (v := undef) (a' := ?_) #[true, true, true, true, true, true, true, true, true, true, true, true, true, true, true, true, true, true, true, true, false, false] rfl rfl (any_of HT_.out (by kernel_rfl)) (fun _ _ _ h => h) (Or.inr ⟨by rfl, rfl⟩) ?_ ?_
                          rotate_left
                          · simp only [Act.put, List.setIfInBounds_toArray, List.set_cons_zero, List.set_cons_succ, i64_w, i32_w]
                            rfl
                          refine pure_ (i := 20) (N := some 77) (v := undef) (a' := ?_) #[true, true, true, true, true, true, true, true, true, true, true, true, true, true, true, true, true, true, true, true, true, false] rfl rfl (any_of HT_.out (by kernel_rfl)) (fun _ _ _ h => h) (Or.inr ⟨by rfl, rfl⟩) ?_ ?_
                          rotate_left
                          · simp only [Act.put, List.setIfInBounds_toArray, List.set_cons_zero, List.set_cons_succ, i64_w, i32_w]
                            rfl
                          refine pure_ (i := 21) (N := some 78) (v := ?_) (a' := ?_) #[true, true, true, true, true, true, true, true, true, true, true, true, true, true, true, true, true, true, true, true, true, true] rfl rfl (any_of HT_.out (by kernel_rfl)) (fun _ _ _ h => h) (Or.inl ⟨by rfl, ?_⟩) ?_ ?_
                          rotate_left
                          · intro w'
                            go_simp
                            with_reducible rfl
                          rotate_left
                          · simp only [Act.put, List.setIfInBounds_toArray, List.set_cons_zero, List.set_cons_succ, i64_w, i32_w]
                            rfl
                          refine done_ (done_of HT_.out (by kernel_rfl)) ?_
                          try go_wp2
                          go_roundg kj23
                          case measure => have := HJ5.out; have := HK2.out; have := HJ23.out; omega
                          case rel => exact ⟨(x9_23), (wrap64 (x10_2 + 1)), Sqz.auS, Sqz.auS, H', ⟨by have := HJ5.out; have := HK2.out; have := HJ23.out; omega⟩, ⟨(Sqz.mvR HO_3.out)⟩, ⟨(Sqz.mvR HO_5.out)⟩, ⟨(Sqz.mvR HO_7.out)⟩, ⟨Sqz.auHB⟩⟩
                      · rw [if_neg c31] at H
                        exact absurd H (by simp)
                    · rw [if_neg c30] at H
                      exact absurd H (by simp)
              · rw [if_neg c23] at H
                have c23b0 : decide (x10_2 < (t383.length : Int)) = false := decide_eq_false c23
                clear c23
                by_cases c47 : x9_2 = true
                · subst c47
                  have H1 : (if t384 = true then ((impl_PlanesAt.f k2 t371 t372).bind fun t387 => (if t387 = 0 then (if (t371.length : Int) < 3 then (some true) else (if t372 < 3 then (some true) else (some (decide ((t375.length : Int) ≥ 3))))) else (if (t375.length : Int) = (t383.length : Int) then (if (t371.length : Int) < 3 then (some true) else (if t372 < 3 then (some true) else (some (decide ((t375.length : Int) ≥ 3))))) else (some false)))) else (some false)) = some r := by rw [if_pos rfl] at H; exact H
                  clear H
                  have H := H1
                  clear H1
                  by_cases c48 : t384 = true
                  · subst c48
                    have H1 : ((impl_PlanesAt.f k2 t371 t372).bind fun t387 => (if t387 = 0 then (if (t371.length : Int) < 3 then (some true) else (if t372 < 3 then (some true) else (some (decide ((t375.length : Int) ≥ 3))))) else (if (t375.length : Int) = (t383.length : Int) then (if (t371.length : Int) < 3 then (some true) else (if t372 < 3 then (some true) else (some (decide ((t375.length : Int) ≥ 3))))) else (some false)))) = some r := by rw [if_pos rfl] at H; exact H
                    clear H
                    have H := H1
                    clear H1
                    replace H := Option.bind_eq_some_iff.mp H
                    obtain ⟨t387, A490, H⟩ := H
                    replace H : (if t387 = 0 then (if (t371.length : Int) < 3 then (some true) else (if t372 < 3 then (some true) else (some (decide ((t375.length : Int) ≥ 3))))) else (if (t375.length : Int) = (t383.length : Int) then (if (t371.length : Int) < 3 then (some true) else (if t372 < 3 then (some true) else (some (decide ((t375.length : Int) ≥ 3))))) else (some false))) = some r := H
                    have A49 := Aside0.mk A490
                    clear A490
                    by_cases c50 : t387 = 0
                    · rw [if_pos c50] at H
                      have c50b0 : (t387 == 0) = true := beq_iff_eq.mpr c50
                      have c50b1 : (t387 != 0) = false := bne_eq_false_iff_eq.mpr c50
                      clear c50
                      by_cases c51 : (t371.length : Int) < 3
                      · rw [if_pos c51] at H
                        have c51b0 : decide ((t371.length : Int) < 3) = true := decide_eq_true c51
                        have c51b1 : decide (t371.length < 3) = true := decide_eq_true (by omega)
                        clear c51
                        obtain rfl := Option.some.inj H
                        obtain ⟨Ao52, co52, eo52⟩ := Kd.R_slice HO_7.out
                        subst eo52
                        go_wp2_with (first | (go_at_call 32; (with_reducible refine (impl_PlanesAt.calls k2 _ _ t371 t372 t387 _ ?side1 ?side2 A49.out).mono ?_); (case side1 => exact Sqz.mvC ((Kd.R_reads' HO_3.out).2.2)); (case side2 => exact (Kd.R_reads' HO_3.out).2.1); rintro e w53 ⟨rfl, hb⟩; have n0_ := Aside0.mk (Kd.R_below ((Sqz.mvR HO_3.out)) hb); have n1_ := Aside0.mk (Kd.R_below ((Sqz.mvR HO_5.out)) hb); have n2_ := Aside0.mk (Kd.R_below ((Sqz.mvR HO_7.out)) hb); have n3_ := Aside0.mk (below_step (Sqz.auHB) hb); clear HO_3; clear HO_5; clear HO_7; clear HB; have HO_3 := n0_; have HO_5 := n1_; have HO_7 := n2_; have HB := n3_; clear n0_ n1_ n2_ n3_; (try clear hb); (try clear hb2); (try clear hk); (try clear hi)))
                        go_ret
                        exact ⟨Sqz.auR, Sqz.auHB⟩
                      · rw [if_neg c51] at H
                        have c51b0 : decide ((t371.length : Int) < 3) = false := decide_eq_false c51
                        have c51b1 : decide (t371.length < 3) = false := decide_eq_false (by omega)
                        clear c51
                        by_cases c54 : t372 < 3
                        · rw [if_pos c54] at H
                          have c54b0 : decide (t372 < 3) = true := decide_eq_true c54
                          clear c54
                          obtain rfl := Option.some.inj H
                          obtain ⟨Ao55, co55, eo55⟩ := Kd.R_slice HO_7.out
                          subst eo55
                          go_wp2_with (first | (go_at_call 32; (with_reducible refine (impl_PlanesAt.calls k2 _ _ t371 t372 t387 _ ?side1 ?side2 A49.out).mono ?_); (case side1 => exact Sqz.mvC ((Kd.R_reads' HO_3.out).2.2)); (case side2 => exact (Kd.R_reads' HO_3.out).2.1); rintro e w56 ⟨rfl, hb⟩; have n0_ := Aside0.mk (Kd.R_below ((Sqz.mvR HO_3.out)) hb); have n1_ := Aside0.mk (Kd.R_below ((Sqz.mvR HO_5.out)) hb); have n2_ := Aside0.mk (Kd.R_below ((Sqz.mvR HO_7.out)) hb); have n3_ := Aside0.mk (below_step (Sqz.auHB) hb); clear HO_3; clear HO_5; clear HO_7; clear HB; have HO_3 := n0_; have HO_5 := n1_; have HO_7 := n2_; have HB := n3_; clear n0_ n1_ n2_ n3_; (try clear hb); (try clear hb2); (try clear hk); (try clear hi)))
                          go_ret
                          exact ⟨Sqz.auR, Sqz.auHB⟩
                        · rw [if_neg c54] at H
                          have c54b0 : decide (t372 < 3) = false := decide_eq_false c54
                          clear c54
                          obtain rfl := Option.some.inj H
                          obtain ⟨Ao57, co57, eo57⟩ := Kd.R_slice HO_7.out
                          subst eo57
                          go_wp2_with (first | (go_at_call 32; (with_reducible refine (impl_PlanesAt.calls k2 _ _ t371 t372 t387 _ ?side1 ?side2 A49.out).mono ?_); (case side1 => exact Sqz.mvC ((Kd.R_reads' HO_3.out).2.2)); (case side2 => exact (Kd.R_reads' HO_3.out).2.1); rintro e w58 ⟨rfl, hb⟩; have n0_ := Aside0.mk (Kd.R_below ((Sqz.mvR HO_3.out)) hb); have n1_ := Aside0.mk (Kd.R_below ((Sqz.mvR HO_5.out)) hb); have n2_ := Aside0.mk (Kd.R_below ((Sqz.mvR HO_7.out)) hb); have n3_ := Aside0.mk (below_step (Sqz.auHB) hb); clear HO_3; clear HO_5; clear HO_7; clear HB; have HO_3 := n0_; have HO_5 := n1_; have HO_7 := n2_; have HB := n3_; clear n0_ n1_ n2_ n3_; (try clear hb); (try clear hb2); (try clear hk); (try clear hi); obtain ⟨Ao59, co59, eo59⟩ := Kd.R_slice HO_5.out; subst eo59))
                          go_ret
                          exact ⟨Sqz.auR, Sqz.auHB⟩
                    · rw [if_neg c50] at H
                      have c50b0 : (t387 == 0) = false := beq_eq_false_iff_ne.mpr c50
                      have c50b1 : (t387 != 0) = true := bne_iff_ne.mpr c50
                      by_cases c60 : (t375.length : Int) = (t383.length : Int)
                      · rw [if_pos c60] at H
                        have c60b0 : ((t375.length : Int) == (t383.length : Int)) = true := beq_iff_eq.mpr c60
                        have c60b1 : ((t375.length : Int) != (t383.length : Int)) = false := bne_eq_false_iff_eq.mpr c60
                        have c60b2 : (t375.length == t383.length) = true := by first | simpa using c60 | (simp at c60 ⊢; omega)
                        clear c60
                        by_cases c61 : (t371.length : Int) < 3
                        · rw [if_pos c61] at H
                          have c61b0 : decide ((t371.length : Int) < 3) = true := decide_eq_true c61
                          have c61b1 : decide (t371.length < 3) = true := decide_eq_true (by omega)
                          clear c61
                          obtain rfl := Option.some.inj H
                          obtain ⟨Ao62, co62, eo62⟩ := Kd.R_slice HO_7.out
                          subst eo62
                          go_wp2_with (first | (go_at_call 32; (with_reducible refine (impl_PlanesAt.calls k2 _ _ t371 t372 t387 _ ?side1 ?side2 A49.out).mono ?_); (case side1 => exact Sqz.mvC ((Kd.R_reads' HO_3.out).2.2)); (case side2 => exact (Kd.R_reads' HO_3.out).2.1); rintro e w63 ⟨rfl, hb⟩; have n0_ := Aside0.mk (Kd.R_below ((Sqz.mvR HO_3.out)) hb); have n1_ := Aside0.mk (Kd.R_below ((Sqz.mvR HO_5.out)) hb); have n2_ := Aside0.mk (Kd.R_below ((Sqz.mvR HO_7.out)) hb); have n3_ := Aside0.mk (below_step (Sqz.auHB) hb); clear HO_3; clear HO_5; clear HO_7; clear HB; have HO_3 := n0_; have HO_5 := n1_; have HO_7 := n2_; have HB := n3_; clear n0_ n1_ n2_ n3_; (try clear hb); (try clear hb2); (try clear hk); (try clear hi); obtain ⟨Ao64, co64, eo64⟩ := Kd.R_slice HO_5.out; subst eo64))
                          go_ret
                          exact ⟨Sqz.auR, Sqz.auHB⟩
                        · rw [if_neg c61] at H
                          have c61b0 : decide ((t371.length : Int) < 3) = false := decide_eq_false c61
                          have c61b1 : decide (t371.length < 3) = false := decide_eq_false (by omega)
                          clear c61
                          by_cases c65 : t372 < 3
                          · rw [if_pos c65] at H
                            have c65b0 : decide (t372 < 3) = true := decide_eq_true c65
                            clear c65
                            obtain rfl := Option.some.inj H
                            obtain ⟨Ao66, co66, eo66⟩ := Kd.R_slice HO_7.out
                            subst eo66
                            go_wp2_with (first | (go_at_call 32; (with_reducible refine (impl_PlanesAt.calls k2 _ _ t371 t372 t387 _ ?side1 ?side2 A49.out).mono ?_); (case side1 => exact Sqz.mvC ((Kd.R_reads' HO_3.out).2.2)); (case side2 => exact (Kd.R_reads' HO_3.out).2.1); rintro e w67 ⟨rfl, hb⟩; have n0_ := Aside0.mk (Kd.R_below ((Sqz.mvR HO_3.out)) hb); have n1_ := Aside0.mk (Kd.R_below ((Sqz.mvR HO_5.out)) hb); have n2_ := Aside0.mk (Kd.R_below ((Sqz.mvR HO_7.out)) hb); have n3_ := Aside0.mk (below_step (Sqz.auHB) hb); clear HO_3; clear HO_5; clear HO_7; clear HB; have HO_3 := n0_; have HO_5 := n1_; have HO_7 := n2_; have HB := n3_; clear n0_ n1_ n2_ n3_; (try clear hb); (try clear hb2); (try clear hk); (try clear hi); obtain ⟨Ao68, co68, eo68⟩ := Kd.R_slice HO_5.out; subst eo68))
                            go_ret
                            exact ⟨Sqz.auR, Sqz.auHB⟩
                          · rw [if_neg c65] at H
                            have c65b0 : decide (t372 < 3) = false := decide_eq_false c65
                            clear c65
                            obtain rfl := Option.some.inj H
                            obtain ⟨Ao69, co69, eo69⟩ := Kd.R_slice HO_7.out
                            subst eo69
                            go_wp2_with (first | (go_at_call 32; (with_reducible refine (impl_PlanesAt.calls k2 _ _ t371 t372 t387 _ ?side1 ?side2 A49.out).mono ?_); (case side1 => exact Sqz.mvC ((Kd.R_reads' HO_3.out).2.2)); (case side2 => exact (Kd.R_reads' HO_3.out).2.1); rintro e w70 ⟨rfl, hb⟩; have n0_ := Aside0.mk (Kd.R_below ((Sqz.mvR HO_3.out)) hb); have n1_ := Aside0.mk (Kd.R_below ((Sqz.mvR HO_5.out)) hb); have n2_ := Aside0.mk (Kd.R_below ((Sqz.mvR HO_7.out)) hb); have n3_ := Aside0.mk (below_step (Sqz.auHB) hb); clear HO_3; clear HO_5; clear HO_7; clear HB; have HO_3 := n0_; have HO_5 := n1_; have HO_7 := n2_; have HB := n3_; clear n0_ n1_ n2_ n3_; (try clear hb); (try clear hb2); (try clear hk); (try clear hi); obtain ⟨Ao71, co71, eo71⟩ := Kd.R_slice HO_5.out; subst eo71))
                            go_ret
                            exact ⟨Sqz.auR, Sqz.auHB⟩
                      · rw [if_neg c60] at H
                        have c60b0 : ((t375.length : Int) == (t383.length : Int)) = false := beq_eq_false_iff_ne.mpr c60
                        have c60b1 : ((t375.length : Int) != (t383.length : Int)) = true := bne_iff_ne.mpr c60
                        have c60b2 : (t375.length == t383.length) = false := by first | simpa using c60 | (simp at c60 ⊢; omega)
                        obtain rfl := Option.some.inj H
                        obtain ⟨Ao72, co72, eo72⟩ := Kd.R_slice HO_7.out
                        subst eo72
                        go_wp2_with (first | (go_at_call 32; (with_reducible refine (impl_PlanesAt.calls k2 _ _ t371 t372 t387 _ ?side1 ?side2 A49.out).mono ?_); (case side1 => exact Sqz.mvC ((Kd.R_reads' HO_3.out).2.2)); (case side2 => exact (Kd.R_reads' HO_3.out).2.1); rintro e w73 ⟨rfl, hb⟩; have n0_ := Aside0.mk (Kd.R_below ((Sqz.mvR HO_3.out)) hb); have n1_ := Aside0.mk (Kd.R_below ((Sqz.mvR HO_5.out)) hb); have n2_ := Aside0.mk (Kd.R_below ((Sqz.mvR HO_7.out)) hb); have n3_ := Aside0.mk (below_step (Sqz.auHB) hb); clear HO_3; clear HO_5; clear HO_7; clear HB; have HO_3 := n0_; have HO_5 := n1_; have HO_7 := n2_; have HB := n3_; clear n0_ n1_ n2_ n3_; (try clear hb); (try clear hb2); (try clear hk); (try clear hi); obtain ⟨Ao74, co74, eo74⟩ := Kd.R_slice HO_5.out; subst eo74))
                        go_ret
                        exact ⟨Sqz.auR, Sqz.auHB⟩
                  · replace c48 := Bool.eq_false_iff.mpr c48
                    subst c48
                    have H1 : (some false) = some r := by rw [if_neg (show ¬ (false = true) by decide)] at H; exact H
                    clear H
                    have H := H1
                    clear H1
                    obtain rfl := Option.some.inj H
                    obtain ⟨Ao75, co75, eo75⟩ := Kd.R_slice HO_7.out
                    subst eo75
                    go_wp2
                    go_ret
                    exact ⟨Sqz.auR, Sqz.auHB⟩
                · replace c47 := Bool.eq_false_iff.mpr c47
                  subst c47
                  have H1 : (some t384) = some r := by rw [if_neg (show ¬ (false = true) by decide)] at H; exact H
                  clear H
                  have H := H1
                  clear H1
                  obtain rfl := Option.some.inj H
                  obtain ⟨Ao76, co76, eo76⟩ := Kd.R_slice HO_7.out
                  subst eo76
                  go_wp2
                  go_ret
                  exact ⟨Sqz.auR, Sqz.auHB⟩

/-- THE ONE PURE STATEMENT of laws_FnClasses: yours. -/
def laws_FnClasses.Pure : Prop := ∀ (l0 : List Int), l0.length ≤ maxLen → l0.length * 1 ≤ 140737488351232 → (∀ x ∈ l0, (Lit.int .u8 x).wf = true) → ∃ k, laws_FnClasses.f k l0 = some true
theorem laws_FnClasses.walk (P : laws_FnClasses.Pure) (a0 : Option Addr) (len0 cap0 : Nat) (z0 : List Int) (w : World) (w0 : (a0 = none ∧ len0 = 0 ∧ cap0 = 0 ∧ z0 = []) ∨ ∃ x, a0 = some x ∧ len0 ≤ cap0 ∧ cap0 ≤ maxLen ∧ z0.length = cap0 ∧ (∀ i, i < z0.length → w.cell? (x.add i) = some (.int .u8 (z0.getD i 0))) ∧ ∀ n ∈ z0, (Lit.int .u8 n).wf = true) (y0 : len0 * 1 ≤ 140737488351232) :
    Calls Try.prog 7 #[.slice a0 len0 cap0] w fun e w' => e = .returned (.bool true) ∧ Below w.heap.size w w' := by
  obtain ⟨l0, rfl, hr0, hm0, hw0, hc0⟩ := ReadsInt.ofRowC w0
  obtain ⟨k, h⟩ := P l0 hm0 y0 hw0
  refine (laws_FnClasses.calls k _ _ l0 true w (Kd.C_of_reads (d := (0 : Int)) (h1 := fun _ => rfl) hr0) hc0 h).mono ?_
  rintro e w' ⟨rfl, hd⟩
  exact ⟨rfl, hd⟩

end Go.Proofs.Ytihadpckmcebgaa.PFnClasses
