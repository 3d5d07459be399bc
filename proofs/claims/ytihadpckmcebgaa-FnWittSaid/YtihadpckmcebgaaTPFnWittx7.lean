/- A function's Lean twin and its walk, written by a program of this session. -/
import Derived.Test.YtihadpckmcebgaaTPFnWittx0
import Derived.Test.YtihadpckmcebgaaTPFnWittx2
import Derived.Test.YtihadpckmcebgaaTPFnWittx3
import Derived.Test.YtihadpckmcebgaaTPFnWittx4
import Derived.Test.YtihadpckmcebgaaTPFnWittx6
namespace Go.Proofs.Ytihadpckmcebgaa.PFnWitt
open Go.RowKit Go.Proofs.YtihadpckmcebgaaW.PrintWords Go.Proofs.YtihadpckmcebgaaW.PrintLast Go.Proofs.YtihadpckmcebgaaW.PrintMore
attribute [local go_sem] max2_int min2_int max_two min_two max_three min_three max_four min_four   -- for this text's walks alone
set_option linter.unusedVariables false
set_option linter.unusedSimpArgs false

/-! ### impl_coreOf: function 71 -/
mutual
def impl_coreOf.l0 : Nat → Int → Int → List Int → Int → Int → Option (Int × Int)
  | 0, _, _, _, _, _ => none
  | k + 1, x0, x4, x8, x9, x10 => if x10 < x9 then (if 0 ≤ x10 then (if x10 < (x8.length : Int) then (impl_coreOf.l1 k x0 x4 (rd x8 x10) x8 x9 x10) else (none)) else (none)) else (some (x0, x4))
def impl_coreOf.l1 : Nat → Int → Int → Int → List Int → Int → Int → Option (Int × Int)
  | 0, _, _, _, _, _, _ => none
  | k + 1, x0, x4, x6, x8, x9, x10 => if (wrap64 (x6 * x6)) = 0 then (none) else (if (Int.tmod x0 (wrap64 (x6 * x6))) = 0 then (impl_coreOf.l1 k (wrap64 (Int.tdiv x0 (wrap64 (x6 * x6)))) (wrap64 (x4 * x6)) x6 x8 x9 x10) else (impl_coreOf.l0 k x0 x4 x8 x9 (wrap64 (x10 + 1))))
end
def impl_coreOf.f (k : Nat) (a0 : Int) : Option (Int × Int) := (impl_primesOf.f k a0).bind fun t401 => (impl_coreOf.l0 k a0 1 t401 (t401.length : Int) 0)
set_option maxHeartbeats 8000000 in
set_option maxRecDepth 100000 in
theorem impl_coreOf.calls (k : Nat) (a0 : Int) (r1 : Int) (r2 : Int) (w : World) (h : impl_coreOf.f k a0 = some (r1, r2)) :
    Calls Try.prog 71 #[.int .i64 a0] w fun e w' => e = .returned (.tuple #[.int .i64 r1, .int .i64 r2]) ∧ Below w.heap.size w w' := by
  have HB := Aside0.mk (Below.refl w.heap.size w)
  have H : ((impl_primesOf.f k a0).bind fun t401 => (impl_coreOf.l0 k a0 1 t401 (t401.length : Int) 0)) = some (r1, r2) := h
  clear h
  replace H := Option.bind_eq_some_iff.mp H
  obtain ⟨t401, A20, H⟩ := H
  replace H : (impl_coreOf.l0 k a0 1 t401 (t401.length : Int) 0) = some (r1, r2) := H
  have A2 := Aside0.mk A20
  clear A20
  have H' := Aside0.mk H
  clear H
  go_enter Try.func71, Try.ntmps71
  go_wp2_with (first | ((with_reducible refine gate_callee (f := 111) rfl ?_); refine goesL_ (some 8) rfl rfl Try.func111 (by kernel_rfl) rfl #[.int .i64 a0] rfl Sqz.auM ?_; (with_reducible refine (impl_primesOf.calls k a0 t401 _ A2.out).mono ?_); rintro e w3 ⟨v402, rfl, ho0, hb⟩; refine ⟨_, rfl, ?_⟩; have n0_ := Aside0.mk (Kd.R_lower ho0 (below_size (Sqz.auHB))); have n1_ := Aside0.mk (below_step (Sqz.auHB) hb); clear HB; have HO403 := n0_; have HB := n1_; clear n0_ n1_; (try clear hb); (try clear hb2); (try clear hk); (try clear hi); (try clear ho0); obtain ⟨Ao4, co4, eo4⟩ := Kd.R_slice HO403.out; subst eo4))
  go_loopg [0, 4, 10] k (fun kq v0 v4 v10 w' => ∃ (x0_1 : Int) (x4_1 : Int) (x10_1 : Int), v0 = .int .i64 x0_1 ∧ v4 = .int .i64 x4_1 ∧ v10 = .int .i64 x10_1 ∧ Aside0 (impl_coreOf.l0 kq x0_1 x4_1 t401 (t401.length : Int) x10_1 = some (r1, r2)) ∧ Aside0 (kq ≤ k) ∧ Aside0 (Kd.R (Kd.int .i64) 3 w' w.heap.size (fun _ => True) (.slice Ao4 t401.length co4) t401) ∧ Aside0 (Below w.heap.size w w'))
  case atStart => exact ⟨(a0), (1), (0), Sqz.auS, Sqz.auS, Sqz.auS, H', ⟨Nat.le_refl _⟩, ⟨(Sqz.mvR HO403.out)⟩, ⟨Sqz.auHB⟩⟩
  case round =>
    clear H'
    try clear c1
    try clear p2
    obtain ⟨x0_1, x4_1, x10_1, rfl, rfl, rfl, HA, HK1, HO_8, HB⟩ := hrel
    cases gk with
    | zero => exact absurd HA.out (by simp [impl_coreOf.l0])
    | succ k1 =>
      have H := HA.out
      clear HA
      simp only [impl_coreOf.l0] at H
      by_cases c5 : x10_1 < (t401.length : Int)
      · rw [if_pos c5] at H
        have c5b0 : decide (x10_1 < (t401.length : Int)) = true := decide_eq_true c5
        clear c5
        by_cases c6 : 0 ≤ x10_1
        · rw [if_pos c6] at H
          have c6b0 : decide (0 ≤ x10_1) = true := decide_eq_true c6
          clear c6
          by_cases c7 : x10_1 < (t401.length : Int)
          · rw [if_pos c7] at H
            have c7b0 : decide (x10_1 < (t401.length : Int)) = true := decide_eq_true c7
            clear c7
            have H' := Aside0.mk H
            clear H
            have p404 : 0 ≤ (x10_1 : Int) := of_decide_eq_true (by first | (with_reducible assumption) | assumption)
            have q404 : x10_1 < (t401.length : Int) := of_decide_eq_true (by first | (with_reducible assumption) | assumption)
            obtain ⟨ad404, e404, hx404_0⟩ := Kd.at_int (Kd.R_reads' HO_8.out).2.2 x10_1 p404 q404
            cases e404
            replace p404 := eq_true p404
            replace q404 := eq_true q404
            go_wp2
            go_loopg [0, 4] k1 (fun kq v0 v4 w' => ∃ (x0_2 : Int) (x4_2 : Int), v0 = .int .i64 x0_2 ∧ v4 = .int .i64 x4_2 ∧ Aside0 (impl_coreOf.l1 kq x0_2 x4_2 (rd t401 x10_1) t401 (t401.length : Int) x10_1 = some (r1, r2)) ∧ Aside0 (kq ≤ k1) ∧ Aside0 (Kd.R (Kd.int .i64) 3 w' w.heap.size (fun _ => True) (.slice (some ad404) t401.length co4) t401) ∧ Aside0 (Below w.heap.size w w'))
            case atStart => exact ⟨(x0_1), (x4_1), Sqz.auS, Sqz.auS, H', ⟨Nat.le_refl _⟩, ⟨(Sqz.mvR HO_8.out)⟩, ⟨Sqz.auHB⟩⟩
            case round =>
              clear H'
              try clear c1
              try clear p2
              try clear p4
              try clear q4
              try clear hx4
              try clear c5
              try clear c5b0
              try clear c6
              try clear c6b0
              try clear c7
              try clear c7b0
              try clear hx404_0
              try clear p2
              try clear p404
              try clear q404
              obtain ⟨x0_2, x4_2, rfl, rfl, HA, HK2, HO_8, HB⟩ := hrel
              cases gk with
              | zero => exact absurd HA.out (by simp [impl_coreOf.l1])
              | succ k2 =>
                have H := HA.out
                clear HA
                simp only [impl_coreOf.l1] at H
                by_cases c8 : (wrap64 ((rd t401 x10_1) * (rd t401 x10_1))) = 0
                · rw [if_pos c8] at H
                  exact absurd H (by simp)
                · rw [if_neg c8] at H
                  have c8b0 : ((wrap64 ((rd t401 x10_1) * (rd t401 x10_1))) == 0) = false := beq_eq_false_iff_ne.mpr c8
                  have c8b1 : ((wrap64 ((rd t401 x10_1) * (rd t401 x10_1))) != 0) = true := bne_iff_ne.mpr c8
                  by_cases c9 : (Int.tmod x0_2 (wrap64 ((rd t401 x10_1) * (rd t401 x10_1)))) = 0
                  · rw [if_pos c9] at H
                    have c9b0 : ((Int.tmod x0_2 (wrap64 ((rd t401 x10_1) * (rd t401 x10_1)))) == 0) = true := beq_iff_eq.mpr c9
                    have c9b1 : ((Int.tmod x0_2 (wrap64 ((rd t401 x10_1) * (rd t401 x10_1)))) != 0) = false := bne_eq_false_iff_eq.mpr c9
                    clear c9
                    have H' := Aside0.mk H
                    clear H
                    go_wp2
                    go_roundg k2
                    case measure => have := HK1.out; have := HK2.out; omega
                    case rel => exact ⟨(wrap64 (Int.tdiv x0_2 (wrap64 ((rd t401 x10_1) * (rd t401 x10_1))))), (wrap64 (x4_2 * (rd t401 x10_1))), Sqz.auS, Sqz.auS, H', ⟨by have := HK1.out; have := HK2.out; omega⟩, ⟨(Sqz.mvR HO_8.out)⟩, ⟨Sqz.auHB⟩⟩
                  · rw [if_neg c9] at H
                    have c9b0 : ((Int.tmod x0_2 (wrap64 ((rd t401 x10_1) * (rd t401 x10_1)))) == 0) = false := beq_eq_false_iff_ne.mpr c9
                    have c9b1 : ((Int.tmod x0_2 (wrap64 ((rd t401 x10_1) * (rd t401 x10_1)))) != 0) = true := bne_iff_ne.mpr c9
                    have H' := Aside0.mk H
                    clear H
                    go_wp2
                    go_roundg k2
                    case measure => have := HK1.out; have := HK2.out; omega
                    case rel => exact ⟨(x0_2), (x4_2), (wrap64 (x10_1 + 1)), Sqz.auS, Sqz.auS, Sqz.auS, H', ⟨by have := HK1.out; have := HK2.out; omega⟩, ⟨(Sqz.mvR HO_8.out)⟩, ⟨Sqz.auHB⟩⟩
          · rw [if_neg c7] at H
            exact absurd H (by simp)
        · rw [if_neg c6] at H
          exact absurd H (by simp)
      · rw [if_neg c5] at H
        have c5b0 : decide (x10_1 < (t401.length : Int)) = false := decide_eq_false c5
        clear c5
        simp only [Option.some.injEq, Prod.mk.injEq] at H
        obtain ⟨rfl, rfl⟩ := H
        go_wp2
        go_ret2
        exact ⟨Sqz.auR, Sqz.auHB⟩

/-! ### impl_FormDisc: function 110 -/
def impl_FormDisc.f (k : Nat) (l0 : List Int) : Option (Int) := (impl_FormValid.f k l0).bind fun t405 => (if t405 = true then ((impl_product.f k l0).bind fun t406 => ((impl_coreOf.f k t406).bind fun bt407 => (some bt407.1))) else (some 0))
set_option maxHeartbeats 8000000 in
set_option maxRecDepth 100000 in
theorem impl_FormDisc.calls (k : Nat) (A0 : Option Addr) (c0 : Nat) (l0 : List Int) (r : Int) (w : World) (hr0 : Kd.C (Kd.int .i64) w A0 l0.length l0) (hc0 : l0.length ≤ c0) (h : impl_FormDisc.f k l0 = some r) :
    Calls Try.prog 110 #[.slice A0 l0.length c0] w fun e w' => e = .returned (.int .i64 r) ∧ Below w.heap.size w w' := by
  have HR0 := Aside0.mk hr0
  have HC0 := Aside0.mk hc0
  clear hr0 hc0
  have HB := Aside0.mk (Below.refl w.heap.size w)
  have H : ((impl_FormValid.f k l0).bind fun t405 => (if t405 = true then ((impl_product.f k l0).bind fun t406 => ((impl_coreOf.f k t406).bind fun bt407 => (some bt407.1))) else (some 0))) = some r := h
  clear h
  replace H := Option.bind_eq_some_iff.mp H
  obtain ⟨t405, A20, H⟩ := H
  replace H : (if t405 = true then ((impl_product.f k l0).bind fun t406 => ((impl_coreOf.f k t406).bind fun bt407 => (some bt407.1))) else (some 0)) = some r := H
  have A2 := Aside0.mk A20
  clear A20
  by_cases c3 : t405 = true
  · subst c3
    have H1 : ((impl_product.f k l0).bind fun t406 => ((impl_coreOf.f k t406).bind fun bt407 => (some bt407.1))) = some r := by rw [if_pos rfl] at H; exact H
    clear H
    have H := H1
    clear H1
    replace H := Option.bind_eq_some_iff.mp H
    obtain ⟨t406, A40, H⟩ := H
    replace H : ((impl_coreOf.f k t406).bind fun bt407 => (some bt407.1)) = some r := H
    have A4 := Aside0.mk A40
    clear A40
    replace H := Option.bind_eq_some_iff.mp H
    obtain ⟨⟨t407, t408⟩, A50, H⟩ := H
    replace H : (some t407) = some r := H
    have A5 := Aside0.mk A50
    clear A50
    obtain rfl := Option.some.inj H
    go_enter Try.func110, Try.ntmps110
    go_wp2_with (first | ((with_reducible refine gate_callee (f := 20) rfl ?_); refine goesL_ (some 6) rfl rfl Try.func20 (by kernel_rfl) rfl #[.slice A0 l0.length c0] rfl Sqz.auM ?_; (with_reducible refine (impl_FormValid.calls k _ _ l0 true _ ?side1 ?side2 A2.out).mono ?_); (case side1 => exact Sqz.mvC (HR0.out)); (case side2 => exact HC0.out); rintro e w6 ⟨rfl, hb⟩; refine ⟨_, rfl, ?_⟩; have n0_ := Aside0.mk (below_step (Sqz.auHB) hb); clear HB; have HB := n0_; clear n0_; (try clear hb); (try clear hb2); (try clear hk); (try clear hi)) | ((with_reducible refine gate_callee (f := 124) rfl ?_); refine goesL_ (some 10) rfl rfl Try.func124 (by kernel_rfl) rfl #[.slice A0 l0.length c0] rfl Sqz.auM ?_; (with_reducible refine (impl_product.calls k _ _ l0 t406 _ ?side1 ?side2 A4.out).mono ?_); (case side1 => exact Sqz.mvC ((Kd.C_below HR0.out HB.out))); (case side2 => exact HC0.out); rintro e w' ⟨rfl, ⟨nd, rfl⟩⟩; refine ⟨_, rfl, ?_⟩) | ((with_reducible refine gate_callee (f := 71) rfl ?_); refine goesL_ (some 11) rfl rfl Try.func71 (by kernel_rfl) rfl #[.int .i64 t406] rfl Sqz.auM ?_; (with_reducible refine (impl_coreOf.calls k t406 t407 t408 _ A5.out).mono ?_); rintro e w7 ⟨rfl, hb⟩; refine ⟨_, rfl, ?_⟩; have n0_ := Aside0.mk (below_step (Sqz.auHB) hb); clear HB; have HB := n0_; clear n0_; (try clear hb); (try clear hb2); (try clear hk); (try clear hi)))
    go_ret
    exact ⟨Sqz.auR, Sqz.auHB⟩
  · replace c3 := Bool.eq_false_iff.mpr c3
    subst c3
    have H1 : (some 0) = some r := by rw [if_neg (show ¬ (false = true) by decide)] at H; exact H
    clear H
    have H := H1
    clear H1
    obtain rfl := Option.some.inj H
    go_enter Try.func110, Try.ntmps110
    go_wp2_with (first | ((with_reducible refine gate_callee (f := 20) rfl ?_); refine goesL_ (some 6) rfl rfl Try.func20 (by kernel_rfl) rfl #[.slice A0 l0.length c0] rfl Sqz.auM ?_; (with_reducible refine (impl_FormValid.calls k _ _ l0 false _ ?side1 ?side2 A2.out).mono ?_); (case side1 => exact Sqz.mvC (HR0.out)); (case side2 => exact HC0.out); rintro e w8 ⟨rfl, hb⟩; refine ⟨_, rfl, ?_⟩; have n0_ := Aside0.mk (below_step (Sqz.auHB) hb); clear HB; have HB := n0_; clear n0_; (try clear hb); (try clear hb2); (try clear hk); (try clear hi)))
    go_ret
    exact ⟨Sqz.auR, Sqz.auHB⟩

/-! ### impl_FormSame: function 57 -/
mutual
def impl_FormSame.j0 : Nat → List Int → List Int → Bool → Option (Bool)
  | 0, _, _, _ => none
  | k + 1, x0, x1, x28 => if x28 = true then (some false) else ((slices_Clone_int_int.f x0).bind fun t413 => (if t413.length + x1.length < 17592186044416 then ((impl_placesOf.f k (t413 ++ x1)).bind fun t419 => (impl_FormSame.l0 k x0 x1 t419 (t419.length : Int) 0)) else (none)))
def impl_FormSame.l0 : Nat → List Int → List Int → List Int → Int → Int → Option (Bool)
  | 0, _, _, _, _, _ => none
  | k + 1, x0, x1, x33, x34, x35 => if x35 < x34 then (if 0 ≤ x35 then (if x35 < (x33.length : Int) then ((impl_alike.f k x0 x1 (rd x33 x35)).bind fun t423 => (if t423 = true then (impl_FormSame.l0 k x0 x1 x33 x34 (wrap64 (x35 + 1))) else (some false))) else (none)) else (none)) else (some true)
end
def impl_FormSame.f (k : Nat) (l0 : List Int) (l1 : List Int) : Option (Bool) := (impl_FormValid.f k l0).bind fun t409 => (if t409 = true then ((impl_FormValid.f k l1).bind fun t410 => (if t410 = true then (if (l0.length : Int) = (l1.length : Int) then ((impl_FormDisc.f k l0).bind fun t411 => ((impl_FormDisc.f k l1).bind fun t412 => (impl_FormSame.j0 k l0 l1 (t411 != t412)))) else (impl_FormSame.j0 k l0 l1 true)) else (impl_FormSame.j0 k l0 l1 true))) else (impl_FormSame.j0 k l0 l1 true))
set_option maxHeartbeats 8000000 in
set_option maxRecDepth 100000 in
theorem impl_FormSame.calls (k : Nat) (A0 : Option Addr) (c0 : Nat) (l0 : List Int) (A1 : Option Addr) (c1 : Nat) (l1 : List Int) (r : Bool) (w : World) (hr0 : Kd.C (Kd.int .i64) w A0 l0.length l0) (hc0 : l0.length ≤ c0) (hr1 : Kd.C (Kd.int .i64) w A1 l1.length l1) (hc1 : l1.length ≤ c1) (h : impl_FormSame.f k l0 l1 = some r) :
    Calls Try.prog 57 #[.slice A0 l0.length c0, .slice A1 l1.length c1] w fun e w' => e = .returned (.bool r) ∧ Below w.heap.size w w' := by
  have HR0 := Aside0.mk hr0
  have HC0 := Aside0.mk hc0
  clear hr0 hc0
  have HR1 := Aside0.mk hr1
  have HC1 := Aside0.mk hc1
  clear hr1 hc1
  have HB := Aside0.mk (Below.refl w.heap.size w)
  have H : ((impl_FormValid.f k l0).bind fun t409 => (if t409 = true then ((impl_FormValid.f k l1).bind fun t410 => (if t410 = true then (if (l0.length : Int) = (l1.length : Int) then ((impl_FormDisc.f k l0).bind fun t411 => ((impl_FormDisc.f k l1).bind fun t412 => (impl_FormSame.j0 k l0 l1 (t411 != t412)))) else (impl_FormSame.j0 k l0 l1 true)) else (impl_FormSame.j0 k l0 l1 true))) else (impl_FormSame.j0 k l0 l1 true))) = some r := h
  clear h
  have HC3 := Aside0.mk H
  clear H
  go_enter Try.func57, Try.ntmps57
  go_upto_region 1 with (fail)
  go_cut [28] (fun v28 wc => ∃ (kq : Nat) (x28_2 : Bool), v28 = .bool x28_2 ∧ Aside0 (impl_FormSame.j0 kq l0 l1 x28_2 = some r) ∧ Aside0 (kq ≤ k) ∧ Aside0 (Below w.heap.size w wc))
  case first =>
    have H := HC3.out
    clear HC3
    replace H := Option.bind_eq_some_iff.mp H
    obtain ⟨t409, A40, H⟩ := H
    replace H : (if t409 = true then ((impl_FormValid.f k l1).bind fun t410 => (if t410 = true then (if (l0.length : Int) = (l1.length : Int) then ((impl_FormDisc.f k l0).bind fun t411 => ((impl_FormDisc.f k l1).bind fun t412 => (impl_FormSame.j0 k l0 l1 (t411 != t412)))) else (impl_FormSame.j0 k l0 l1 true)) else (impl_FormSame.j0 k l0 l1 true))) else (impl_FormSame.j0 k l0 l1 true)) = some r := H
    have A4 := Aside0.mk A40
    clear A40
    by_cases c5 : t409 = true
    · subst c5
      have H1 : ((impl_FormValid.f k l1).bind fun t410 => (if t410 = true then (if (l0.length : Int) = (l1.length : Int) then ((impl_FormDisc.f k l0).bind fun t411 => ((impl_FormDisc.f k l1).bind fun t412 => (impl_FormSame.j0 k l0 l1 (t411 != t412)))) else (impl_FormSame.j0 k l0 l1 true)) else (impl_FormSame.j0 k l0 l1 true))) = some r := by rw [if_pos rfl] at H; exact H
      clear H
      have H := H1
      clear H1
      replace H := Option.bind_eq_some_iff.mp H
      obtain ⟨t410, A60, H⟩ := H
      replace H : (if t410 = true then (if (l0.length : Int) = (l1.length : Int) then ((impl_FormDisc.f k l0).bind fun t411 => ((impl_FormDisc.f k l1).bind fun t412 => (impl_FormSame.j0 k l0 l1 (t411 != t412)))) else (impl_FormSame.j0 k l0 l1 true)) else (impl_FormSame.j0 k l0 l1 true)) = some r := H
      have A6 := Aside0.mk A60
      clear A60
      by_cases c7 : t410 = true
      · subst c7
        have H1 : (if (l0.length : Int) = (l1.length : Int) then ((impl_FormDisc.f k l0).bind fun t411 => ((impl_FormDisc.f k l1).bind fun t412 => (impl_FormSame.j0 k l0 l1 (t411 != t412)))) else (impl_FormSame.j0 k l0 l1 true)) = some r := by rw [if_pos rfl] at H; exact H
        clear H
        have H := H1
        clear H1
        by_cases c8 : (l0.length : Int) = (l1.length : Int)
        · rw [if_pos c8] at H
          have c8b0 : ((l0.length : Int) == (l1.length : Int)) = true := beq_iff_eq.mpr c8
          have c8b1 : ((l0.length : Int) != (l1.length : Int)) = false := bne_eq_false_iff_eq.mpr c8
          have c8b2 : (l0.length == l1.length) = true := by first | simpa using c8 | (simp at c8 ⊢; omega)
          clear c8
          (first | rw [c8b0] | (simp only [i64_w, i32_w]; rw [c8b0]) | skip)
          replace H := Option.bind_eq_some_iff.mp H
          obtain ⟨t411, A90, H⟩ := H
          replace H : ((impl_FormDisc.f k l1).bind fun t412 => (impl_FormSame.j0 k l0 l1 (t411 != t412))) = some r := H
          have A9 := Aside0.mk A90
          clear A90
          replace H := Option.bind_eq_some_iff.mp H
          obtain ⟨t412, A100, H⟩ := H
          replace H : (impl_FormSame.j0 k l0 l1 (t411 != t412)) = some r := H
          have A10 := Aside0.mk A100
          clear A100
          have H' := Aside0.mk H
          clear H
          go_wp2_with (first | ((with_reducible refine gate_callee (f := 20) rfl ?_); refine goesL_ (some 8) rfl rfl Try.func20 (by kernel_rfl) rfl #[.slice A0 l0.length c0] rfl Sqz.auM ?_; (with_reducible refine (impl_FormValid.calls k _ _ l0 true _ ?side1 ?side2 A4.out).mono ?_); (case side1 => exact Sqz.mvC ((Kd.C_below HR0.out HB.out))); (case side2 => exact HC0.out); rintro e w11 ⟨rfl, hb⟩; refine ⟨_, rfl, ?_⟩; have n0_ := Aside0.mk (below_step (Sqz.auHB) hb); clear HB; have HB := n0_; clear n0_; (try clear hb); (try clear hb2); (try clear hk); (try clear hi)) | (go_at_call 20; (with_reducible refine (impl_FormValid.calls k _ _ l1 true _ ?side1 ?side2 A6.out).mono ?_); (case side1 => exact Sqz.mvC ((Kd.C_below HR1.out HB.out))); (case side2 => exact HC1.out); rintro e w12 ⟨rfl, hb⟩; have n0_ := Aside0.mk (below_step (Sqz.auHB) hb); clear HB; have HB := n0_; clear n0_; (try clear hb); (try clear hb2); (try clear hk); (try clear hi)) | (go_at_call 110; (with_reducible refine (impl_FormDisc.calls k _ _ l0 t411 _ ?side1 ?side2 A9.out).mono ?_); (case side1 => exact Sqz.mvC ((Kd.C_below HR0.out HB.out))); (case side2 => exact HC0.out); rintro e w13 ⟨rfl, hb⟩; have n0_ := Aside0.mk (below_step (Sqz.auHB) hb); clear HB; have HB := n0_; clear n0_; (try clear hb); (try clear hb2); (try clear hk); (try clear hi)) | (go_at_call 110; (with_reducible refine (impl_FormDisc.calls k _ _ l1 t412 _ ?side1 ?side2 A10.out).mono ?_); (case side1 => exact Sqz.mvC ((Kd.C_below HR1.out HB.out))); (case side2 => exact HC1.out); rintro e w14 ⟨rfl, hb⟩; have n0_ := Aside0.mk (below_step (Sqz.auHB) hb); clear HB; have HB := n0_; clear n0_; (try clear hb); (try clear hb2); (try clear hk); (try clear hi)))
          go_meet
          case rel => exact ⟨_, ((t411 != t412)), Sqz.auS, H', ⟨Sqz.auN⟩, ⟨Sqz.auHB⟩⟩
        · rw [if_neg c8] at H
          have c8b0 : ((l0.length : Int) == (l1.length : Int)) = false := beq_eq_false_iff_ne.mpr c8
          have c8b1 : ((l0.length : Int) != (l1.length : Int)) = true := bne_iff_ne.mpr c8
          have c8b2 : (l0.length == l1.length) = false := by first | simpa using c8 | (simp at c8 ⊢; omega)
          (first | rw [c8b0] | (simp only [i64_w, i32_w]; rw [c8b0]) | skip)
          have H' := Aside0.mk H
          clear H
          go_wp2_with (first | ((with_reducible refine gate_callee (f := 20) rfl ?_); refine goesL_ (some 8) rfl rfl Try.func20 (by kernel_rfl) rfl #[.slice A0 l0.length c0] rfl Sqz.auM ?_; (with_reducible refine (impl_FormValid.calls k _ _ l0 true _ ?side1 ?side2 A4.out).mono ?_); (case side1 => exact Sqz.mvC ((Kd.C_below HR0.out HB.out))); (case side2 => exact HC0.out); rintro e w15 ⟨rfl, hb⟩; refine ⟨_, rfl, ?_⟩; have n0_ := Aside0.mk (below_step (Sqz.auHB) hb); clear HB; have HB := n0_; clear n0_; (try clear hb); (try clear hb2); (try clear hk); (try clear hi)) | (go_at_call 20; (with_reducible refine (impl_FormValid.calls k _ _ l1 true _ ?side1 ?side2 A6.out).mono ?_); (case side1 => exact Sqz.mvC ((Kd.C_below HR1.out HB.out))); (case side2 => exact HC1.out); rintro e w16 ⟨rfl, hb⟩; have n0_ := Aside0.mk (below_step (Sqz.auHB) hb); clear HB; have HB := n0_; clear n0_; (try clear hb); (try clear hb2); (try clear hk); (try clear hi)))
          go_meet
          case rel => exact ⟨_, (true), Sqz.auS, H', ⟨Sqz.auN⟩, ⟨Sqz.auHB⟩⟩
      · replace c7 := Bool.eq_false_iff.mpr c7
        subst c7
        have H1 : (impl_FormSame.j0 k l0 l1 true) = some r := by rw [if_neg (show ¬ (false = true) by decide)] at H; exact H
        clear H
        have H := H1
        clear H1
        have H' := Aside0.mk H
        clear H
        go_wp2_with (first | ((with_reducible refine gate_callee (f := 20) rfl ?_); refine goesL_ (some 8) rfl rfl Try.func20 (by kernel_rfl) rfl #[.slice A0 l0.length c0] rfl Sqz.auM ?_; (with_reducible refine (impl_FormValid.calls k _ _ l0 true _ ?side1 ?side2 A4.out).mono ?_); (case side1 => exact Sqz.mvC ((Kd.C_below HR0.out HB.out))); (case side2 => exact HC0.out); rintro e w17 ⟨rfl, hb⟩; refine ⟨_, rfl, ?_⟩; have n0_ := Aside0.mk (below_step (Sqz.auHB) hb); clear HB; have HB := n0_; clear n0_; (try clear hb); (try clear hb2); (try clear hk); (try clear hi)) | (go_at_call 20; (with_reducible refine (impl_FormValid.calls k _ _ l1 false _ ?side1 ?side2 A6.out).mono ?_); (case side1 => exact Sqz.mvC ((Kd.C_below HR1.out HB.out))); (case side2 => exact HC1.out); rintro e w18 ⟨rfl, hb⟩; have n0_ := Aside0.mk (below_step (Sqz.auHB) hb); clear HB; have HB := n0_; clear n0_; (try clear hb); (try clear hb2); (try clear hk); (try clear hi)))
        go_meet
        case rel => exact ⟨_, (true), Sqz.auS, H', ⟨Sqz.auN⟩, ⟨Sqz.auHB⟩⟩
    · replace c5 := Bool.eq_false_iff.mpr c5
      subst c5
      have H1 : (impl_FormSame.j0 k l0 l1 true) = some r := by rw [if_neg (show ¬ (false = true) by decide)] at H; exact H
      clear H
      have H := H1
      clear H1
      have H' := Aside0.mk H
      clear H
      go_wp2_with (first | ((with_reducible refine gate_callee (f := 20) rfl ?_); refine goesL_ (some 8) rfl rfl Try.func20 (by kernel_rfl) rfl #[.slice A0 l0.length c0] rfl Sqz.auM ?_; (with_reducible refine (impl_FormValid.calls k _ _ l0 false _ ?side1 ?side2 A4.out).mono ?_); (case side1 => exact Sqz.mvC ((Kd.C_below HR0.out HB.out))); (case side2 => exact HC0.out); rintro e w19 ⟨rfl, hb⟩; refine ⟨_, rfl, ?_⟩; have n0_ := Aside0.mk (below_step (Sqz.auHB) hb); clear HB; have HB := n0_; clear n0_; (try clear hb); (try clear hb2); (try clear hk); (try clear hi)))
      go_meet
      case rel => exact ⟨_, (true), Sqz.auS, H', ⟨Sqz.auN⟩, ⟨Sqz.auHB⟩⟩
  case rest =>
    clear HC3
    try clear c1
    try clear c2
    try clear p2
    try clear c5
    try clear c7
    try clear c8
    try clear c8b0
    try clear c8b1
    try clear c8b2
    obtain ⟨kq, x28_2, rfl, HA, HJ2, HB⟩ := hcut
    cases kq with
    | zero => exact absurd HA.out (by simp [impl_FormSame.j0])
    | succ kj2 =>
      have H := HA.out
      clear HA
      simp only [impl_FormSame.j0] at H
      by_cases c20 : x28_2 = true
      · subst c20
        have H1 : (some false) = some r := by rw [if_pos rfl] at H; exact H
        clear H
        have H := H1
        clear H1
        obtain rfl := Option.some.inj H
        go_wp2
        go_ret
        exact ⟨Sqz.auR, Sqz.auHB⟩
      · replace c20 := Bool.eq_false_iff.mpr c20
        subst c20
        have H1 : ((slices_Clone_int_int.f l0).bind fun t413 => (if t413.length + l1.length < 17592186044416 then ((impl_placesOf.f kj2 (t413 ++ l1)).bind fun t419 => (impl_FormSame.l0 kj2 l0 l1 t419 (t419.length : Int) 0)) else (none))) = some r := by rw [if_neg (show ¬ (false = true) by decide)] at H; exact H
        clear H
        have H := H1
        clear H1
        replace H := Option.bind_eq_some_iff.mp H
        obtain ⟨t413, A210, H⟩ := H
        replace H : (if t413.length + l1.length < 17592186044416 then ((impl_placesOf.f kj2 (t413 ++ l1)).bind fun t419 => (impl_FormSame.l0 kj2 l0 l1 t419 (t419.length : Int) 0)) else (none)) = some r := H
        have A21 := Aside0.mk A210
        clear A210
        by_cases c22 : t413.length + l1.length < 17592186044416
        · rw [if_pos c22] at H
          have LMc22 := Aside0.mk c22
          clear c22
          obtain ⟨y416, hy416⟩ : ∃ y_ : List Int, y_ = (t413 ++ l1) := ⟨_, rfl⟩
          replace H : ((impl_placesOf.f kj2 y416).bind fun t419 => (impl_FormSame.l0 kj2 l0 l1 t419 (t419.length : Int) 0)) = some r := by first | (rw [hy416]; with_reducible exact H) | (have H2_ := (Option.bind_some _ _).symm.trans H; rw [hy416]; with_reducible exact H2_) | (have H2_ := (Option.bind_some _ _).symm.trans H; with_reducible exact H2_) | with_reducible exact H | (rw [hy416]; exact H) | exact H
          have Ny416 := Aside0.mk hy416
          clear hy416
          replace H := Option.bind_eq_some_iff.mp H
          obtain ⟨t419, A230, H⟩ := H
          replace H : (impl_FormSame.l0 kj2 l0 l1 t419 (t419.length : Int) 0) = some r := H
          have A23 := Aside0.mk A230
          clear A230
          have H' := Aside0.mk H
          clear H
          go_wp2_with (first | ((with_reducible refine gate_callee (f := 81) rfl ?_); refine goesL_ (some 30) rfl rfl Try.func81 (by kernel_rfl) rfl #[.slice A0 l0.length c0] rfl Sqz.auM ?_; (with_reducible refine (slices_Clone_int_int.calls _ _ l0 t413 _ ?side1 ?side2 A21.out).mono ?_); (case side1 => exact Sqz.mvC ((Kd.C_below HR0.out HB.out))); (case side2 => exact HC0.out); rintro e w24 ⟨v414, rfl, ho0, hb⟩; refine ⟨_, rfl, ?_⟩; have n0_ := Aside0.mk (Kd.R_lower ho0 (below_size (Sqz.auHB))); have n1_ := Aside0.mk (below_step (Sqz.auHB) hb); clear HB; have HO415 := n0_; have HB := n1_; clear n0_ n1_; (try clear hb); (try clear hb2); (try clear hk); (try clear hi); (try clear ho0)) | ((with_reducible refine gate_builtin (b := .append) (xs := #[.tmp 30, .tmp 31]) rfl ?_); (try (refine gate_guard (by rfl) ?_; dsimp only)); at_builtin; refine Kd.R_append_rows (Kd.int .i64) (w0 := w) w.heap.size rfl (.tmp 30) (.tmp 31) 25 3 (.int .i64 0) 8 rfl Try.underlying25 info3 rfl (by decide) (by omega) v414 t413 l1 _ _ _ (fun _ => True) (fun _ => False) rfl rfl ?aO ?aR (fun _ _ h => h) (fun _ h => h.elim) ?aF ?aB ?aS ?aL ?_; (case aR => exact Sqz.mvC ((Kd.C_below HR1.out HB.out))); (case aB => exact (Sqz.auHB)); (case aF => exact (fun _ _ => trivial)); (case aO => exact ((Sqz.mvR HO415.out))); (case aS => exact (below_size (Sqz.auHB))); (case aL => have := LMc22.out; omega); intro v417 w25 ho hb hg hat; rw [← Ny416.out] at ho; have n0_ := Aside0.mk (hb); have n1_ := Aside0.mk (ho); clear HB; clear HO415; have HB := n0_; have HO418 := n1_; clear n0_ n1_; clear ho hb hg hat; obtain ⟨Ao26, co26, eo26⟩ := Kd.R_slice HO418.out; subst eo26) | ((with_reducible refine gate_callee (f := 101) rfl ?_); refine goesL_ (some 33) rfl rfl Try.func101 (by kernel_rfl) rfl #[.slice Ao26 y416.length co26] rfl Sqz.auM ?_; (with_reducible refine (impl_placesOf.calls kj2 _ _ y416 t419 _ ?side1 ?side2 A23.out).mono ?_); (case side1 => exact Sqz.mvC ((Kd.R_reads' HO418.out).2.2)); (case side2 => exact (Kd.R_reads' HO418.out).2.1); rintro e w27 ⟨v420, rfl, ho0, hb⟩; refine ⟨_, rfl, ?_⟩; have n0_ := Aside0.mk (Kd.R_elder' ((Sqz.mvR HO418.out)) (Kd.R_base ho0) hb); have n1_ := Aside0.mk (Kd.R_lower (Kd.R_new' ho0 (Kd.R_lt ((Sqz.mvR HO418.out)))) (below_size (Sqz.auHB))); have n2_ := Aside0.mk (below_step (Sqz.auHB) hb); clear HO418; clear HB; have HO418 := n0_; have HO421 := n1_; have HB := n2_; clear n0_ n1_ n2_; (try clear hb); (try clear hb2); (try clear hk); (try clear hi); (try clear ho0); obtain ⟨Ao28, co28, eo28⟩ := Kd.R_slice HO421.out; subst eo28))
          go_loopg [35] kj2 (fun kq v35 w' => ∃ (x35_2 : Int), v35 = .int .i64 x35_2 ∧ Aside0 (impl_FormSame.l0 kq l0 l1 t419 (t419.length : Int) x35_2 = some r) ∧ Aside0 (kq ≤ kj2) ∧ Aside0 (Kd.R (Kd.int .i64) 3 w' w.heap.size (fun _ => True) (.slice Ao28 t419.length co28) t419) ∧ Aside0 (Below w.heap.size w w'))
          case atStart => exact ⟨(0), Sqz.auS, H', ⟨Nat.le_refl _⟩, ⟨(Sqz.mvR (Kd.R_mono HO421.out (fun _ hk => trivial)))⟩, ⟨Sqz.auHB⟩⟩
          case round =>
            clear H'
            try clear c1
            try clear c2
            try clear p2
            try clear c5
            try clear c7
            try clear c8
            try clear c8b0
            try clear c8b1
            try clear c8b2
            try clear c10
            try clear c20
            try clear c22
            try clear p2
            obtain ⟨x35_2, rfl, HA, HK2, HO_33, HB⟩ := hrel
            cases gk with
            | zero => exact absurd HA.out (by simp [impl_FormSame.l0])
            | succ k2 =>
              have H := HA.out
              clear HA
              simp only [impl_FormSame.l0] at H
              by_cases c29 : x35_2 < (t419.length : Int)
              · rw [if_pos c29] at H
                have c29b0 : decide (x35_2 < (t419.length : Int)) = true := decide_eq_true c29
                clear c29
                by_cases c30 : 0 ≤ x35_2
                · rw [if_pos c30] at H
                  have c30b0 : decide (0 ≤ x35_2) = true := decide_eq_true c30
                  clear c30
                  by_cases c31 : x35_2 < (t419.length : Int)
                  · rw [if_pos c31] at H
                    have c31b0 : decide (x35_2 < (t419.length : Int)) = true := decide_eq_true c31
                    clear c31
                    replace H := Option.bind_eq_some_iff.mp H
                    obtain ⟨t423, A320, H⟩ := H
                    replace H : (if t423 = true then (impl_FormSame.l0 k2 l0 l1 t419 (t419.length : Int) (wrap64 (x35_2 + 1))) else (some false)) = some r := H
                    have A32 := Aside0.mk A320
                    clear A320
                    by_cases c33 : t423 = true
                    · subst c33
                      have H1 : (impl_FormSame.l0 k2 l0 l1 t419 (t419.length : Int) (wrap64 (x35_2 + 1))) = some r := by rw [if_pos rfl] at H; exact H
                      clear H
                      have H := H1
                      clear H1
                      have H' := Aside0.mk H
                      clear H
                      have p422 : 0 ≤ (x35_2 : Int) := of_decide_eq_true (by first | (with_reducible assumption) | assumption)
                      have q422 : x35_2 < (t419.length : Int) := of_decide_eq_true (by first | (with_reducible assumption) | assumption)
                      obtain ⟨ad422, e422, hx422_0⟩ := Kd.at_int (Kd.R_reads' HO_33.out).2.2 x35_2 p422 q422
                      cases e422
                      replace p422 := eq_true p422
                      replace q422 := eq_true q422
                      go_wp2_with (first | ((with_reducible refine gate_callee (f := 77) rfl ?_); refine goesL_ (some 42) rfl rfl Try.func77 (by kernel_rfl) rfl #[.slice A0 l0.length c0, .slice A1 l1.length c1, .int .i64 (rd t419 x35_2)] rfl Sqz.auM ?_; (with_reducible refine (impl_alike.calls k2 _ _ l0 _ _ l1 (rd t419 x35_2) true _ ?side1 ?side2 ?side3 ?side4 A32.out).mono ?_); (case side1 => exact Sqz.mvC ((Kd.C_below HR0.out HB.out))); (case side2 => exact HC0.out); (case side3 => exact Sqz.mvC ((Kd.C_below HR1.out HB.out))); (case side4 => exact HC1.out); rintro e w' ⟨rfl, ⟨nd, rfl⟩⟩; refine ⟨_, rfl, ?_⟩))
                      go_roundg k2
                      case measure => have := HJ2.out; have := HK2.out; omega
                      case rel => exact ⟨(wrap64 (x35_2 + 1)), Sqz.auS, H', ⟨by have := HJ2.out; have := HK2.out; omega⟩, ⟨(Sqz.mvR HO_33.out)⟩, ⟨Sqz.auHB⟩⟩
                    · replace c33 := Bool.eq_false_iff.mpr c33
                      subst c33
                      have H1 : (some false) = some r := by rw [if_neg (show ¬ (false = true) by decide)] at H; exact H
                      clear H
                      have H := H1
                      clear H1
                      obtain rfl := Option.some.inj H
                      have p422 : 0 ≤ (x35_2 : Int) := of_decide_eq_true (by first | (with_reducible assumption) | assumption)
                      have q422 : x35_2 < (t419.length : Int) := of_decide_eq_true (by first | (with_reducible assumption) | assumption)
                      obtain ⟨ad422, e422, hx422_0⟩ := Kd.at_int (Kd.R_reads' HO_33.out).2.2 x35_2 p422 q422
                      cases e422
                      replace p422 := eq_true p422
                      replace q422 := eq_true q422
                      go_wp2_with (first | ((with_reducible refine gate_callee (f := 77) rfl ?_); refine goesL_ (some 42) rfl rfl Try.func77 (by kernel_rfl) rfl #[.slice A0 l0.length c0, .slice A1 l1.length c1, .int .i64 (rd t419 x35_2)] rfl Sqz.auM ?_; (with_reducible refine (impl_alike.calls k2 _ _ l0 _ _ l1 (rd t419 x35_2) false _ ?side1 ?side2 ?side3 ?side4 A32.out).mono ?_); (case side1 => exact Sqz.mvC ((Kd.C_below HR0.out HB.out))); (case side2 => exact HC0.out); (case side3 => exact Sqz.mvC ((Kd.C_below HR1.out HB.out))); (case side4 => exact HC1.out); rintro e w' ⟨rfl, ⟨nd, rfl⟩⟩; refine ⟨_, rfl, ?_⟩))
                      go_ret
                      exact ⟨Sqz.auR, Sqz.auHB⟩
                  · rw [if_neg c31] at H
                    exact absurd H (by simp)
                · rw [if_neg c30] at H
                  exact absurd H (by simp)
              · rw [if_neg c29] at H
                have c29b0 : decide (x35_2 < (t419.length : Int)) = false := decide_eq_false c29
                clear c29
                obtain rfl := Option.some.inj H
                go_wp2
                go_ret
                exact ⟨Sqz.auR, Sqz.auHB⟩
        · rw [if_neg c22] at H
          exact absurd H (by simp)

/-! ### laws_FnWitt: function 12 -/
def laws_FnWitt.j0 : Nat → List Int → List Int → Bool → Bool → Bool → Option (Bool)
  | 0, _, _, _, _, _ => none
  | k + 1, x3, x4, x5, x6, x27 => if x27 = true then (some (x5 == x6)) else ((impl_WittSame.f k x4 x3).bind fun t432 => (if t432 = true then (if (Int.tmod (wrap64 ((x3.length : Int) + (x4.length : Int))) 2) = 0 then (if (x3.length : Int) = (x4.length : Int) then ((impl_FormSame.f k x3 x4).bind fun t433 => (some t433)) else (some true)) else (some false)) else (some false)))
def laws_FnWitt.f (k : Nat) (l0 : List Int) : Option (Bool) := if (l0.length : Int) > 1048576 then (some true) else ((spec_DrawWittSame.f k l0).bind fun bt424 => ((impl_WittSame.f k bt424.1 bt424.2).bind fun t430 => ((spec_WittSame.f k bt424.1 bt424.2).bind fun t431 => (if (t430 != t431) = true then (laws_FnWitt.j0 k bt424.1 bt424.2 t430 t431 true) else (laws_FnWitt.j0 k bt424.1 bt424.2 t430 t431 (!t430))))))
set_option maxHeartbeats 8000000 in
set_option maxRecDepth 100000 in
theorem laws_FnWitt.calls (k : Nat) (A0 : Option Addr) (c0 : Nat) (l0 : List Int) (r : Bool) (w : World) (hr0 : Kd.C (Kd.int .u8) w A0 l0.length l0) (hc0 : l0.length ≤ c0) (h : laws_FnWitt.f k l0 = some r) :
    Calls Try.prog 12 #[.slice A0 l0.length c0] w fun e w' => e = .returned (.bool r) ∧ Below w.heap.size w w' := by
  have HR0 := Aside0.mk hr0
  have HC0 := Aside0.mk hc0
  clear hr0 hc0
  have HB := Aside0.mk (Below.refl w.heap.size w)
  have H : (if (l0.length : Int) > 1048576 then (some true) else ((spec_DrawWittSame.f k l0).bind fun bt424 => ((impl_WittSame.f k bt424.1 bt424.2).bind fun t430 => ((spec_WittSame.f k bt424.1 bt424.2).bind fun t431 => (if (t430 != t431) = true then (laws_FnWitt.j0 k bt424.1 bt424.2 t430 t431 true) else (laws_FnWitt.j0 k bt424.1 bt424.2 t430 t431 (!t430))))))) = some r := h
  clear h
  by_cases c2 : (l0.length : Int) > 1048576
  · rw [if_pos c2] at H
    have c2b0 : decide (1048576 < (l0.length : Int)) = true := decide_eq_true c2
    have c2b1 : decide (1048576 < l0.length) = true := decide_eq_true (by omega)
    clear c2
    obtain rfl := Option.some.inj H
    go_enter Try.func12, Try.ntmps12
    go_wp2
    go_ret
    exact ⟨Sqz.auR, Sqz.auHB⟩
  · rw [if_neg c2] at H
    have c2b0 : decide (1048576 < (l0.length : Int)) = false := decide_eq_false c2
    have c2b1 : decide (1048576 < l0.length) = false := decide_eq_false (by omega)
    clear c2
    replace H := Option.bind_eq_some_iff.mp H
    obtain ⟨⟨t424, t425⟩, A30, H⟩ := H
    replace H : ((impl_WittSame.f k t424 t425).bind fun t430 => ((spec_WittSame.f k t424 t425).bind fun t431 => (if (t430 != t431) = true then (laws_FnWitt.j0 k t424 t425 t430 t431 true) else (laws_FnWitt.j0 k t424 t425 t430 t431 (!t430))))) = some r := H
    have A3 := Aside0.mk A30
    clear A30
    replace H := Option.bind_eq_some_iff.mp H
    obtain ⟨t430, A40, H⟩ := H
    replace H : ((spec_WittSame.f k t424 t425).bind fun t431 => (if (t430 != t431) = true then (laws_FnWitt.j0 k t424 t425 t430 t431 true) else (laws_FnWitt.j0 k t424 t425 t430 t431 (!t430)))) = some r := H
    have A4 := Aside0.mk A40
    clear A40
    replace H := Option.bind_eq_some_iff.mp H
    obtain ⟨t431, A50, H⟩ := H
    replace H : (if (t430 != t431) = true then (laws_FnWitt.j0 k t424 t425 t430 t431 true) else (laws_FnWitt.j0 k t424 t425 t430 t431 (!t430))) = some r := H
    have A5 := Aside0.mk A50
    clear A50
    have HC6 := Aside0.mk H
    clear H
    go_enter Try.func12, Try.ntmps12
    go_upto_region 6 with (first | ((with_reducible refine gate_callee (f := 54) rfl ?_); refine goesL_ (some 12) rfl rfl Try.func54 (by kernel_rfl) rfl #[.slice A0 l0.length c0] rfl Sqz.auM ?_; (with_reducible refine (spec_DrawWittSame.calls k _ _ l0 t424 t425 _ ?side1 ?side2 A3.out).mono ?_); (case side1 => exact Sqz.mvC (HR0.out)); (case side2 => exact HC0.out); rintro e w7 ⟨v426, v428, rfl, ho0, ho1, hb⟩; refine ⟨_, rfl, ?_⟩; have n0_ := Aside0.mk (Kd.R_lower ho0 (below_size (Sqz.auHB))); have n1_ := Aside0.mk (Kd.R_lower ho1 (below_size (Sqz.auHB))); have n2_ := Aside0.mk (below_step (Sqz.auHB) hb); clear HB; have HO427 := n0_; have HO429 := n1_; have HB := n2_; clear n0_ n1_ n2_; (try clear hb); (try clear hb2); (try clear hk); (try clear hi); (try clear ho0); (try clear ho1); obtain ⟨Ao8, co8, eo8⟩ := Kd.R_slice HO427.out; subst eo8; obtain ⟨Ao9, co9, eo9⟩ := Kd.R_slice HO429.out; subst eo9) | ((with_reducible refine gate_callee (f := 55) rfl ?_); refine goesL_ (some 17) rfl rfl Try.func55 (by kernel_rfl) rfl #[.slice Ao8 t424.length co8, .slice Ao9 t425.length co9] rfl Sqz.auM ?_; (with_reducible refine (impl_WittSame.calls k _ _ t424 _ _ t425 t430 _ ?side1 ?side2 ?side3 ?side4 A4.out).mono ?_); (case side1 => exact Sqz.mvC ((Kd.R_reads' HO427.out).2.2)); (case side2 => exact (Kd.R_reads' HO427.out).2.1); (case side3 => exact Sqz.mvC ((Kd.R_reads' HO429.out).2.2)); (case side4 => exact (Kd.R_reads' HO429.out).2.1); rintro e w10 ⟨rfl, hb⟩; refine ⟨_, rfl, ?_⟩; have n0_ := Aside0.mk (Kd.R_below ((Sqz.mvR HO427.out)) hb); have n1_ := Aside0.mk (Kd.R_below ((Sqz.mvR HO429.out)) hb); have n2_ := Aside0.mk (below_step (Sqz.auHB) hb); clear HO427; clear HO429; clear HB; have HO427 := n0_; have HO429 := n1_; have HB := n2_; clear n0_ n1_ n2_; (try clear hb); (try clear hb2); (try clear hk); (try clear hi)) | ((with_reducible refine gate_callee (f := 56) rfl ?_); refine goesL_ (some 20) rfl rfl Try.func56 (by kernel_rfl) rfl #[.slice Ao8 t424.length co8, .slice Ao9 t425.length co9] rfl Sqz.auM ?_; (with_reducible refine (spec_WittSame.calls k _ _ t424 _ _ t425 t431 _ ?side1 ?side2 ?side3 ?side4 A5.out).mono ?_); (case side1 => exact Sqz.mvC ((Kd.R_reads' HO427.out).2.2)); (case side2 => exact (Kd.R_reads' HO427.out).2.1); (case side3 => exact Sqz.mvC ((Kd.R_reads' HO429.out).2.2)); (case side4 => exact (Kd.R_reads' HO429.out).2.1); rintro e w11 ⟨rfl, hb⟩; refine ⟨_, rfl, ?_⟩; have n0_ := Aside0.mk (Kd.R_below ((Sqz.mvR HO427.out)) hb); have n1_ := Aside0.mk (Kd.R_below ((Sqz.mvR HO429.out)) hb); have n2_ := Aside0.mk (below_step (Sqz.auHB) hb); clear HO427; clear HO429; clear HB; have HO427 := n0_; have HO429 := n1_; have HB := n2_; clear n0_ n1_ n2_; (try clear hb); (try clear hb2); (try clear hk); (try clear hi)))
    (try simp only [Act.put, List.setIfInBounds_toArray, List.set_cons_zero, List.set_cons_succ])
    go_cut [27] (fun v27 wc => ∃ (kq : Nat) (x27_5 : Bool), v27 = .bool x27_5 ∧ Aside0 (laws_FnWitt.j0 kq t424 t425 t430 t431 x27_5 = some r) ∧ Aside0 (kq ≤ k) ∧ Aside0 (Kd.R (Kd.int .i64) 3 wc w.heap.size (fun k_ => some k_ ≠ ((.slice Ao9 t425.length co9) : Value).ownBlock) (.slice Ao8 t424.length co8) t424) ∧ Aside0 (Kd.R (Kd.int .i64) 3 wc w.heap.size (fun k_ => some k_ ≠ ((.slice Ao8 t424.length co8) : Value).ownBlock) (.slice Ao9 t425.length co9) t425) ∧ Aside0 (Below w.heap.size w wc))
    case first =>
      have H := HC6.out
      clear HC6
      by_cases c12 : (t430 != t431) = true
      · rw [if_pos c12] at H
        have c12b0 : (t430 != t431) = true := c12
        (try (have c12b1 : decide (t430 = t431) = false := by simpa using c12))
        (try (have c12b2 : (t430 == t431) = false := by simpa using c12))
        (try (have c12b3 : ¬ (t430 = t431) := by simpa using c12))
        clear c12
        (first | rw [c12b0] | (simp only [i64_w, i32_w]; rw [c12b0]) | skip)
        have H' := Aside0.mk H
        clear H
        go_wp2
        go_meet
        case rel => exact ⟨_, (true), Sqz.auS, H', ⟨Sqz.auN⟩, ⟨(Sqz.mvR HO427.out)⟩, ⟨(Sqz.mvR HO429.out)⟩, ⟨Sqz.auHB⟩⟩
      · rw [if_neg c12] at H
        have c12b0 : (t430 != t431) = false := by simpa using c12
        (try (have c12b1 : decide (t430 = t431) = true := by simpa using c12))
        (try (have c12b2 : (t430 == t431) = true := by simpa using c12))
        clear c12
        (first | rw [c12b0] | (simp only [i64_w, i32_w]; rw [c12b0]) | skip)
        have H' := Aside0.mk H
        clear H
        go_wp2
        go_meet
        case rel => exact ⟨_, (!t430), Sqz.auS, H', ⟨Sqz.auN⟩, ⟨(Sqz.mvR HO427.out)⟩, ⟨(Sqz.mvR HO429.out)⟩, ⟨Sqz.auHB⟩⟩
    case rest =>
      clear HC6
      try clear c1
      try clear c2
      try clear c2b0
      try clear c2b1
      try clear p2
      try clear c5
      try clear c12
      try clear c12b0
      try clear c12b1
      try clear c12b2
      obtain ⟨kq, x27_5, rfl, HA, HJ5, HO_3, HO_4, HB⟩ := hcut
      cases kq with
      | zero => exact absurd HA.out (by simp [laws_FnWitt.j0])
      | succ kj5 =>
        have H := HA.out
        clear HA
        simp only [laws_FnWitt.j0] at H
        by_cases c13 : x27_5 = true
        · subst c13
          have H1 : (some (t430 == t431)) = some r := by rw [if_pos rfl] at H; exact H
          clear H
          have H := H1
          clear H1
          obtain rfl := Option.some.inj H
          go_wp2
          go_ret
          exact ⟨Sqz.auR, Sqz.auHB⟩
        · replace c13 := Bool.eq_false_iff.mpr c13
          subst c13
          have H1 : ((impl_WittSame.f kj5 t425 t424).bind fun t432 => (if t432 = true then (if (Int.tmod (wrap64 ((t424.length : Int) + (t425.length : Int))) 2) = 0 then (if (t424.length : Int) = (t425.length : Int) then ((impl_FormSame.f kj5 t424 t425).bind fun t433 => (some t433)) else (some true)) else (some false)) else (some false))) = some r := by rw [if_neg (show ¬ (false = true) by decide)] at H; exact H
          clear H
          have H := H1
          clear H1
          replace H := Option.bind_eq_some_iff.mp H
          obtain ⟨t432, A140, H⟩ := H
          replace H : (if t432 = true then (if (Int.tmod (wrap64 ((t424.length : Int) + (t425.length : Int))) 2) = 0 then (if (t424.length : Int) = (t425.length : Int) then ((impl_FormSame.f kj5 t424 t425).bind fun t433 => (some t433)) else (some true)) else (some false)) else (some false)) = some r := H
          have A14 := Aside0.mk A140
          clear A140
          by_cases c15 : t432 = true
          · subst c15
            have H1 : (if (Int.tmod (wrap64 ((t424.length : Int) + (t425.length : Int))) 2) = 0 then (if (t424.length : Int) = (t425.length : Int) then ((impl_FormSame.f kj5 t424 t425).bind fun t433 => (some t433)) else (some true)) else (some false)) = some r := by rw [if_pos rfl] at H; exact H
            clear H
            have H := H1
            clear H1
            by_cases c16 : (Int.tmod (wrap64 ((t424.length : Int) + (t425.length : Int))) 2) = 0
            · rw [if_pos c16] at H
              have c16b0 : ((Int.tmod (wrap64 ((t424.length : Int) + (t425.length : Int))) 2) == 0) = true := beq_iff_eq.mpr c16
              have c16b1 : ((Int.tmod (wrap64 ((t424.length : Int) + (t425.length : Int))) 2) != 0) = false := bne_eq_false_iff_eq.mpr c16
              clear c16
              by_cases c17 : (t424.length : Int) = (t425.length : Int)
              · rw [if_pos c17] at H
                have c17b0 : ((t424.length : Int) == (t425.length : Int)) = true := beq_iff_eq.mpr c17
                have c17b1 : ((t424.length : Int) != (t425.length : Int)) = false := bne_eq_false_iff_eq.mpr c17
                have c17b2 : (t424.length == t425.length) = true := by first | simpa using c17 | (simp at c17 ⊢; omega)
                clear c17
                replace H := Option.bind_eq_some_iff.mp H
                obtain ⟨t433, A180, H⟩ := H
                replace H : (some t433) = some r := H
                have A18 := Aside0.mk A180
                clear A180
                obtain rfl := Option.some.inj H
                go_wp2_with (first | ((with_reducible refine gate_callee (f := 55) rfl ?_); refine goesL_ (some 33) rfl rfl Try.func55 (by kernel_rfl) rfl #[.slice Ao9 t425.length co9, .slice Ao8 t424.length co8] rfl Sqz.auM ?_; (with_reducible refine (impl_WittSame.calls kj5 _ _ t425 _ _ t424 true _ ?side1 ?side2 ?side3 ?side4 A14.out).mono ?_); (case side1 => exact Sqz.mvC ((Kd.R_reads' HO_4.out).2.2)); (case side2 => exact (Kd.R_reads' HO_4.out).2.1); (case side3 => exact Sqz.mvC ((Kd.R_reads' HO_3.out).2.2)); (case side4 => exact (Kd.R_reads' HO_3.out).2.1); rintro e w19 ⟨rfl, hb⟩; refine ⟨_, rfl, ?_⟩; have n0_ := Aside0.mk (Kd.R_below ((Sqz.mvR HO_3.out)) hb); have n1_ := Aside0.mk (Kd.R_below ((Sqz.mvR HO_4.out)) hb); have n2_ := Aside0.mk (below_step (Sqz.auHB) hb); clear HO_3; clear HO_4; clear HB; have HO_3 := n0_; have HO_4 := n1_; have HB := n2_; clear n0_ n1_ n2_; (try clear hb); (try clear hb2); (try clear hk); (try clear hi)) | (go_at_call 57; (with_reducible refine (impl_FormSame.calls kj5 _ _ t424 _ _ t425 t433 _ ?side1 ?side2 ?side3 ?side4 A18.out).mono ?_); (case side1 => exact Sqz.mvC ((Kd.R_reads' HO_3.out).2.2)); (case side2 => exact (Kd.R_reads' HO_3.out).2.1); (case side3 => exact Sqz.mvC ((Kd.R_reads' HO_4.out).2.2)); (case side4 => exact (Kd.R_reads' HO_4.out).2.1); rintro e w20 ⟨rfl, hb⟩; have n0_ := Aside0.mk (Kd.R_below ((Sqz.mvR HO_3.out)) hb); have n1_ := Aside0.mk (Kd.R_below ((Sqz.mvR HO_4.out)) hb); have n2_ := Aside0.mk (below_step (Sqz.auHB) hb); clear HO_3; clear HO_4; clear HB; have HO_3 := n0_; have HO_4 := n1_; have HB := n2_; clear n0_ n1_ n2_; (try clear hb); (try clear hb2); (try clear hk); (try clear hi)))
                go_ret
                exact ⟨Sqz.auR, Sqz.auHB⟩
              · rw [if_neg c17] at H
                have c17b0 : ((t424.length : Int) == (t425.length : Int)) = false := beq_eq_false_iff_ne.mpr c17
                have c17b1 : ((t424.length : Int) != (t425.length : Int)) = true := bne_iff_ne.mpr c17
                have c17b2 : (t424.length == t425.length) = false := by first | simpa using c17 | (simp at c17 ⊢; omega)
                obtain rfl := Option.some.inj H
                go_wp2_with (first | ((with_reducible refine gate_callee (f := 55) rfl ?_); refine goesL_ (some 33) rfl rfl Try.func55 (by kernel_rfl) rfl #[.slice Ao9 t425.length co9, .slice Ao8 t424.length co8] rfl Sqz.auM ?_; (with_reducible refine (impl_WittSame.calls kj5 _ _ t425 _ _ t424 true _ ?side1 ?side2 ?side3 ?side4 A14.out).mono ?_); (case side1 => exact Sqz.mvC ((Kd.R_reads' HO_4.out).2.2)); (case side2 => exact (Kd.R_reads' HO_4.out).2.1); (case side3 => exact Sqz.mvC ((Kd.R_reads' HO_3.out).2.2)); (case side4 => exact (Kd.R_reads' HO_3.out).2.1); rintro e w21 ⟨rfl, hb⟩; refine ⟨_, rfl, ?_⟩; have n0_ := Aside0.mk (Kd.R_below ((Sqz.mvR HO_3.out)) hb); have n1_ := Aside0.mk (Kd.R_below ((Sqz.mvR HO_4.out)) hb); have n2_ := Aside0.mk (below_step (Sqz.auHB) hb); clear HO_3; clear HO_4; clear HB; have HO_3 := n0_; have HO_4 := n1_; have HB := n2_; clear n0_ n1_ n2_; (try clear hb); (try clear hb2); (try clear hk); (try clear hi)))
                go_ret
                exact ⟨Sqz.auR, Sqz.auHB⟩
            · rw [if_neg c16] at H
              have c16b0 : ((Int.tmod (wrap64 ((t424.length : Int) + (t425.length : Int))) 2) == 0) = false := beq_eq_false_iff_ne.mpr c16
              have c16b1 : ((Int.tmod (wrap64 ((t424.length : Int) + (t425.length : Int))) 2) != 0) = true := bne_iff_ne.mpr c16
              obtain rfl := Option.some.inj H
              go_wp2_with (first | ((with_reducible refine gate_callee (f := 55) rfl ?_); refine goesL_ (some 33) rfl rfl Try.func55 (by kernel_rfl) rfl #[.slice Ao9 t425.length co9, .slice Ao8 t424.length co8] rfl Sqz.auM ?_; (with_reducible refine (impl_WittSame.calls kj5 _ _ t425 _ _ t424 true _ ?side1 ?side2 ?side3 ?side4 A14.out).mono ?_); (case side1 => exact Sqz.mvC ((Kd.R_reads' HO_4.out).2.2)); (case side2 => exact (Kd.R_reads' HO_4.out).2.1); (case side3 => exact Sqz.mvC ((Kd.R_reads' HO_3.out).2.2)); (case side4 => exact (Kd.R_reads' HO_3.out).2.1); rintro e w22 ⟨rfl, hb⟩; refine ⟨_, rfl, ?_⟩; have n0_ := Aside0.mk (Kd.R_below ((Sqz.mvR HO_3.out)) hb); have n1_ := Aside0.mk (Kd.R_below ((Sqz.mvR HO_4.out)) hb); have n2_ := Aside0.mk (below_step (Sqz.auHB) hb); clear HO_3; clear HO_4; clear HB; have HO_3 := n0_; have HO_4 := n1_; have HB := n2_; clear n0_ n1_ n2_; (try clear hb); (try clear hb2); (try clear hk); (try clear hi)))
              go_ret
              exact ⟨Sqz.auR, Sqz.auHB⟩
          · replace c15 := Bool.eq_false_iff.mpr c15
            subst c15
            have H1 : (some false) = some r := by rw [if_neg (show ¬ (false = true) by decide)] at H; exact H
            clear H
            have H := H1
            clear H1
            obtain rfl := Option.some.inj H
            go_wp2_with (first | ((with_reducible refine gate_callee (f := 55) rfl ?_); refine goesL_ (some 33) rfl rfl Try.func55 (by kernel_rfl) rfl #[.slice Ao9 t425.length co9, .slice Ao8 t424.length co8] rfl Sqz.auM ?_; (with_reducible refine (impl_WittSame.calls kj5 _ _ t425 _ _ t424 false _ ?side1 ?side2 ?side3 ?side4 A14.out).mono ?_); (case side1 => exact Sqz.mvC ((Kd.R_reads' HO_4.out).2.2)); (case side2 => exact (Kd.R_reads' HO_4.out).2.1); (case side3 => exact Sqz.mvC ((Kd.R_reads' HO_3.out).2.2)); (case side4 => exact (Kd.R_reads' HO_3.out).2.1); rintro e w23 ⟨rfl, hb⟩; refine ⟨_, rfl, ?_⟩; have n0_ := Aside0.mk (Kd.R_below ((Sqz.mvR HO_3.out)) hb); have n1_ := Aside0.mk (Kd.R_below ((Sqz.mvR HO_4.out)) hb); have n2_ := Aside0.mk (below_step (Sqz.auHB) hb); clear HO_3; clear HO_4; clear HB; have HO_3 := n0_; have HO_4 := n1_; have HB := n2_; clear n0_ n1_ n2_; (try clear hb); (try clear hb2); (try clear hk); (try clear hi)))
            go_ret
            exact ⟨Sqz.auR, Sqz.auHB⟩

/-- THE ONE PURE STATEMENT of laws_FnWitt: yours. -/
def laws_FnWitt.Pure : Prop := ∀ (l0 : List Int), l0.length ≤ maxLen → l0.length * 1 ≤ 140737488351232 → (∀ x ∈ l0, (Lit.int .u8 x).wf = true) → ∃ k, laws_FnWitt.f k l0 = some true
theorem laws_FnWitt.walk (P : laws_FnWitt.Pure) (a0 : Option Addr) (len0 cap0 : Nat) (z0 : List Int) (w : World) (w0 : (a0 = none ∧ len0 = 0 ∧ cap0 = 0 ∧ z0 = []) ∨ ∃ x, a0 = some x ∧ len0 ≤ cap0 ∧ cap0 ≤ maxLen ∧ z0.length = cap0 ∧ (∀ i, i < z0.length → w.cell? (x.add i) = some (.int .u8 (z0.getD i 0))) ∧ ∀ n ∈ z0, (Lit.int .u8 n).wf = true) (y0 : len0 * 1 ≤ 140737488351232) :
    Calls Try.prog 12 #[.slice a0 len0 cap0] w fun e w' => e = .returned (.bool true) ∧ Below w.heap.size w w' := by
  obtain ⟨l0, rfl, hr0, hm0, hw0, hc0⟩ := ReadsInt.ofRowC w0
  obtain ⟨k, h⟩ := P l0 hm0 y0 hw0
  refine (laws_FnWitt.calls k _ _ l0 true w (Kd.C_of_reads (d := (0 : Int)) (h1 := fun _ => rfl) hr0) hc0 h).mono ?_
  rintro e w' ⟨rfl, hd⟩
  exact ⟨rfl, hd⟩

end Go.Proofs.Ytihadpckmcebgaa.PFnWitt
