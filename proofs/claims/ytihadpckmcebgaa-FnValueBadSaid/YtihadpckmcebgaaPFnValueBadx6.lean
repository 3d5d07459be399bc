/- A function's Lean twin and its walk, written by a program of this session. -/
import Derived.Test.YtihadpckmcebgaaPFnValueBadx0
import Derived.Test.YtihadpckmcebgaaPFnValueBadx1
import Derived.Test.YtihadpckmcebgaaPFnValueBadx2
import Derived.Test.YtihadpckmcebgaaPFnValueBadx3
import Derived.Test.YtihadpckmcebgaaPFnValueBadx4
import Derived.Test.YtihadpckmcebgaaPFnValueBadx5
namespace Go.Proofs.Ytihadpckmcebgaa.PFnValueBad
open Go.RowKit Go.Proofs.YtihadpckmcebgaaW.PrintWords Go.Proofs.YtihadpckmcebgaaW.PrintLast Go.Proofs.YtihadpckmcebgaaW.PrintMore
attribute [local go_sem] max2_int min2_int max_two min_two max_three min_three max_four min_four   -- for this text's walks alone
set_option linter.unusedVariables false
set_option linter.unusedSimpArgs false

/-! ### spec_ValueBad: function 50 -/
mutual
def spec_ValueBad.j0 : Nat → List Int → Int → List Int → Bool → Option (List Int)
  | 0, _, _, _, _ => none
  | k + 1, x0, x1, x5, x16 => if x16 = true then (some x5) else ((spec_l4Product.f k x0).bind fun t332 => ((spec_l2Places.f k (wrap64 (t332 * x1))).bind fun t333 => (spec_ValueBad.l0 k x0 x1 x5 t333 0)))
def spec_ValueBad.l0 : Nat → List Int → Int → List Int → List Int → Int → Option (List Int)
  | 0, _, _, _, _, _ => none
  | k + 1, x0, x1, x5, x6, x7 => if x7 < (x6.length : Int) then (if 0 ≤ x7 then ((spec_l9At.f k x0 x1 (rd x6 x7)).bind fun t337 => (if t337 = true then (spec_ValueBad.l0 k x0 x1 x5 x6 (wrap64 (x7 + 1))) else (if x5.length < 17592186044416 then (spec_ValueBad.l0 k x0 x1 (x5 ++ [rd x6 x7]) x6 (wrap64 (x7 + 1))) else (none)))) else (none)) else (some x5)
end
def spec_ValueBad.f (k : Nat) (l0 : List Int) (a1 : Int) : Option (List Int) := (some (([] : List Int) : List Int)).bind fun y327 => ((spec_FormValid.f k l0).bind fun t330 => (if t330 = true then ((spec_l9Number.f a1).bind fun t331 => (spec_ValueBad.j0 k l0 a1 y327 (!t331))) else (spec_ValueBad.j0 k l0 a1 y327 true)))
set_option maxHeartbeats 8000000 in
set_option maxRecDepth 100000 in
theorem spec_ValueBad.calls (k : Nat) (A0 : Option Addr) (c0 : Nat) (l0 : List Int) (a1 : Int) (r : List Int) (w : World) (hr0 : Kd.C (Kd.int .i64) w A0 l0.length l0) (hc0 : l0.length ≤ c0) (h : spec_ValueBad.f k l0 a1 = some r) :
    Calls Try.prog 50 #[.slice A0 l0.length c0, .int .i64 a1] w fun e w' => ∃ v0_ : Value, e = .returned (v0_) ∧ Kd.R (Kd.int .i64) 3 w' w.heap.size (fun _ => True) v0_ r ∧ Below w.heap.size w w' := by
  have HR0 := Aside0.mk hr0
  have HC0 := Aside0.mk hc0
  clear hr0 hc0
  have HB := Aside0.mk (Below.refl w.heap.size w)
  have H : ((some (([] : List Int) : List Int)).bind fun y327 => ((spec_FormValid.f k l0).bind fun t330 => (if t330 = true then ((spec_l9Number.f a1).bind fun t331 => (spec_ValueBad.j0 k l0 a1 y327 (!t331))) else (spec_ValueBad.j0 k l0 a1 y327 true)))) = some r := h
  clear h
  obtain ⟨y327, hy327⟩ : ∃ y_ : List Int, y_ = (([] : List Int)) := ⟨_, rfl⟩
  replace H : ((spec_FormValid.f k l0).bind fun t330 => (if t330 = true then ((spec_l9Number.f a1).bind fun t331 => (spec_ValueBad.j0 k l0 a1 y327 (!t331))) else (spec_ValueBad.j0 k l0 a1 y327 true))) = some r := by first | (rw [hy327]; with_reducible exact H) | (have H2_ := (Option.bind_some _ _).symm.trans H; rw [hy327]; with_reducible exact H2_) | (have H2_ := (Option.bind_some _ _).symm.trans H; with_reducible exact H2_) | with_reducible exact H | (rw [hy327]; exact H) | exact H
  have Ny327 := Aside0.mk hy327
  clear hy327
  have HC3 := Aside0.mk H
  clear H
  go_enter Try.func50, Try.ntmps50
  go_upto_region 2 with (first | ((with_reducible refine gate_dst (N := 8) rfl ?_); refine Kd.R_lit (Kd.int .i64) _ 3 ?hg (N := 8) ?hd (xs := ([] : List Int)) (inner := []) (ok := fun _ => True) (okp := fun _ => True) ?hr ?hp (fun _ hk => hk) trivial (Below.refl _ _) (Nat.le_refl _) (by simp) ?_; (case hd => rfl); (case hg => rfl); (case hr => first | (go_simp; done) | (go_simp; rfl)); (case hp => exact (Reps.none _ _)); intro v328 w4 ho5 hb hg_ hnew_; clear hg_ hnew_; (first | rw [← Ny327.out] at ho5 | (simp only [Int.reduceToNat] at ho5; rw [← Ny327.out] at ho5)); have n0_ := Aside0.mk (Kd.R_lower ho5 (below_size (Sqz.auHB))); have n1_ := Aside0.mk (below_step (Sqz.auHB) hb); clear HB; have HO329 := n0_; have HB := n1_; clear n0_ n1_; clear hb ho5))
  (try simp only [Act.put, List.setIfInBounds_toArray, List.set_cons_zero, List.set_cons_succ])
  go_cut [16] (fun v16 wc => ∃ (kq : Nat) (x16_2 : Bool), v16 = .bool x16_2 ∧ Aside0 (spec_ValueBad.j0 kq l0 a1 y327 x16_2 = some r) ∧ Aside0 (kq ≤ k) ∧ Aside0 (Kd.R (Kd.int .i64) 3 wc w.heap.size (fun _ => True) v328 y327) ∧ Aside0 (Below w.heap.size w wc))
  case first =>
    have H := HC3.out
    clear HC3
    replace H := Option.bind_eq_some_iff.mp H
    obtain ⟨t330, A60, H⟩ := H
    replace H : (if t330 = true then ((spec_l9Number.f a1).bind fun t331 => (spec_ValueBad.j0 k l0 a1 y327 (!t331))) else (spec_ValueBad.j0 k l0 a1 y327 true)) = some r := H
    have A6 := Aside0.mk A60
    clear A60
    by_cases c7 : t330 = true
    · subst c7
      have H1 : ((spec_l9Number.f a1).bind fun t331 => (spec_ValueBad.j0 k l0 a1 y327 (!t331))) = some r := by rw [if_pos rfl] at H; exact H
      clear H
      have H := H1
      clear H1
      replace H := Option.bind_eq_some_iff.mp H
      obtain ⟨t331, A80, H⟩ := H
      replace H : (spec_ValueBad.j0 k l0 a1 y327 (!t331)) = some r := H
      have A8 := Aside0.mk A80
      clear A80
      have H' := Aside0.mk H
      clear H
      go_wp2_with (first | ((with_reducible refine gate_callee (f := 86) rfl ?_); refine goesL_ (some 10) rfl rfl Try.func86 (by kernel_rfl) rfl #[.slice A0 l0.length c0] rfl Sqz.auM ?_; (with_reducible refine (spec_FormValid.calls k _ _ l0 true _ ?side1 ?side2 A6.out).mono ?_); (case side1 => exact Sqz.mvC ((Kd.C_below HR0.out HB.out))); (case side2 => exact HC0.out); rintro e w' ⟨rfl, ⟨nd, rfl⟩⟩; refine ⟨_, rfl, ?_⟩) | (go_at_call 87; (with_reducible refine (spec_l9Number.calls a1 t331 _ A8.out).mono ?_); rintro e w' ⟨rfl, ⟨nd, rfl⟩⟩))
      go_meet
      case rel => exact ⟨_, (!t331), Sqz.auS, H', ⟨Sqz.auN⟩, ⟨(Sqz.mvR HO329.out)⟩, ⟨Sqz.auHB⟩⟩
    · replace c7 := Bool.eq_false_iff.mpr c7
      subst c7
      have H1 : (spec_ValueBad.j0 k l0 a1 y327 true) = some r := by rw [if_neg (show ¬ (false = true) by decide)] at H; exact H
      clear H
      have H := H1
      clear H1
      have H' := Aside0.mk H
      clear H
      go_wp2_with (first | ((with_reducible refine gate_callee (f := 86) rfl ?_); refine goesL_ (some 10) rfl rfl Try.func86 (by kernel_rfl) rfl #[.slice A0 l0.length c0] rfl Sqz.auM ?_; (with_reducible refine (spec_FormValid.calls k _ _ l0 false _ ?side1 ?side2 A6.out).mono ?_); (case side1 => exact Sqz.mvC ((Kd.C_below HR0.out HB.out))); (case side2 => exact HC0.out); rintro e w' ⟨rfl, ⟨nd, rfl⟩⟩; refine ⟨_, rfl, ?_⟩))
      go_meet
      case rel => exact ⟨_, (true), Sqz.auS, H', ⟨Sqz.auN⟩, ⟨(Sqz.mvR HO329.out)⟩, ⟨Sqz.auHB⟩⟩
  case rest =>
    clear HC3
    try clear p2
    try clear c5
    try clear c7
    try clear c8
    obtain ⟨kq, x16_2, rfl, HA, HJ2, HO_5, HB⟩ := hcut
    cases kq with
    | zero => exact absurd HA.out (by simp [spec_ValueBad.j0])
    | succ kj2 =>
      have H := HA.out
      clear HA
      simp only [spec_ValueBad.j0] at H
      by_cases c9 : x16_2 = true
      · subst c9
        have H1 : (some y327) = some r := by rw [if_pos rfl] at H; exact H
        clear H
        have H := H1
        clear H1
        obtain rfl := Option.some.inj H
        go_wp2
        go_ret
        exact ⟨_, Sqz.auR, (Sqz.mvR HO_5.out), Sqz.auHB⟩
      · replace c9 := Bool.eq_false_iff.mpr c9
        subst c9
        have H1 : ((spec_l4Product.f kj2 l0).bind fun t332 => ((spec_l2Places.f kj2 (wrap64 (t332 * a1))).bind fun t333 => (spec_ValueBad.l0 kj2 l0 a1 y327 t333 0))) = some r := by rw [if_neg (show ¬ (false = true) by decide)] at H; exact H
        clear H
        have H := H1
        clear H1
        replace H := Option.bind_eq_some_iff.mp H
        obtain ⟨t332, A100, H⟩ := H
        replace H : ((spec_l2Places.f kj2 (wrap64 (t332 * a1))).bind fun t333 => (spec_ValueBad.l0 kj2 l0 a1 y327 t333 0)) = some r := H
        have A10 := Aside0.mk A100
        clear A100
        replace H := Option.bind_eq_some_iff.mp H
        obtain ⟨t333, A110, H⟩ := H
        replace H : (spec_ValueBad.l0 kj2 l0 a1 y327 t333 0) = some r := H
        have A11 := Aside0.mk A110
        clear A110
        have H' := Aside0.mk H
        clear H
        go_wp2_with (first | ((with_reducible refine gate_callee (f := 103) rfl ?_); refine goesL_ (some 19) rfl rfl Try.func103 (by kernel_rfl) rfl #[.slice A0 l0.length c0] rfl Sqz.auM ?_; (with_reducible refine (spec_l4Product.calls kj2 _ _ l0 t332 _ ?side1 ?side2 A10.out).mono ?_); (case side1 => exact Sqz.mvC ((Kd.C_below HR0.out HB.out))); (case side2 => exact HC0.out); rintro e w' ⟨rfl, ⟨nd, rfl⟩⟩; refine ⟨_, rfl, ?_⟩) | ((with_reducible refine gate_callee (f := 102) rfl ?_); refine goesL_ (some 22) rfl rfl Try.func102 (by kernel_rfl) rfl #[.int .i64 (wrap64 (t332 * a1))] rfl Sqz.auM ?_; (with_reducible refine (spec_l2Places.calls kj2 (wrap64 (t332 * a1)) t333 _ A11.out).mono ?_); rintro e w12 ⟨v334, rfl, ho0, hb⟩; refine ⟨_, rfl, ?_⟩; have n0_ := Aside0.mk (Kd.R_elder' ((Sqz.mvR HO_5.out)) (Kd.R_base ho0) hb); have n1_ := Aside0.mk (Kd.R_lower (Kd.R_new' ho0 (Kd.R_lt ((Sqz.mvR HO_5.out)))) (below_size (Sqz.auHB))); have n2_ := Aside0.mk (below_step (Sqz.auHB) hb); clear HO_5; clear HB; have HO_5 := n0_; have HO335 := n1_; have HB := n2_; clear n0_ n1_ n2_; (try clear hb); (try clear hb2); (try clear hk); (try clear hi); (try clear ho0)))
        go_loopg [5, 7] kj2 (fun kq v5 v7 w' => ∃ (x5_2 : List Int) (x7_2 : Int), v7 = .int .i64 x7_2 ∧ Aside0 (spec_ValueBad.l0 kq l0 a1 x5_2 t333 x7_2 = some r) ∧ Aside0 (kq ≤ kj2) ∧ Aside0 (Kd.R (Kd.int .i64) 3 w' w.heap.size (fun k_ => some k_ ≠ (v334 : Value).ownBlock) v5 x5_2) ∧ Aside0 (Kd.R (Kd.int .i64) 3 w' w.heap.size (fun k_ => some k_ ≠ (v5 : Value).ownBlock) v334 t333) ∧ Aside0 (Below w.heap.size w w'))
        case atStart => exact ⟨(y327), (0), Sqz.auS, H', ⟨Nat.le_refl _⟩, ⟨(Sqz.mvR (Kd.R_mono HO_5.out (fun _ hk => hk.2)))⟩, ⟨(Sqz.mvR (Kd.R_mono HO335.out (fun _ hk => hk.2)))⟩, ⟨Sqz.auHB⟩⟩
        case round =>
          clear H'
          try clear c1
          try clear p2
          try clear c5
          try clear p6
          try clear c7
          try clear c8
          try clear c9
          try clear c10
          try clear p2
          obtain ⟨x5_2, x7_2, rfl, HA, HK2, HO_5, HO_6, HB⟩ := hrel
          cases gk with
          | zero => exact absurd HA.out (by simp [spec_ValueBad.l0])
          | succ k2 =>
            have H := HA.out
            clear HA
            simp only [spec_ValueBad.l0] at H
            by_cases c13 : x7_2 < (t333.length : Int)
            · rw [if_pos c13] at H
              have c13b0 : decide (x7_2 < (t333.length : Int)) = true := decide_eq_true c13
              clear c13
              by_cases c14 : 0 ≤ x7_2
              · rw [if_pos c14] at H
                have c14b0 : decide (0 ≤ x7_2) = true := decide_eq_true c14
                clear c14
                replace H := Option.bind_eq_some_iff.mp H
                obtain ⟨t337, A150, H⟩ := H
                replace H : (if t337 = true then (spec_ValueBad.l0 k2 l0 a1 x5_2 t333 (wrap64 (x7_2 + 1))) else (if x5_2.length < 17592186044416 then (spec_ValueBad.l0 k2 l0 a1 (x5_2 ++ [rd t333 x7_2]) t333 (wrap64 (x7_2 + 1))) else (none))) = some r := H
                have A15 := Aside0.mk A150
                clear A150
                by_cases c16 : t337 = true
                · subst c16
                  have H1 : (spec_ValueBad.l0 k2 l0 a1 x5_2 t333 (wrap64 (x7_2 + 1))) = some r := by rw [if_pos rfl] at H; exact H
                  clear H
                  have H := H1
                  clear H1
                  have H' := Aside0.mk H
                  clear H
                  obtain ⟨Ao17, co17, eo17⟩ := Kd.R_slice HO_6.out
                  subst eo17
                  have p336 : 0 ≤ (x7_2 : Int) := of_decide_eq_true (by first | (with_reducible assumption) | assumption)
                  have q336 : x7_2 < (t333.length : Int) := of_decide_eq_true (by first | (with_reducible assumption) | assumption)
                  obtain ⟨ad336, e336, hx336_0⟩ := Kd.at_int (Kd.R_reads' HO_6.out).2.2 x7_2 p336 q336
                  cases e336
                  replace p336 := eq_true p336
                  replace q336 := eq_true q336
                  go_wp2_with (first | ((with_reducible refine gate_callee (f := 88) rfl ?_); refine goesL_ (some 35) rfl rfl Try.func88 (by kernel_rfl) rfl #[.slice A0 l0.length c0, .int .i64 a1, .int .i64 (rd t333 x7_2)] rfl Sqz.auM ?_; (with_reducible refine (spec_l9At.calls k2 _ _ l0 a1 (rd t333 x7_2) true _ ?side1 ?side2 A15.out).mono ?_); (case side1 => exact Sqz.mvC ((Kd.C_below HR0.out HB.out))); (case side2 => exact HC0.out); rintro e w18 ⟨rfl, hb⟩; refine ⟨_, rfl, ?_⟩; have n0_ := Aside0.mk (Kd.R_below ((Sqz.mvR HO_5.out)) hb); have n1_ := Aside0.mk (Kd.R_below ((Sqz.mvR HO_6.out)) hb); have n2_ := Aside0.mk (below_step (Sqz.auHB) hb); clear HO_5; clear HO_6; clear HB; have HO_5 := n0_; have HO_6 := n1_; have HB := n2_; clear n0_ n1_ n2_; (try clear hb); (try clear hb2); (try clear hk); (try clear hi)))
                  go_roundg k2
                  case measure => have := HJ2.out; have := HK2.out; omega
                  case rel => exact ⟨(x5_2), (wrap64 (x7_2 + 1)), Sqz.auS, H', ⟨by have := HJ2.out; have := HK2.out; omega⟩, ⟨(Sqz.mvR HO_5.out)⟩, ⟨(Sqz.mvR HO_6.out)⟩, ⟨Sqz.auHB⟩⟩
                · replace c16 := Bool.eq_false_iff.mpr c16
                  subst c16
                  have H1 : (if x5_2.length < 17592186044416 then (spec_ValueBad.l0 k2 l0 a1 (x5_2 ++ [rd t333 x7_2]) t333 (wrap64 (x7_2 + 1))) else (none)) = some r := by rw [if_neg (show ¬ (false = true) by decide)] at H; exact H
                  clear H
                  have H := H1
                  clear H1
                  by_cases c19 : x5_2.length < 17592186044416
                  · rw [if_pos c19] at H
                    have LMc19 := Aside0.mk c19
                    clear c19
                    obtain ⟨y339, hy339⟩ : ∃ y_ : List Int, y_ = (x5_2 ++ [rd t333 x7_2]) := ⟨_, rfl⟩
                    replace H : (spec_ValueBad.l0 k2 l0 a1 y339 t333 (wrap64 (x7_2 + 1))) = some r := by first | (rw [hy339]; with_reducible exact H) | (have H2_ := (Option.bind_some _ _).symm.trans H; rw [hy339]; with_reducible exact H2_) | (have H2_ := (Option.bind_some _ _).symm.trans H; with_reducible exact H2_) | with_reducible exact H | (rw [hy339]; exact H) | exact H
                    have Ny339 := Aside0.mk hy339
                    clear hy339
                    have H' := Aside0.mk H
                    clear H
                    obtain ⟨Ao20, co20, eo20⟩ := Kd.R_slice HO_6.out
                    subst eo20
                    have p336 : 0 ≤ (x7_2 : Int) := of_decide_eq_true (by first | (with_reducible assumption) | assumption)
                    have q336 : x7_2 < (t333.length : Int) := of_decide_eq_true (by first | (with_reducible assumption) | assumption)
                    obtain ⟨ad336, e336, hx336_0⟩ := Kd.at_int (Kd.R_reads' HO_6.out).2.2 x7_2 p336 q336
                    cases e336
                    replace p336 := eq_true p336
                    replace q336 := eq_true q336
                    go_wp2_with (first | ((with_reducible refine gate_callee (f := 88) rfl ?_); refine goesL_ (some 35) rfl rfl Try.func88 (by kernel_rfl) rfl #[.slice A0 l0.length c0, .int .i64 a1, .int .i64 (rd t333 x7_2)] rfl Sqz.auM ?_; (with_reducible refine (spec_l9At.calls k2 _ _ l0 a1 (rd t333 x7_2) false _ ?side1 ?side2 A15.out).mono ?_); (case side1 => exact Sqz.mvC ((Kd.C_below HR0.out HB.out))); (case side2 => exact HC0.out); rintro e w21 ⟨rfl, hb⟩; refine ⟨_, rfl, ?_⟩; have n0_ := Aside0.mk (Kd.R_below ((Sqz.mvR HO_5.out)) hb); have n1_ := Aside0.mk (Kd.R_below ((Sqz.mvR HO_6.out)) hb); have n2_ := Aside0.mk (below_step (Sqz.auHB) hb); clear HO_5; clear HO_6; clear HB; have HO_5 := n0_; have HO_6 := n1_; have HB := n2_; clear n0_ n1_ n2_; (try clear hb); (try clear hb2); (try clear hk); (try clear hi); have p338 : 0 ≤ (x7_2 : Int) := of_decide_eq_true (by first | (with_reducible assumption) | assumption); have q338 : x7_2 < (t333.length : Int) := of_decide_eq_true (by first | (with_reducible assumption) | assumption); obtain ⟨ad338, e338, hx338_0⟩ := Kd.at_int (Kd.R_reads' HO_6.out).2.2 x7_2 p338 q338; obtain rfl : ad336 = ad338 := (by injection e338); replace p338 := eq_true p338; replace q338 := eq_true q338) | ((with_reducible refine gate_builtin (b := .append) (xs := #[.tmp 37, .tmp 42]) rfl ?_); at_builtin; refine Kd.R_append (Kd.int .i64) (w0 := w) w.heap.size rfl (.tmp 37) (.tmp 42) 25 3 (.int .i64 0) 8 rfl Try.underlying25 info3 rfl (by decide) (by omega) u5 x5_2 (rd t333 x7_2) [.int .i64 (rd t333 x7_2)] (fun k_ => some k_ ≠ (.slice (some ad336) t333.length co20 : Value).ownBlock) (fun _ => False) rfl rfl ?aP (fun _ hk => hk.elim) ?aF ?aO ?aB ?aS ?aL ?_; (case aP => exact rfl); (case aB => exact (Sqz.auHB)); (case aF => exact (fun k_ hk => Kd.fresh' (Kd.R_lt ((Sqz.mvR HO_6.out))) k_ hk)); (case aO => exact ((Sqz.mvR HO_5.out))); (case aS => exact (below_size (Sqz.auHB))); (case aL => have := LMc19.out; omega); intro v340 w22 ho hb hg hat; rw [← Ny339.out] at ho; have n0_ := Aside0.mk (Kd.R_after (ok := (fun _ => True)) ((Sqz.mvR (Kd.R_mono HO_6.out (fun _ hk => ⟨trivial, hk⟩)))) hg hat); have n1_ := Aside0.mk (hb); have n2_ := Aside0.mk (ho); clear HO_6; clear HB; clear HO_5; have HO_6 := n0_; have HB := n1_; have HO341 := n2_; clear n0_ n1_ n2_; clear ho hb hg hat))
                    go_roundg k2
                    case measure => have := HJ2.out; have := HK2.out; omega
                    case rel => exact ⟨(y339), (wrap64 (x7_2 + 1)), Sqz.auS, H', ⟨by have := HJ2.out; have := HK2.out; omega⟩, ⟨(Sqz.mvR HO341.out)⟩, ⟨(Sqz.mvR (Kd.R_mono HO_6.out (fun _ hk => hk.2)))⟩, ⟨Sqz.auHB⟩⟩
                  · rw [if_neg c19] at H
                    exact absurd H (by simp)
              · rw [if_neg c14] at H
                exact absurd H (by simp)
            · rw [if_neg c13] at H
              have c13b0 : decide (x7_2 < (t333.length : Int)) = false := decide_eq_false c13
              clear c13
              obtain rfl := Option.some.inj H
              obtain ⟨Ao23, co23, eo23⟩ := Kd.R_slice HO_6.out
              subst eo23
              go_wp2
              go_ret
              exact ⟨_, Sqz.auR, (Sqz.mvR (Kd.R_mono HO_5.out (fun _ hk => trivial))), Sqz.auHB⟩

/-! ### laws_FnValueBad: function 10 -/
mutual
def laws_FnValueBad.j0 : Nat → List Int → Int → List Int → Bool → Option (Bool)
  | 0, _, _, _, _ => none
  | k + 1, x3, x4, x5, x35 => if x35 = true then (some ((x5.length : Int) == 0)) else (laws_FnValueBad.l0 k x3 x4 x5 0)
def laws_FnValueBad.l0 : Nat → List Int → Int → List Int → Int → Option (Bool)
  | 0, _, _, _, _ => none
  | k + 1, x3, x4, x5, x6 => if x6 < (x5.length : Int) then (if 0 ≤ x6 then ((impl_ValueAt.f k x3 x4 (rd x5 x6)).bind fun t356 => (if t356 = true then (some false) else (laws_FnValueBad.l0 k x3 x4 x5 (wrap64 (x6 + 1))))) else (none)) else ((impl_ValueEverywhere.f k x3 x4).bind fun t357 => (if (((x5.length : Int) == 0) == t357) = true then (if (x3.length : Int) = 2 then (some (((x5.length : Int) % 2) == 0)) else (some true)) else (some false)))
end
def laws_FnValueBad.f (k : Nat) (l0 : List Int) : Option (Bool) := if (l0.length : Int) > 1048576 then (some true) else ((spec_DrawValueBad.f k l0).bind fun bt342 => ((impl_ValueBad.f k bt342.1 bt342.2).bind fun t346 => ((spec_ValueBad.f k bt342.1 bt342.2).bind fun t349 => ((laws_sameInts.f k t346 t349).bind fun t352 => (if t352 = true then ((impl_FormValid.f k bt342.1).bind fun t353 => (if t353 = true then (if bt342.2 = 0 then (laws_FnValueBad.j0 k bt342.1 bt342.2 t346 true) else ((laws_sizeOf.f bt342.2).bind fun t354 => (laws_FnValueBad.j0 k bt342.1 bt342.2 t346 (decide (t354 > 30))))) else (laws_FnValueBad.j0 k bt342.1 bt342.2 t346 true))) else (some false))))))
set_option maxHeartbeats 8000000 in
set_option maxRecDepth 100000 in
theorem laws_FnValueBad.calls (k : Nat) (A0 : Option Addr) (c0 : Nat) (l0 : List Int) (r : Bool) (w : World) (hr0 : Kd.C (Kd.int .u8) w A0 l0.length l0) (hc0 : l0.length ≤ c0) (h : laws_FnValueBad.f k l0 = some r) :
    Calls Try.prog 10 #[.slice A0 l0.length c0] w fun e w' => e = .returned (.bool r) ∧ Below w.heap.size w w' := by
  have HR0 := Aside0.mk hr0
  have HC0 := Aside0.mk hc0
  clear hr0 hc0
  have HB := Aside0.mk (Below.refl w.heap.size w)
  have H : (if (l0.length : Int) > 1048576 then (some true) else ((spec_DrawValueBad.f k l0).bind fun bt342 => ((impl_ValueBad.f k bt342.1 bt342.2).bind fun t346 => ((spec_ValueBad.f k bt342.1 bt342.2).bind fun t349 => ((laws_sameInts.f k t346 t349).bind fun t352 => (if t352 = true then ((impl_FormValid.f k bt342.1).bind fun t353 => (if t353 = true then (if bt342.2 = 0 then (laws_FnValueBad.j0 k bt342.1 bt342.2 t346 true) else ((laws_sizeOf.f bt342.2).bind fun t354 => (laws_FnValueBad.j0 k bt342.1 bt342.2 t346 (decide (t354 > 30))))) else (laws_FnValueBad.j0 k bt342.1 bt342.2 t346 true))) else (some false))))))) = some r := h
  clear h
  by_cases c2 : (l0.length : Int) > 1048576
  · rw [if_pos c2] at H
    have c2b0 : decide (1048576 < (l0.length : Int)) = true := decide_eq_true c2
    have c2b1 : decide (1048576 < l0.length) = true := decide_eq_true (by omega)
    clear c2
    obtain rfl := Option.some.inj H
    go_enter Try.func10, Try.ntmps10
    go_wp2
    go_ret
    exact ⟨Sqz.auR, Sqz.auHB⟩
  · rw [if_neg c2] at H
    have c2b0 : decide (1048576 < (l0.length : Int)) = false := decide_eq_false c2
    have c2b1 : decide (1048576 < l0.length) = false := decide_eq_false (by omega)
    clear c2
    replace H := Option.bind_eq_some_iff.mp H
    obtain ⟨⟨t342, t343⟩, A30, H⟩ := H
    replace H : ((impl_ValueBad.f k t342 t343).bind fun t346 => ((spec_ValueBad.f k t342 t343).bind fun t349 => ((laws_sameInts.f k t346 t349).bind fun t352 => (if t352 = true then ((impl_FormValid.f k t342).bind fun t353 => (if t353 = true then (if t343 = 0 then (laws_FnValueBad.j0 k t342 t343 t346 true) else ((laws_sizeOf.f t343).bind fun t354 => (laws_FnValueBad.j0 k t342 t343 t346 (decide (t354 > 30))))) else (laws_FnValueBad.j0 k t342 t343 t346 true))) else (some false))))) = some r := H
    have A3 := Aside0.mk A30
    clear A30
    replace H := Option.bind_eq_some_iff.mp H
    obtain ⟨t346, A40, H⟩ := H
    replace H : ((spec_ValueBad.f k t342 t343).bind fun t349 => ((laws_sameInts.f k t346 t349).bind fun t352 => (if t352 = true then ((impl_FormValid.f k t342).bind fun t353 => (if t353 = true then (if t343 = 0 then (laws_FnValueBad.j0 k t342 t343 t346 true) else ((laws_sizeOf.f t343).bind fun t354 => (laws_FnValueBad.j0 k t342 t343 t346 (decide (t354 > 30))))) else (laws_FnValueBad.j0 k t342 t343 t346 true))) else (some false)))) = some r := H
    have A4 := Aside0.mk A40
    clear A40
    replace H := Option.bind_eq_some_iff.mp H
    obtain ⟨t349, A50, H⟩ := H
    replace H : ((laws_sameInts.f k t346 t349).bind fun t352 => (if t352 = true then ((impl_FormValid.f k t342).bind fun t353 => (if t353 = true then (if t343 = 0 then (laws_FnValueBad.j0 k t342 t343 t346 true) else ((laws_sizeOf.f t343).bind fun t354 => (laws_FnValueBad.j0 k t342 t343 t346 (decide (t354 > 30))))) else (laws_FnValueBad.j0 k t342 t343 t346 true))) else (some false))) = some r := H
    have A5 := Aside0.mk A50
    clear A50
    replace H := Option.bind_eq_some_iff.mp H
    obtain ⟨t352, A60, H⟩ := H
    replace H : (if t352 = true then ((impl_FormValid.f k t342).bind fun t353 => (if t353 = true then (if t343 = 0 then (laws_FnValueBad.j0 k t342 t343 t346 true) else ((laws_sizeOf.f t343).bind fun t354 => (laws_FnValueBad.j0 k t342 t343 t346 (decide (t354 > 30))))) else (laws_FnValueBad.j0 k t342 t343 t346 true))) else (some false)) = some r := H
    have A6 := Aside0.mk A60
    clear A60
    by_cases c7 : t352 = true
    · subst c7
      have H1 : ((impl_FormValid.f k t342).bind fun t353 => (if t353 = true then (if t343 = 0 then (laws_FnValueBad.j0 k t342 t343 t346 true) else ((laws_sizeOf.f t343).bind fun t354 => (laws_FnValueBad.j0 k t342 t343 t346 (decide (t354 > 30))))) else (laws_FnValueBad.j0 k t342 t343 t346 true))) = some r := by rw [if_pos rfl] at H; exact H
      clear H
      have H := H1
      clear H1
      have HC8 := Aside0.mk H
      clear H
      go_enter Try.func10, Try.ntmps10
      go_upto_region 7 with (first | ((with_reducible refine gate_callee (f := 48) rfl ?_); refine goesL_ (some 12) rfl rfl Try.func48 (by kernel_rfl) rfl #[.slice A0 l0.length c0] rfl Sqz.auM ?_; (with_reducible refine (spec_DrawValueBad.calls k _ _ l0 t342 t343 _ ?side1 ?side2 A3.out).mono ?_); (case side1 => exact Sqz.mvC (HR0.out)); (case side2 => exact HC0.out); rintro e w9 ⟨v344, rfl, ho0, hb⟩; refine ⟨_, rfl, ?_⟩; have n0_ := Aside0.mk (Kd.R_lower ho0 (below_size (Sqz.auHB))); have n1_ := Aside0.mk (below_step (Sqz.auHB) hb); clear HB; have HO345 := n0_; have HB := n1_; clear n0_ n1_; (try clear hb); (try clear hb2); (try clear hk); (try clear hi); (try clear ho0); obtain ⟨Ao10, co10, eo10⟩ := Kd.R_slice HO345.out; subst eo10) | ((with_reducible refine gate_callee (f := 49) rfl ?_); refine goesL_ (some 17) rfl rfl Try.func49 (by kernel_rfl) rfl #[.slice Ao10 t342.length co10, .int .i64 t343] rfl Sqz.auM ?_; (with_reducible refine (impl_ValueBad.calls k _ _ t342 t343 t346 _ ?side1 ?side2 A4.out).mono ?_); (case side1 => exact Sqz.mvC ((Kd.R_reads' HO345.out).2.2)); (case side2 => exact (Kd.R_reads' HO345.out).2.1); rintro e w11 ⟨v347, rfl, ho0, hb⟩; refine ⟨_, rfl, ?_⟩; have n0_ := Aside0.mk (Kd.R_elder' ((Sqz.mvR HO345.out)) (Kd.R_base ho0) hb); have n1_ := Aside0.mk (Kd.R_lower (Kd.R_new' ho0 (Kd.R_lt ((Sqz.mvR HO345.out)))) (below_size (Sqz.auHB))); have n2_ := Aside0.mk (below_step (Sqz.auHB) hb); clear HO345; clear HB; have HO345 := n0_; have HO348 := n1_; have HB := n2_; clear n0_ n1_ n2_; (try clear hb); (try clear hb2); (try clear hk); (try clear hi); (try clear ho0)) | ((with_reducible refine gate_callee (f := 50) rfl ?_); refine goesL_ (some 21) rfl rfl Try.func50 (by kernel_rfl) rfl #[.slice Ao10 t342.length co10, .int .i64 t343] rfl Sqz.auM ?_; (with_reducible refine (spec_ValueBad.calls k _ _ t342 t343 t349 _ ?side1 ?side2 A5.out).mono ?_); (case side1 => exact Sqz.mvC ((Kd.R_reads' HO345.out).2.2)); (case side2 => exact (Kd.R_reads' HO345.out).2.1); rintro e w12 ⟨v350, rfl, ho0, hb⟩; refine ⟨_, rfl, ?_⟩; have n0_ := Aside0.mk (Kd.R_elder' ((Sqz.mvR HO345.out)) (Kd.R_base ho0) hb); have n1_ := Aside0.mk (Kd.R_elder' ((Sqz.mvR HO348.out)) (Kd.R_base ho0) hb); have n2_ := Aside0.mk (Kd.R_lower (Kd.R_new' (Kd.R_new' ho0 (Kd.R_lt ((Sqz.mvR HO345.out)))) (Kd.R_lt ((Sqz.mvR HO348.out)))) (below_size (Sqz.auHB))); have n3_ := Aside0.mk (below_step (Sqz.auHB) hb); clear HO345; clear HO348; clear HB; have HO345 := n0_; have HO348 := n1_; have HO351 := n2_; have HB := n3_; clear n0_ n1_ n2_ n3_; (try clear hb); (try clear hb2); (try clear hk); (try clear hi); (try clear ho0); obtain ⟨Ao13, co13, eo13⟩ := Kd.R_slice HO348.out; subst eo13; obtain ⟨Ao14, co14, eo14⟩ := Kd.R_slice HO351.out; subst eo14) | ((with_reducible refine gate_callee (f := 37) rfl ?_); refine goesL_ (some 22) rfl rfl Try.func37 (by kernel_rfl) rfl #[.slice Ao13 t346.length co13, .slice Ao14 t349.length co14] rfl Sqz.auM ?_; (with_reducible refine (laws_sameInts.calls k _ _ t346 _ _ t349 true _ ?side1 ?side2 ?side3 ?side4 A6.out).mono ?_); (case side1 => exact Sqz.mvC ((Kd.R_reads' HO348.out).2.2)); (case side2 => exact (Kd.R_reads' HO348.out).2.1); (case side3 => exact Sqz.mvC ((Kd.R_reads' HO351.out).2.2)); (case side4 => exact (Kd.R_reads' HO351.out).2.1); rintro e w' ⟨rfl, ⟨nd, rfl⟩⟩; refine ⟨_, rfl, ?_⟩))
      (try simp only [Act.put, List.setIfInBounds_toArray, List.set_cons_zero, List.set_cons_succ])
      go_cut [35] (fun v35 wc => ∃ (kq : Nat) (x35_7 : Bool), v35 = .bool x35_7 ∧ Aside0 (laws_FnValueBad.j0 kq t342 t343 t346 x35_7 = some r) ∧ Aside0 (kq ≤ k) ∧ Aside0 (Kd.R (Kd.int .i64) 3 wc w.heap.size (fun k_ => some k_ ≠ ((.slice Ao13 t346.length co13) : Value).ownBlock) (.slice Ao10 t342.length co10) t342) ∧ Aside0 (Kd.R (Kd.int .i64) 3 wc w.heap.size (fun k_ => some k_ ≠ ((.slice Ao10 t342.length co10) : Value).ownBlock) (.slice Ao13 t346.length co13) t346) ∧ Aside0 (Below w.heap.size w wc))
      case first =>
        have H := HC8.out
        clear HC8
        replace H := Option.bind_eq_some_iff.mp H
        obtain ⟨t353, A150, H⟩ := H
        replace H : (if t353 = true then (if t343 = 0 then (laws_FnValueBad.j0 k t342 t343 t346 true) else ((laws_sizeOf.f t343).bind fun t354 => (laws_FnValueBad.j0 k t342 t343 t346 (decide (t354 > 30))))) else (laws_FnValueBad.j0 k t342 t343 t346 true)) = some r := H
        have A15 := Aside0.mk A150
        clear A150
        by_cases c16 : t353 = true
        · subst c16
          have H1 : (if t343 = 0 then (laws_FnValueBad.j0 k t342 t343 t346 true) else ((laws_sizeOf.f t343).bind fun t354 => (laws_FnValueBad.j0 k t342 t343 t346 (decide (t354 > 30))))) = some r := by rw [if_pos rfl] at H; exact H
          clear H
          have H := H1
          clear H1
          by_cases c17 : t343 = 0
          · rw [if_pos c17] at H
            have c17b0 : (t343 == 0) = true := beq_iff_eq.mpr c17
            have c17b1 : (t343 != 0) = false := bne_eq_false_iff_eq.mpr c17
            clear c17
            (first | rw [c17b0] | (simp only [i64_w, i32_w]; rw [c17b0]) | skip)
            have H' := Aside0.mk H
            clear H
            go_wp2_with (first | ((with_reducible refine gate_callee (f := 20) rfl ?_); refine goesL_ (some 25) rfl rfl Try.func20 (by kernel_rfl) rfl #[.slice Ao10 t342.length co10] rfl Sqz.auM ?_; (with_reducible refine (impl_FormValid.calls k _ _ t342 true _ ?side1 ?side2 A15.out).mono ?_); (case side1 => exact Sqz.mvC ((Kd.R_reads' HO345.out).2.2)); (case side2 => exact (Kd.R_reads' HO345.out).2.1); rintro e w18 ⟨rfl, hb⟩; refine ⟨_, rfl, ?_⟩; have n0_ := Aside0.mk (Kd.R_below ((Sqz.mvR HO345.out)) hb); have n1_ := Aside0.mk (Kd.R_below ((Sqz.mvR HO348.out)) hb); have n2_ := Aside0.mk (Kd.R_below ((Sqz.mvR HO351.out)) hb); have n3_ := Aside0.mk (below_step (Sqz.auHB) hb); clear HO345; clear HO348; clear HO351; clear HB; have HO345 := n0_; have HO348 := n1_; have HO351 := n2_; have HB := n3_; clear n0_ n1_ n2_ n3_; (try clear hb); (try clear hb2); (try clear hk); (try clear hi)))
            go_meet
            case rel => exact ⟨_, (true), Sqz.auS, H', ⟨Sqz.auN⟩, ⟨(Sqz.mvR (Kd.R_mono HO345.out (fun _ hk => hk.1.2)))⟩, ⟨(Sqz.mvR (Kd.R_mono HO348.out (fun _ hk => hk.1.2)))⟩, ⟨Sqz.auHB⟩⟩
          · rw [if_neg c17] at H
            have c17b0 : (t343 == 0) = false := beq_eq_false_iff_ne.mpr c17
            have c17b1 : (t343 != 0) = true := bne_iff_ne.mpr c17
            (first | rw [c17b0] | (simp only [i64_w, i32_w]; rw [c17b0]) | skip)
            replace H := Option.bind_eq_some_iff.mp H
            obtain ⟨t354, A190, H⟩ := H
            replace H : (laws_FnValueBad.j0 k t342 t343 t346 (decide (t354 > 30))) = some r := H
            have A19 := Aside0.mk A190
            clear A190
            have H' := Aside0.mk H
            clear H
            go_wp2_with (first | ((with_reducible refine gate_callee (f := 20) rfl ?_); refine goesL_ (some 25) rfl rfl Try.func20 (by kernel_rfl) rfl #[.slice Ao10 t342.length co10] rfl Sqz.auM ?_; (with_reducible refine (impl_FormValid.calls k _ _ t342 true _ ?side1 ?side2 A15.out).mono ?_); (case side1 => exact Sqz.mvC ((Kd.R_reads' HO345.out).2.2)); (case side2 => exact (Kd.R_reads' HO345.out).2.1); rintro e w20 ⟨rfl, hb⟩; refine ⟨_, rfl, ?_⟩; have n0_ := Aside0.mk (Kd.R_below ((Sqz.mvR HO345.out)) hb); have n1_ := Aside0.mk (Kd.R_below ((Sqz.mvR HO348.out)) hb); have n2_ := Aside0.mk (Kd.R_below ((Sqz.mvR HO351.out)) hb); have n3_ := Aside0.mk (below_step (Sqz.auHB) hb); clear HO345; clear HO348; clear HO351; clear HB; have HO345 := n0_; have HO348 := n1_; have HO351 := n2_; have HB := n3_; clear n0_ n1_ n2_ n3_; (try clear hb); (try clear hb2); (try clear hk); (try clear hi)) | (go_at_call 29; (with_reducible refine (laws_sizeOf.calls t343 t354 _ A19.out).mono ?_); rintro e w21 ⟨rfl, hb⟩; have n0_ := Aside0.mk (Kd.R_below ((Sqz.mvR HO345.out)) hb); have n1_ := Aside0.mk (Kd.R_below ((Sqz.mvR HO348.out)) hb); have n2_ := Aside0.mk (Kd.R_below ((Sqz.mvR HO351.out)) hb); have n3_ := Aside0.mk (below_step (Sqz.auHB) hb); clear HO345; clear HO348; clear HO351; clear HB; have HO345 := n0_; have HO348 := n1_; have HO351 := n2_; have HB := n3_; clear n0_ n1_ n2_ n3_; (try clear hb); (try clear hb2); (try clear hk); (try clear hi)))
            go_meet
            case rel => exact ⟨_, (decide (t354 > 30)), Sqz.auS, H', ⟨Sqz.auN⟩, ⟨(Sqz.mvR (Kd.R_mono HO345.out (fun _ hk => hk.1.2)))⟩, ⟨(Sqz.mvR (Kd.R_mono HO348.out (fun _ hk => hk.1.2)))⟩, ⟨Sqz.auHB⟩⟩
        · replace c16 := Bool.eq_false_iff.mpr c16
          subst c16
          have H1 : (laws_FnValueBad.j0 k t342 t343 t346 true) = some r := by rw [if_neg (show ¬ (false = true) by decide)] at H; exact H
          clear H
          have H := H1
          clear H1
          have H' := Aside0.mk H
          clear H
          go_wp2_with (first | ((with_reducible refine gate_callee (f := 20) rfl ?_); refine goesL_ (some 25) rfl rfl Try.func20 (by kernel_rfl) rfl #[.slice Ao10 t342.length co10] rfl Sqz.auM ?_; (with_reducible refine (impl_FormValid.calls k _ _ t342 false _ ?side1 ?side2 A15.out).mono ?_); (case side1 => exact Sqz.mvC ((Kd.R_reads' HO345.out).2.2)); (case side2 => exact (Kd.R_reads' HO345.out).2.1); rintro e w22 ⟨rfl, hb⟩; refine ⟨_, rfl, ?_⟩; have n0_ := Aside0.mk (Kd.R_below ((Sqz.mvR HO345.out)) hb); have n1_ := Aside0.mk (Kd.R_below ((Sqz.mvR HO348.out)) hb); have n2_ := Aside0.mk (Kd.R_below ((Sqz.mvR HO351.out)) hb); have n3_ := Aside0.mk (below_step (Sqz.auHB) hb); clear HO345; clear HO348; clear HO351; clear HB; have HO345 := n0_; have HO348 := n1_; have HO351 := n2_; have HB := n3_; clear n0_ n1_ n2_ n3_; (try clear hb); (try clear hb2); (try clear hk); (try clear hi)))
          go_meet
          case rel => exact ⟨_, (true), Sqz.auS, H', ⟨Sqz.auN⟩, ⟨(Sqz.mvR (Kd.R_mono HO345.out (fun _ hk => hk.1.2)))⟩, ⟨(Sqz.mvR (Kd.R_mono HO348.out (fun _ hk => hk.1.2)))⟩, ⟨Sqz.auHB⟩⟩
      case rest =>
        clear HC8
        try clear c1
        try clear c2
        try clear c2b0
        try clear c2b1
        try clear p2
        try clear c3
        try clear c4
        try clear c5
        try clear c7
        try clear c10
        try clear c16
        try clear c17
        try clear c17b0
        try clear c17b1
        try clear c20
        obtain ⟨kq, x35_7, rfl, HA, HJ7, HO_3, HO_5, HB⟩ := hcut
        cases kq with
        | zero => exact absurd HA.out (by simp [laws_FnValueBad.j0])
        | succ kj7 =>
          have H := HA.out
          clear HA
          simp only [laws_FnValueBad.j0] at H
          by_cases c23 : x35_7 = true
          · subst c23
            have H1 : (some ((t346.length : Int) == 0)) = some r := by rw [if_pos rfl] at H; exact H
            clear H
            have H := H1
            clear H1
            obtain rfl := Option.some.inj H
            go_wp2
            go_ret
            exact ⟨Sqz.auR, Sqz.auHB⟩
          · replace c23 := Bool.eq_false_iff.mpr c23
            subst c23
            have H1 : (laws_FnValueBad.l0 kj7 t342 t343 t346 0) = some r := by rw [if_neg (show ¬ (false = true) by decide)] at H; exact H
            clear H
            have H := H1
            clear H1
            have H' := Aside0.mk H
            clear H
            go_wp2
            go_loopg [6] kj7 (fun kq v6 w' => ∃ (x6_2 : Int), v6 = .int .i64 x6_2 ∧ Aside0 (laws_FnValueBad.l0 kq t342 t343 t346 x6_2 = some r) ∧ Aside0 (kq ≤ kj7) ∧ Aside0 (Kd.R (Kd.int .i64) 3 w' w.heap.size (fun k_ => some k_ ≠ ((.slice Ao13 t346.length co13) : Value).ownBlock) (.slice Ao10 t342.length co10) t342) ∧ Aside0 (Kd.R (Kd.int .i64) 3 w' w.heap.size (fun k_ => some k_ ≠ ((.slice Ao10 t342.length co10) : Value).ownBlock) (.slice Ao13 t346.length co13) t346) ∧ Aside0 (Below w.heap.size w w'))
            case atStart => exact ⟨(0), Sqz.auS, H', ⟨Nat.le_refl _⟩, ⟨(Sqz.mvR HO_3.out)⟩, ⟨(Sqz.mvR HO_5.out)⟩, ⟨Sqz.auHB⟩⟩
            case round =>
              clear H'
              try clear c1
              try clear c2
              try clear c2b0
              try clear c2b1
              try clear p2
              try clear c3
              try clear c4
              try clear c5
              try clear c7
              try clear c10
              try clear c16
              try clear c17
              try clear c17b0
              try clear c17b1
              try clear c20
              try clear c23
              try clear p2
              obtain ⟨x6_2, rfl, HA, HK2, HO_3, HO_5, HB⟩ := hrel
              cases gk with
              | zero => exact absurd HA.out (by simp [laws_FnValueBad.l0])
              | succ k2 =>
                have H := HA.out
                clear HA
                simp only [laws_FnValueBad.l0] at H
                by_cases c24 : x6_2 < (t346.length : Int)
                · rw [if_pos c24] at H
                  have c24b0 : decide (x6_2 < (t346.length : Int)) = true := decide_eq_true c24
                  clear c24
                  by_cases c25 : 0 ≤ x6_2
                  · rw [if_pos c25] at H
                    have c25b0 : decide (0 ≤ x6_2) = true := decide_eq_true c25
                    clear c25
                    replace H := Option.bind_eq_some_iff.mp H
                    obtain ⟨t356, A260, H⟩ := H
                    replace H : (if t356 = true then (some false) else (laws_FnValueBad.l0 k2 t342 t343 t346 (wrap64 (x6_2 + 1)))) = some r := H
                    have A26 := Aside0.mk A260
                    clear A260
                    by_cases c27 : t356 = true
                    · subst c27
                      have H1 : (some false) = some r := by rw [if_pos rfl] at H; exact H
                      clear H
                      have H := H1
                      clear H1
                      obtain rfl := Option.some.inj H
                      have p355 : 0 ≤ (x6_2 : Int) := of_decide_eq_true (by first | (with_reducible assumption) | assumption)
                      have q355 : x6_2 < (t346.length : Int) := of_decide_eq_true (by first | (with_reducible assumption) | assumption)
                      obtain ⟨ad355, e355, hx355_0⟩ := Kd.at_int (Kd.R_reads' HO_5.out).2.2 x6_2 p355 q355
                      cases e355
                      replace p355 := eq_true p355
                      replace q355 := eq_true q355
                      go_wp2_with (first | ((with_reducible refine gate_callee (f := 26) rfl ?_); refine goesL_ (some 51) rfl rfl Try.func26 (by kernel_rfl) rfl #[.slice Ao10 t342.length co10, .int .i64 t343, .int .i64 (rd t346 x6_2)] rfl Sqz.auM ?_; (with_reducible refine (impl_ValueAt.calls k2 _ _ t342 t343 (rd t346 x6_2) true _ ?side1 ?side2 A26.out).mono ?_); (case side1 => exact Sqz.mvC ((Kd.R_reads' HO_3.out).2.2)); (case side2 => exact (Kd.R_reads' HO_3.out).2.1); rintro e w28 ⟨rfl, hb⟩; refine ⟨_, rfl, ?_⟩; have n0_ := Aside0.mk (Kd.R_below ((Sqz.mvR HO_3.out)) hb); have n1_ := Aside0.mk (Kd.R_below ((Sqz.mvR HO_5.out)) hb); have n2_ := Aside0.mk (below_step (Sqz.auHB) hb); clear HO_3; clear HO_5; clear HB; have HO_3 := n0_; have HO_5 := n1_; have HB := n2_; clear n0_ n1_ n2_; (try clear hb); (try clear hb2); (try clear hk); (try clear hi)))
                      go_ret
                      exact ⟨Sqz.auR, Sqz.auHB⟩
                    · replace c27 := Bool.eq_false_iff.mpr c27
                      subst c27
                      have H1 : (laws_FnValueBad.l0 k2 t342 t343 t346 (wrap64 (x6_2 + 1))) = some r := by rw [if_neg (show ¬ (false = true) by decide)] at H; exact H
                      clear H
                      have H := H1
                      clear H1
                      have H' := Aside0.mk H
                      clear H
                      have p355 : 0 ≤ (x6_2 : Int) := of_decide_eq_true (by first | (with_reducible assumption) | assumption)
                      have q355 : x6_2 < (t346.length : Int) := of_decide_eq_true (by first | (with_reducible assumption) | assumption)
                      obtain ⟨ad355, e355, hx355_0⟩ := Kd.at_int (Kd.R_reads' HO_5.out).2.2 x6_2 p355 q355
                      cases e355
                      replace p355 := eq_true p355
                      replace q355 := eq_true q355
                      go_wp2_with (first | ((with_reducible refine gate_callee (f := 26) rfl ?_); refine goesL_ (some 51) rfl rfl Try.func26 (by kernel_rfl) rfl #[.slice Ao10 t342.length co10, .int .i64 t343, .int .i64 (rd t346 x6_2)] rfl Sqz.auM ?_; (with_reducible refine (impl_ValueAt.calls k2 _ _ t342 t343 (rd t346 x6_2) false _ ?side1 ?side2 A26.out).mono ?_); (case side1 => exact Sqz.mvC ((Kd.R_reads' HO_3.out).2.2)); (case side2 => exact (Kd.R_reads' HO_3.out).2.1); rintro e w29 ⟨rfl, hb⟩; refine ⟨_, rfl, ?_⟩; have n0_ := Aside0.mk (Kd.R_below ((Sqz.mvR HO_3.out)) hb); have n1_ := Aside0.mk (Kd.R_below ((Sqz.mvR HO_5.out)) hb); have n2_ := Aside0.mk (below_step (Sqz.auHB) hb); clear HO_3; clear HO_5; clear HB; have HO_3 := n0_; have HO_5 := n1_; have HB := n2_; clear n0_ n1_ n2_; (try clear hb); (try clear hb2); (try clear hk); (try clear hi)))
                      go_roundg k2
                      case measure => have := HJ7.out; have := HK2.out; omega
                      case rel => exact ⟨(wrap64 (x6_2 + 1)), Sqz.auS, H', ⟨by have := HJ7.out; have := HK2.out; omega⟩, ⟨(Sqz.mvR HO_3.out)⟩, ⟨(Sqz.mvR HO_5.out)⟩, ⟨Sqz.auHB⟩⟩
                  · rw [if_neg c25] at H
                    exact absurd H (by simp)
                · rw [if_neg c24] at H
                  have c24b0 : decide (x6_2 < (t346.length : Int)) = false := decide_eq_false c24
                  clear c24
                  replace H := Option.bind_eq_some_iff.mp H
                  obtain ⟨t357, A300, H⟩ := H
                  replace H : (if (((t346.length : Int) == 0) == t357) = true then (if (t342.length : Int) = 2 then (some (((t346.length : Int) % 2) == 0)) else (some true)) else (some false)) = some r := H
                  have A30 := Aside0.mk A300
                  clear A300
                  by_cases c31 : (((t346.length : Int) == 0) == t357) = true
                  · rw [if_pos c31] at H
                    have c31b0 : (((t346.length : Int) == 0) == t357) = true := c31
                    (try (have c31b1 : decide (((t346.length : Int) == 0) = t357) = true := by simpa using c31))
                    (try (have c31b2 : (((t346.length : Int) == 0) == t357) = true := by simpa using c31))
                    clear c31
                    by_cases c32 : (t342.length : Int) = 2
                    · rw [if_pos c32] at H
                      have c32b0 : ((t342.length : Int) == 2) = true := beq_iff_eq.mpr c32
                      have c32b1 : ((t342.length : Int) != 2) = false := bne_eq_false_iff_eq.mpr c32
                      clear c32
                      obtain rfl := Option.some.inj H
                      go_wp2_with (first | ((with_reducible refine gate_callee (f := 45) rfl ?_); refine goesL_ (some 57) rfl rfl Try.func45 (by kernel_rfl) rfl #[.slice Ao10 t342.length co10, .int .i64 t343] rfl Sqz.auM ?_; (with_reducible refine (impl_ValueEverywhere.calls k2 _ _ t342 t343 t357 _ ?side1 ?side2 A30.out).mono ?_); (case side1 => exact Sqz.mvC ((Kd.R_reads' HO_3.out).2.2)); (case side2 => exact (Kd.R_reads' HO_3.out).2.1); rintro e w33 ⟨rfl, hb⟩; refine ⟨_, rfl, ?_⟩; have n0_ := Aside0.mk (Kd.R_below ((Sqz.mvR HO_3.out)) hb); have n1_ := Aside0.mk (Kd.R_below ((Sqz.mvR HO_5.out)) hb); have n2_ := Aside0.mk (below_step (Sqz.auHB) hb); clear HO_3; clear HO_5; clear HB; have HO_3 := n0_; have HO_5 := n1_; have HB := n2_; clear n0_ n1_ n2_; (try clear hb); (try clear hb2); (try clear hk); (try clear hi)))
                      go_ret
                      exact ⟨Sqz.auR, Sqz.auHB⟩
                    · rw [if_neg c32] at H
                      have c32b0 : ((t342.length : Int) == 2) = false := beq_eq_false_iff_ne.mpr c32
                      have c32b1 : ((t342.length : Int) != 2) = true := bne_iff_ne.mpr c32
                      obtain rfl := Option.some.inj H
                      go_wp2_with (first | ((with_reducible refine gate_callee (f := 45) rfl ?_); refine goesL_ (some 57) rfl rfl Try.func45 (by kernel_rfl) rfl #[.slice Ao10 t342.length co10, .int .i64 t343] rfl Sqz.auM ?_; (with_reducible refine (impl_ValueEverywhere.calls k2 _ _ t342 t343 t357 _ ?side1 ?side2 A30.out).mono ?_); (case side1 => exact Sqz.mvC ((Kd.R_reads' HO_3.out).2.2)); (case side2 => exact (Kd.R_reads' HO_3.out).2.1); rintro e w34 ⟨rfl, hb⟩; refine ⟨_, rfl, ?_⟩; have n0_ := Aside0.mk (Kd.R_below ((Sqz.mvR HO_3.out)) hb); have n1_ := Aside0.mk (Kd.R_below ((Sqz.mvR HO_5.out)) hb); have n2_ := Aside0.mk (below_step (Sqz.auHB) hb); clear HO_3; clear HO_5; clear HB; have HO_3 := n0_; have HO_5 := n1_; have HB := n2_; clear n0_ n1_ n2_; (try clear hb); (try clear hb2); (try clear hk); (try clear hi)))
                      go_ret
                      exact ⟨Sqz.auR, Sqz.auHB⟩
                  · rw [if_neg c31] at H
                    have c31b0 : (((t346.length : Int) == 0) == t357) = false := by simpa using c31
                    (try (have c31b1 : decide (((t346.length : Int) == 0) = t357) = false := by simpa using c31))
                    (try (have c31b2 : (((t346.length : Int) == 0) == t357) = false := by simpa using c31))
                    (try (have c31b3 : ¬ (((t346.length : Int) == 0) = t357) := by simpa using c31))
                    clear c31
                    obtain rfl := Option.some.inj H
                    go_wp2_with (first | ((with_reducible refine gate_callee (f := 45) rfl ?_); refine goesL_ (some 57) rfl rfl Try.func45 (by kernel_rfl) rfl #[.slice Ao10 t342.length co10, .int .i64 t343] rfl Sqz.auM ?_; (with_reducible refine (impl_ValueEverywhere.calls k2 _ _ t342 t343 t357 _ ?side1 ?side2 A30.out).mono ?_); (case side1 => exact Sqz.mvC ((Kd.R_reads' HO_3.out).2.2)); (case side2 => exact (Kd.R_reads' HO_3.out).2.1); rintro e w35 ⟨rfl, hb⟩; refine ⟨_, rfl, ?_⟩; have n0_ := Aside0.mk (Kd.R_below ((Sqz.mvR HO_3.out)) hb); have n1_ := Aside0.mk (Kd.R_below ((Sqz.mvR HO_5.out)) hb); have n2_ := Aside0.mk (below_step (Sqz.auHB) hb); clear HO_3; clear HO_5; clear HB; have HO_3 := n0_; have HO_5 := n1_; have HB := n2_; clear n0_ n1_ n2_; (try clear hb); (try clear hb2); (try clear hk); (try clear hi)))
                    go_ret
                    exact ⟨Sqz.auR, Sqz.auHB⟩
    · replace c7 := Bool.eq_false_iff.mpr c7
      subst c7
      have H1 : (some false) = some r := by rw [if_neg (show ¬ (false = true) by decide)] at H; exact H
      clear H
      have H := H1
      clear H1
      obtain rfl := Option.some.inj H
      go_enter Try.func10, Try.ntmps10
      go_wp2_with (first | ((with_reducible refine gate_callee (f := 48) rfl ?_); refine goesL_ (some 12) rfl rfl Try.func48 (by kernel_rfl) rfl #[.slice A0 l0.length c0] rfl Sqz.auM ?_; (with_reducible refine (spec_DrawValueBad.calls k _ _ l0 t342 t343 _ ?side1 ?side2 A3.out).mono ?_); (case side1 => exact Sqz.mvC (HR0.out)); (case side2 => exact HC0.out); rintro e w36 ⟨v344, rfl, ho0, hb⟩; refine ⟨_, rfl, ?_⟩; have n0_ := Aside0.mk (Kd.R_lower ho0 (below_size (Sqz.auHB))); have n1_ := Aside0.mk (below_step (Sqz.auHB) hb); clear HB; have HO345 := n0_; have HB := n1_; clear n0_ n1_; (try clear hb); (try clear hb2); (try clear hk); (try clear hi); (try clear ho0); obtain ⟨Ao37, co37, eo37⟩ := Kd.R_slice HO345.out; subst eo37) | ((with_reducible refine gate_callee (f := 49) rfl ?_); refine goesL_ (some 17) rfl rfl Try.func49 (by kernel_rfl) rfl #[.slice Ao37 t342.length co37, .int .i64 t343] rfl Sqz.auM ?_; (with_reducible refine (impl_ValueBad.calls k _ _ t342 t343 t346 _ ?side1 ?side2 A4.out).mono ?_); (case side1 => exact Sqz.mvC ((Kd.R_reads' HO345.out).2.2)); (case side2 => exact (Kd.R_reads' HO345.out).2.1); rintro e w38 ⟨v347, rfl, ho0, hb⟩; refine ⟨_, rfl, ?_⟩; have n0_ := Aside0.mk (Kd.R_elder' ((Sqz.mvR HO345.out)) (Kd.R_base ho0) hb); have n1_ := Aside0.mk (Kd.R_lower (Kd.R_new' ho0 (Kd.R_lt ((Sqz.mvR HO345.out)))) (below_size (Sqz.auHB))); have n2_ := Aside0.mk (below_step (Sqz.auHB) hb); clear HO345; clear HB; have HO345 := n0_; have HO348 := n1_; have HB := n2_; clear n0_ n1_ n2_; (try clear hb); (try clear hb2); (try clear hk); (try clear hi); (try clear ho0)) | ((with_reducible refine gate_callee (f := 50) rfl ?_); refine goesL_ (some 21) rfl rfl Try.func50 (by kernel_rfl) rfl #[.slice Ao37 t342.length co37, .int .i64 t343] rfl Sqz.auM ?_; (with_reducible refine (spec_ValueBad.calls k _ _ t342 t343 t349 _ ?side1 ?side2 A5.out).mono ?_); (case side1 => exact Sqz.mvC ((Kd.R_reads' HO345.out).2.2)); (case side2 => exact (Kd.R_reads' HO345.out).2.1); rintro e w39 ⟨v350, rfl, ho0, hb⟩; refine ⟨_, rfl, ?_⟩; have n0_ := Aside0.mk (Kd.R_elder' ((Sqz.mvR HO345.out)) (Kd.R_base ho0) hb); have n1_ := Aside0.mk (Kd.R_elder' ((Sqz.mvR HO348.out)) (Kd.R_base ho0) hb); have n2_ := Aside0.mk (Kd.R_lower (Kd.R_new' (Kd.R_new' ho0 (Kd.R_lt ((Sqz.mvR HO345.out)))) (Kd.R_lt ((Sqz.mvR HO348.out)))) (below_size (Sqz.auHB))); have n3_ := Aside0.mk (below_step (Sqz.auHB) hb); clear HO345; clear HO348; clear HB; have HO345 := n0_; have HO348 := n1_; have HO351 := n2_; have HB := n3_; clear n0_ n1_ n2_ n3_; (try clear hb); (try clear hb2); (try clear hk); (try clear hi); (try clear ho0); obtain ⟨Ao40, co40, eo40⟩ := Kd.R_slice HO348.out; subst eo40; obtain ⟨Ao41, co41, eo41⟩ := Kd.R_slice HO351.out; subst eo41) | ((with_reducible refine gate_callee (f := 37) rfl ?_); refine goesL_ (some 22) rfl rfl Try.func37 (by kernel_rfl) rfl #[.slice Ao40 t346.length co40, .slice Ao41 t349.length co41] rfl Sqz.auM ?_; (with_reducible refine (laws_sameInts.calls k _ _ t346 _ _ t349 false _ ?side1 ?side2 ?side3 ?side4 A6.out).mono ?_); (case side1 => exact Sqz.mvC ((Kd.R_reads' HO348.out).2.2)); (case side2 => exact (Kd.R_reads' HO348.out).2.1); (case side3 => exact Sqz.mvC ((Kd.R_reads' HO351.out).2.2)); (case side4 => exact (Kd.R_reads' HO351.out).2.1); rintro e w' ⟨rfl, ⟨nd, rfl⟩⟩; refine ⟨_, rfl, ?_⟩))
      go_ret
      exact ⟨Sqz.auR, Sqz.auHB⟩

/-- THE ONE PURE STATEMENT of laws_FnValueBad: yours. -/
def laws_FnValueBad.Pure : Prop := ∀ (l0 : List Int), l0.length ≤ maxLen → l0.length * 1 ≤ 140737488351232 → (∀ x ∈ l0, (Lit.int .u8 x).wf = true) → ∃ k, laws_FnValueBad.f k l0 = some true
theorem laws_FnValueBad.walk (P : laws_FnValueBad.Pure) (a0 : Option Addr) (len0 cap0 : Nat) (z0 : List Int) (w : World) (w0 : (a0 = none ∧ len0 = 0 ∧ cap0 = 0 ∧ z0 = []) ∨ ∃ x, a0 = some x ∧ len0 ≤ cap0 ∧ cap0 ≤ maxLen ∧ z0.length = cap0 ∧ (∀ i, i < z0.length → w.cell? (x.add i) = some (.int .u8 (z0.getD i 0))) ∧ ∀ n ∈ z0, (Lit.int .u8 n).wf = true) (y0 : len0 * 1 ≤ 140737488351232) :
    Calls Try.prog 10 #[.slice a0 len0 cap0] w fun e w' => e = .returned (.bool true) ∧ Below w.heap.size w w' := by
  obtain ⟨l0, rfl, hr0, hm0, hw0, hc0⟩ := ReadsInt.ofRowC w0
  obtain ⟨k, h⟩ := P l0 hm0 y0 hw0
  refine (laws_FnValueBad.calls k _ _ l0 true w (Kd.C_of_reads (d := (0 : Int)) (h1 := fun _ => rfl) hr0) hc0 h).mono ?_
  rintro e w' ⟨rfl, hd⟩
  exact ⟨rfl, hd⟩

end Go.Proofs.Ytihadpckmcebgaa.PFnValueBad
