/- A function's Lean twin and its walk, written by a program of this session. -/
import Derived.Test.YtihadpckmcebgaaTPFnPlanesAllx0
import Derived.Test.YtihadpckmcebgaaTPFnPlanesAllx3
namespace Go.Proofs.Ytihadpckmcebgaa.PFnPlanesAll
open Go.RowKit Go.Proofs.YtihadpckmcebgaaW.PrintWords Go.Proofs.YtihadpckmcebgaaW.PrintLast Go.Proofs.YtihadpckmcebgaaW.PrintMore
attribute [local go_sem] max2_int min2_int max_two min_two max_three min_three max_four min_four   -- for this text's walks alone
set_option linter.unusedVariables false
set_option linter.unusedSimpArgs false

/-! ### spec_l1Core: function 143 -/
mutual
def spec_l1Core.l0 : Nat → Int → Int → Int → Option (Int × Int)
  | 0, _, _, _ => none
  | k + 1, x0, x4, x5 => (spec_l1Size.f x0).bind fun t231 => (if (wrap64 (x5 * x5)) ≤ t231 then (spec_l1Core.l1 k x0 x4 x5) else (some (x0, x4)))
def spec_l1Core.l1 : Nat → Int → Int → Int → Option (Int × Int)
  | 0, _, _, _ => none
  | k + 1, x0, x4, x5 => if (wrap64 (x5 * x5)) = 0 then (none) else (if (Int.tmod x0 (wrap64 (x5 * x5))) = 0 then (spec_l1Core.l1 k (wrap64 (Int.tdiv x0 (wrap64 (x5 * x5)))) (wrap64 (x4 * x5)) x5) else (spec_l1Core.l0 k x0 x4 (wrap64 (x5 + 1))))
end
def spec_l1Core.f (k : Nat) (a0 : Int) : Option (Int × Int) := spec_l1Core.l0 k a0 1 2
set_option maxHeartbeats 8000000 in
set_option maxRecDepth 100000 in
theorem spec_l1Core.calls (k : Nat) (a0 : Int) (r1 : Int) (r2 : Int) (w : World) (h : spec_l1Core.f k a0 = some (r1, r2)) :
    Calls Try.prog 143 #[.int .i64 a0] w fun e w' => e = .returned (.tuple #[.int .i64 r1, .int .i64 r2]) ∧ Below w.heap.size w w' := by
  have HB := Aside0.mk (Below.refl w.heap.size w)
  have H : (spec_l1Core.l0 k a0 1 2) = some (r1, r2) := h
  clear h
  have H' := Aside0.mk H
  clear H
  go_enter Try.func143, Try.ntmps143
  go_wp2
  go_loopg [0, 4, 5] k (fun kq v0 v4 v5 w' => ∃ (x0_1 : Int) (x4_1 : Int) (x5_1 : Int), v0 = .int .i64 x0_1 ∧ v4 = .int .i64 x4_1 ∧ v5 = .int .i64 x5_1 ∧ Aside0 (spec_l1Core.l0 kq x0_1 x4_1 x5_1 = some (r1, r2)) ∧ Aside0 (kq ≤ k) ∧ Aside0 (Below w.heap.size w w'))
  case atStart => exact ⟨(a0), (1), (2), Sqz.auS, Sqz.auS, Sqz.auS, H', ⟨Nat.le_refl _⟩, ⟨Sqz.auHB⟩⟩
  case round =>
    clear H'
    try clear c1
    obtain ⟨x0_1, x4_1, x5_1, rfl, rfl, rfl, HA, HK1, HB⟩ := hrel
    cases gk with
    | zero => exact absurd HA.out (by simp [spec_l1Core.l0])
    | succ k1 =>
      have H := HA.out
      clear HA
      simp only [spec_l1Core.l0] at H
      replace H := Option.bind_eq_some_iff.mp H
      obtain ⟨t231, A20, H⟩ := H
      replace H : (if (wrap64 (x5_1 * x5_1)) ≤ t231 then (spec_l1Core.l1 k1 x0_1 x4_1 x5_1) else (some (x0_1, x4_1))) = some (r1, r2) := H
      have A2 := Aside0.mk A20
      clear A20
      by_cases c3 : (wrap64 (x5_1 * x5_1)) ≤ t231
      · rw [if_pos c3] at H
        have c3b0 : decide ((wrap64 (x5_1 * x5_1)) ≤ t231) = true := decide_eq_true c3
        clear c3
        have H' := Aside0.mk H
        clear H
        go_wp2_with (first | ((with_reducible refine gate_callee (f := 144) rfl ?_); refine goesL_ (some 10) rfl rfl Try.func144 (by kernel_rfl) rfl #[.int .i64 x0_1] rfl Sqz.auM ?_; (with_reducible refine (spec_l1Size.calls x0_1 t231 _ A2.out).mono ?_); rintro e w4 ⟨rfl, hb⟩; refine ⟨_, rfl, ?_⟩; have n0_ := Aside0.mk (below_step (Sqz.auHB) hb); clear HB; have HB := n0_; clear n0_; (try clear hb); (try clear hb2); (try clear hk); (try clear hi)))
        go_loopg [0, 4] k1 (fun kq v0 v4 w' => ∃ (x0_2 : Int) (x4_2 : Int), v0 = .int .i64 x0_2 ∧ v4 = .int .i64 x4_2 ∧ Aside0 (spec_l1Core.l1 kq x0_2 x4_2 x5_1 = some (r1, r2)) ∧ Aside0 (kq ≤ k1) ∧ Aside0 (Below w.heap.size w w'))
        case atStart => exact ⟨(x0_1), (x4_1), Sqz.auS, Sqz.auS, H', ⟨Nat.le_refl _⟩, ⟨Sqz.auHB⟩⟩
        case round =>
          clear H'
          try clear c1
          try clear p2
          try clear c3
          try clear c3b0
          obtain ⟨x0_2, x4_2, rfl, rfl, HA, HK2, HB⟩ := hrel
          cases gk with
          | zero => exact absurd HA.out (by simp [spec_l1Core.l1])
          | succ k2 =>
            have H := HA.out
            clear HA
            simp only [spec_l1Core.l1] at H
            by_cases c5 : (wrap64 (x5_1 * x5_1)) = 0
            · rw [if_pos c5] at H
              exact absurd H (by simp)
            · rw [if_neg c5] at H
              have c5b0 : ((wrap64 (x5_1 * x5_1)) == 0) = false := beq_eq_false_iff_ne.mpr c5
              have c5b1 : ((wrap64 (x5_1 * x5_1)) != 0) = true := bne_iff_ne.mpr c5
              by_cases c6 : (Int.tmod x0_2 (wrap64 (x5_1 * x5_1))) = 0
              · rw [if_pos c6] at H
                have c6b0 : ((Int.tmod x0_2 (wrap64 (x5_1 * x5_1))) == 0) = true := beq_iff_eq.mpr c6
                have c6b1 : ((Int.tmod x0_2 (wrap64 (x5_1 * x5_1))) != 0) = false := bne_eq_false_iff_eq.mpr c6
                clear c6
                have H' := Aside0.mk H
                clear H
                go_wp2
                go_roundg k2
                case measure => have := HK1.out; have := HK2.out; omega
                case rel => exact ⟨(wrap64 (Int.tdiv x0_2 (wrap64 (x5_1 * x5_1)))), (wrap64 (x4_2 * x5_1)), Sqz.auS, Sqz.auS, H', ⟨by have := HK1.out; have := HK2.out; omega⟩, ⟨Sqz.auHB⟩⟩
              · rw [if_neg c6] at H
                have c6b0 : ((Int.tmod x0_2 (wrap64 (x5_1 * x5_1))) == 0) = false := beq_eq_false_iff_ne.mpr c6
                have c6b1 : ((Int.tmod x0_2 (wrap64 (x5_1 * x5_1))) != 0) = true := bne_iff_ne.mpr c6
                have H' := Aside0.mk H
                clear H
                go_wp2
                go_roundg k2
                case measure => have := HK1.out; have := HK2.out; omega
                case rel => exact ⟨(x0_2), (x4_2), (wrap64 (x5_1 + 1)), Sqz.auS, Sqz.auS, Sqz.auS, H', ⟨by have := HK1.out; have := HK2.out; omega⟩, ⟨Sqz.auHB⟩⟩
      · rw [if_neg c3] at H
        have c3b0 : decide ((wrap64 (x5_1 * x5_1)) ≤ t231) = false := decide_eq_false c3
        clear c3
        simp only [Option.some.injEq, Prod.mk.injEq] at H
        obtain ⟨rfl, rfl⟩ := H
        go_wp2_with (first | ((with_reducible refine gate_callee (f := 144) rfl ?_); refine goesL_ (some 10) rfl rfl Try.func144 (by kernel_rfl) rfl #[.int .i64 x0_1] rfl Sqz.auM ?_; (with_reducible refine (spec_l1Size.calls x0_1 t231 _ A2.out).mono ?_); rintro e w7 ⟨rfl, hb⟩; refine ⟨_, rfl, ?_⟩; have n0_ := Aside0.mk (below_step (Sqz.auHB) hb); clear HB; have HB := n0_; clear n0_; (try clear hb); (try clear hb2); (try clear hk); (try clear hi)))
        go_ret2
        exact ⟨Sqz.auR, Sqz.auHB⟩

/-! ### spec_l91Same: function 105 -/
def spec_l91Same.j0 : Nat → List Int → Int → Int → Int → Int → Bool → List Int → Int → Option (List Int × Int)
  | 0, _, _, _, _, _, _, _, _ => none
  | k + 1, x5, x6, x7, x8, x11, x59, x1000, x1001 => if x59 = true then ((spec_l1Core.f k x11).bind fun bt248 => ((spec_l1Core.f k (wrap64 ((wrap64 (x7 * x8)) * x11))).bind fun bt250 => ((spec_l1Size.f bt248.1).bind fun t252 => (if t252 ≤ 30 then ((spec_l1Size.f bt250.1).bind fun t253 => (if t253 ≤ 30 then (if 0 ≤ x6 then (if x6 < (x5.length : Int) then (if 0 ≤ (wrap64 (x6 + 1)) then (if (wrap64 (x6 + 1)) < (x5.length : Int) then (some (((x5.set (x6 : Int).toNat bt248.1).set ((wrap64 (x6 + 1)) : Int).toNat bt250.1), x1001)) else (none)) else (none)) else (none)) else (none)) else (if 0 ≤ x6 then (if x6 < (x5.length : Int) then (if 0 ≤ (wrap64 (x6 + 1)) then (if (wrap64 (x6 + 1)) < (x5.length : Int) then (some (((x5.set (x6 : Int).toNat x8).set ((wrap64 (x6 + 1)) : Int).toNat x7), x1001)) else (none)) else (none)) else (none)) else (none)))) else (if 0 ≤ x6 then (if x6 < (x5.length : Int) then (if 0 ≤ (wrap64 (x6 + 1)) then (if (wrap64 (x6 + 1)) < (x5.length : Int) then (some (((x5.set (x6 : Int).toNat x8).set ((wrap64 (x6 + 1)) : Int).toNat x7), x1001)) else (none)) else (none)) else (none)) else (none)))))) else (if 0 ≤ x6 then (if x6 < (x5.length : Int) then (if 0 ≤ (wrap64 (x6 + 1)) then (if (wrap64 (x6 + 1)) < (x5.length : Int) then (some (((x5.set (x6 : Int).toNat x8).set ((wrap64 (x6 + 1)) : Int).toNat x7), x1001)) else (none)) else (none)) else (none)) else (none))
def spec_l91Same.f (k : Nat) (s0_0 : List Int) (s0_1 : Int) (l1 : List Int) : Option (List Int × Int) := (some (([] : List Int) : List Int)).bind fun y232 => (if y232.length + l1.length < 17592186044416 then ((some (y232 ++ l1 : List Int)).bind fun y235 => (if (y235.length : Int) < 2 then (some (y235, s0_1)) else ((spec_l6Rd_pick.f k s0_0 s0_1 (wrap64 ((y235.length : Int) - 1))).bind fun bt238 => (if 0 ≤ bt238.1 then (if bt238.1 < (y235.length : Int) then (if 0 ≤ (wrap64 (bt238.1 + 1)) then (if (wrap64 (bt238.1 + 1)) < (y235.length : Int) then ((spec_l6Rd_pick.f k s0_0 bt238.2 2).bind fun bt242 => ((spec_l6Rd_pick.f k s0_0 bt242.2 2).bind fun bt244 => (if (wrap64 ((wrap64 ((wrap64 ((rd y235 bt238.1) * bt242.1)) * bt242.1)) + (wrap64 ((wrap64 ((rd y235 (wrap64 (bt238.1 + 1))) * (wrap64 (1 + bt244.1)))) * (wrap64 (1 + bt244.1)))))) = 0 then (spec_l91Same.j0 k y235 bt238.1 (rd y235 bt238.1) (rd y235 (wrap64 (bt238.1 + 1))) (wrap64 ((wrap64 ((wrap64 ((rd y235 bt238.1) * bt242.1)) * bt242.1)) + (wrap64 ((wrap64 ((rd y235 (wrap64 (bt238.1 + 1))) * (wrap64 (1 + bt244.1)))) * (wrap64 (1 + bt244.1)))))) false s0_0 bt244.2) else ((spec_l6Rd_pick.f k s0_0 bt244.2 3).bind fun bt246 => (spec_l91Same.j0 k y235 bt238.1 (rd y235 bt238.1) (rd y235 (wrap64 (bt238.1 + 1))) (wrap64 ((wrap64 ((wrap64 ((rd y235 bt238.1) * bt242.1)) * bt242.1)) + (wrap64 ((wrap64 ((rd y235 (wrap64 (bt238.1 + 1))) * (wrap64 (1 + bt244.1)))) * (wrap64 (1 + bt244.1)))))) (decide (bt246.1 > 0)) s0_0 bt246.2))))) else (none)) else (none)) else (none)) else (none))))) else (none))
set_option maxHeartbeats 8000000 in
set_option maxRecDepth 100000 in
theorem spec_l91Same.calls (k : Nat) (g : Nat) (s0_0 : List Int) (s0_1 : Int) (A1 : Option Addr) (c1 : Nat) (l1 : List Int) (r1 : List Int) (r2 : Int) (w0 w : World) (hI : IsS74 w0 w g s0_0 s0_1) (hB : Below w0.heap.size w0 w) (hr1 : Kd.C (Kd.int .i64) w A1 l1.length l1) (hc1 : l1.length ≤ c1) (hf1 : ∀ ad, A1 = some ad → 0 < l1.length → ad.block ≠ g) (h : spec_l91Same.f k s0_0 s0_1 l1 = some (r1, r2)) :
    Calls Try.prog 105 #[.pointer (some ⟨g, 0, none⟩), .slice A1 l1.length c1] w fun e w' => ∃ v0_ : Value, e = .returned (v0_) ∧ Kd.R (Kd.int .i64) 3 w' w.heap.size (fun _ => True) v0_ r1 ∧ IsS74 w0 w' g s0_0 r2 ∧ Below w0.heap.size w0 w' ∧ KeepBut w w' g none := by
  have HR1 := Aside0.mk hr1
  have HC1 := Aside0.mk hc1
  clear hr1 hc1
  have HI0 := Aside0.mk hI
  have HK := Aside0.mk (KeepBut.refl w g none)
  have HL := Aside0.mk hB.size
  clear hI
  have HW0 := Aside0.mk hB.size
  have HB := Aside0.mk hB
  clear hB
  have H : ((some (([] : List Int) : List Int)).bind fun y232 => (if y232.length + l1.length < 17592186044416 then ((some (y232 ++ l1 : List Int)).bind fun y235 => (if (y235.length : Int) < 2 then (some (y235, s0_1)) else ((spec_l6Rd_pick.f k s0_0 s0_1 (wrap64 ((y235.length : Int) - 1))).bind fun bt238 => (if 0 ≤ bt238.1 then (if bt238.1 < (y235.length : Int) then (if 0 ≤ (wrap64 (bt238.1 + 1)) then (if (wrap64 (bt238.1 + 1)) < (y235.length : Int) then ((spec_l6Rd_pick.f k s0_0 bt238.2 2).bind fun bt242 => ((spec_l6Rd_pick.f k s0_0 bt242.2 2).bind fun bt244 => (if (wrap64 ((wrap64 ((wrap64 ((rd y235 bt238.1) * bt242.1)) * bt242.1)) + (wrap64 ((wrap64 ((rd y235 (wrap64 (bt238.1 + 1))) * (wrap64 (1 + bt244.1)))) * (wrap64 (1 + bt244.1)))))) = 0 then (spec_l91Same.j0 k y235 bt238.1 (rd y235 bt238.1) (rd y235 (wrap64 (bt238.1 + 1))) (wrap64 ((wrap64 ((wrap64 ((rd y235 bt238.1) * bt242.1)) * bt242.1)) + (wrap64 ((wrap64 ((rd y235 (wrap64 (bt238.1 + 1))) * (wrap64 (1 + bt244.1)))) * (wrap64 (1 + bt244.1)))))) false s0_0 bt244.2) else ((spec_l6Rd_pick.f k s0_0 bt244.2 3).bind fun bt246 => (spec_l91Same.j0 k y235 bt238.1 (rd y235 bt238.1) (rd y235 (wrap64 (bt238.1 + 1))) (wrap64 ((wrap64 ((wrap64 ((rd y235 bt238.1) * bt242.1)) * bt242.1)) + (wrap64 ((wrap64 ((rd y235 (wrap64 (bt238.1 + 1))) * (wrap64 (1 + bt244.1)))) * (wrap64 (1 + bt244.1)))))) (decide (bt246.1 > 0)) s0_0 bt246.2))))) else (none)) else (none)) else (none)) else (none))))) else (none))) = some (r1, r2) := h
  clear h
  obtain ⟨y232, hy232⟩ : ∃ y_ : List Int, y_ = (([] : List Int)) := ⟨_, rfl⟩
  replace H : (if y232.length + l1.length < 17592186044416 then ((some (y232 ++ l1 : List Int)).bind fun y235 => (if (y235.length : Int) < 2 then (some (y235, s0_1)) else ((spec_l6Rd_pick.f k s0_0 s0_1 (wrap64 ((y235.length : Int) - 1))).bind fun bt238 => (if 0 ≤ bt238.1 then (if bt238.1 < (y235.length : Int) then (if 0 ≤ (wrap64 (bt238.1 + 1)) then (if (wrap64 (bt238.1 + 1)) < (y235.length : Int) then ((spec_l6Rd_pick.f k s0_0 bt238.2 2).bind fun bt242 => ((spec_l6Rd_pick.f k s0_0 bt242.2 2).bind fun bt244 => (if (wrap64 ((wrap64 ((wrap64 ((rd y235 bt238.1) * bt242.1)) * bt242.1)) + (wrap64 ((wrap64 ((rd y235 (wrap64 (bt238.1 + 1))) * (wrap64 (1 + bt244.1)))) * (wrap64 (1 + bt244.1)))))) = 0 then (spec_l91Same.j0 k y235 bt238.1 (rd y235 bt238.1) (rd y235 (wrap64 (bt238.1 + 1))) (wrap64 ((wrap64 ((wrap64 ((rd y235 bt238.1) * bt242.1)) * bt242.1)) + (wrap64 ((wrap64 ((rd y235 (wrap64 (bt238.1 + 1))) * (wrap64 (1 + bt244.1)))) * (wrap64 (1 + bt244.1)))))) false s0_0 bt244.2) else ((spec_l6Rd_pick.f k s0_0 bt244.2 3).bind fun bt246 => (spec_l91Same.j0 k y235 bt238.1 (rd y235 bt238.1) (rd y235 (wrap64 (bt238.1 + 1))) (wrap64 ((wrap64 ((wrap64 ((rd y235 bt238.1) * bt242.1)) * bt242.1)) + (wrap64 ((wrap64 ((rd y235 (wrap64 (bt238.1 + 1))) * (wrap64 (1 + bt244.1)))) * (wrap64 (1 + bt244.1)))))) (decide (bt246.1 > 0)) s0_0 bt246.2))))) else (none)) else (none)) else (none)) else (none))))) else (none)) = some (r1, r2) := by first | (rw [hy232]; with_reducible exact H) | (have H2_ := (Option.bind_some _ _).symm.trans H; rw [hy232]; with_reducible exact H2_) | (have H2_ := (Option.bind_some _ _).symm.trans H; with_reducible exact H2_) | with_reducible exact H | (rw [hy232]; exact H) | exact H
  have Ny232 := Aside0.mk hy232
  clear hy232
  by_cases c3 : y232.length + l1.length < 17592186044416
  · rw [if_pos c3] at H
    have LMc3 := Aside0.mk c3
    clear c3
    obtain ⟨y235, hy235⟩ : ∃ y_ : List Int, y_ = (y232 ++ l1) := ⟨_, rfl⟩
    replace H : (if (y235.length : Int) < 2 then (some (y235, s0_1)) else ((spec_l6Rd_pick.f k s0_0 s0_1 (wrap64 ((y235.length : Int) - 1))).bind fun bt238 => (if 0 ≤ bt238.1 then (if bt238.1 < (y235.length : Int) then (if 0 ≤ (wrap64 (bt238.1 + 1)) then (if (wrap64 (bt238.1 + 1)) < (y235.length : Int) then ((spec_l6Rd_pick.f k s0_0 bt238.2 2).bind fun bt242 => ((spec_l6Rd_pick.f k s0_0 bt242.2 2).bind fun bt244 => (if (wrap64 ((wrap64 ((wrap64 ((rd y235 bt238.1) * bt242.1)) * bt242.1)) + (wrap64 ((wrap64 ((rd y235 (wrap64 (bt238.1 + 1))) * (wrap64 (1 + bt244.1)))) * (wrap64 (1 + bt244.1)))))) = 0 then (spec_l91Same.j0 k y235 bt238.1 (rd y235 bt238.1) (rd y235 (wrap64 (bt238.1 + 1))) (wrap64 ((wrap64 ((wrap64 ((rd y235 bt238.1) * bt242.1)) * bt242.1)) + (wrap64 ((wrap64 ((rd y235 (wrap64 (bt238.1 + 1))) * (wrap64 (1 + bt244.1)))) * (wrap64 (1 + bt244.1)))))) false s0_0 bt244.2) else ((spec_l6Rd_pick.f k s0_0 bt244.2 3).bind fun bt246 => (spec_l91Same.j0 k y235 bt238.1 (rd y235 bt238.1) (rd y235 (wrap64 (bt238.1 + 1))) (wrap64 ((wrap64 ((wrap64 ((rd y235 bt238.1) * bt242.1)) * bt242.1)) + (wrap64 ((wrap64 ((rd y235 (wrap64 (bt238.1 + 1))) * (wrap64 (1 + bt244.1)))) * (wrap64 (1 + bt244.1)))))) (decide (bt246.1 > 0)) s0_0 bt246.2))))) else (none)) else (none)) else (none)) else (none)))) = some (r1, r2) := by first | (rw [hy235]; with_reducible exact H) | (have H2_ := (Option.bind_some _ _).symm.trans H; rw [hy235]; with_reducible exact H2_) | (have H2_ := (Option.bind_some _ _).symm.trans H; with_reducible exact H2_) | with_reducible exact H | (rw [hy235]; exact H) | exact H
    have Ny235 := Aside0.mk hy235
    clear hy235
    by_cases c4 : (y235.length : Int) < 2
    · rw [if_pos c4] at H
      have c4b0 : decide ((y235.length : Int) < 2) = true := decide_eq_true c4
      have c4b1 : decide (y235.length < 2) = true := decide_eq_true (by omega)
      clear c4
      simp only [Option.some.injEq, Prod.mk.injEq] at H
      obtain ⟨rfl, rfl⟩ := H
      go_enter Try.func105, Try.ntmps105
      go_wp2_with (first | ((with_reducible refine gate_dst (N := 16) rfl ?_); refine Kd.R_lit (Kd.int .i64) _ 3 ?hg (N := 16) ?hd (xs := ([] : List Int)) (inner := []) (ok := fun _ => True) (okp := fun _ => True) ?hr ?hp (fun _ hk => hk) trivial (Below.refl _ _) (Nat.le_refl _) (by simp) ?_; (case hd => rfl); (case hg => rfl); (case hr => first | (go_simp; done) | (go_simp; rfl)); (case hp => exact (Reps.none _ _)); intro v233 w5 ho6 hb hg_ hnew_; clear hg_ hnew_; (first | rw [← Ny232.out] at ho6 | (simp only [Int.reduceToNat] at ho6; rw [← Ny232.out] at ho6)); have n0_ := Aside0.mk (Kd.R_lower ho6 (keep_size (w := w) (g := g) (row := none) (by repeat (first | (with_reducible first | exact HK.out | apply KeepBut.set_ | apply keep_drewN | apply keep_drew | apply keep_alloc) | exact HK.out)))); have n1_ := Aside0.mk (IsS74.below (by repeat (first | (with_reducible first | exact HI0.out | apply IsS74.alloc | apply IsS74.drewN | apply IsS74.drew | apply IsS74.set_1) | exact HI0.out)) hb); have n2_ := Aside0.mk (KeepBut.trans (by repeat (first | (with_reducible first | exact HK.out | apply KeepBut.set_ | apply keep_drewN | apply keep_drew | apply keep_alloc) | exact HK.out)) (KeepBut.of_below hb g none) (.inl rfl)); have n3_ := Aside0.mk (below_step (by repeat (first | (with_reducible first | exact HB.out | apply below_alloc | apply pw_below_drewN | apply below_drew1 | refine below_set ?_ (IsS74.ge HI0.out)) | exact HB.out)) hb); clear HI0; clear HK; clear HB; have HO234 := n0_; have HI0 := n1_; have HK := n2_; have HB := n3_; clear n0_ n1_ n2_ n3_; clear hb ho6) | ((with_reducible refine gate_builtin (b := .append) (xs := #[.tmp 16, .tmp 17]) rfl ?_); at_builtin; refine Kd.R_append_rows (Kd.int .i64) w.heap.size rfl (.tmp 16) (.tmp 17) 25 3 (.int .i64 0) 8 rfl Try.underlying25 info3 rfl (by decide) (by omega) v233 y232 l1 _ _ _ (fun _ => True) (fun _ => False) rfl rfl ?aO ?aR (fun _ _ h => h) (fun _ h => h.elim) ?aF (Below.refl _ _) ?aS ?aL ?_; (case aR => exact Kd.C_keep 0 HR1.out (by repeat (first | (with_reducible first | exact HK.out | apply KeepBut.set_ | apply keep_drewN | apply keep_drew | apply keep_alloc) | exact HK.out)) hf1); (case aF => exact (fun _ _ => trivial)); (case aO => exact ((Sqz.mvR HO234.out))); (case aS => exact (keep_size (w := w) (g := g) (row := none) (by repeat (first | (with_reducible first | exact HK.out | apply KeepBut.set_ | apply keep_drewN | apply keep_drew | apply keep_alloc) | exact HK.out)))); (case aL => have := LMc3.out; omega); intro v236 w7 ho hb hg hat; rw [← Ny235.out] at ho; have n0_ := Aside0.mk (IsS74.grown (by repeat (first | (with_reducible first | exact HI0.out | apply IsS74.alloc | apply IsS74.drewN | apply IsS74.drew | apply IsS74.set_1) | exact HI0.out)) hg (IsS74.own_ne HI0.out HO234.out (by decide))); have n1_ := Aside0.mk (below_weaken (by repeat (first | (with_reducible first | exact HB.out | apply below_alloc | apply pw_below_drewN | apply below_drew1 | refine below_set ?_ (IsS74.ge HI0.out)) | exact HB.out)) HL.out hb); have n2_ := Aside0.mk (KeepBut.trans (by repeat (first | (with_reducible first | exact HK.out | apply KeepBut.set_ | apply keep_drewN | apply keep_drew | apply keep_alloc) | exact HK.out)) (KeepBut.of_grown hg g) (Kd.R_base2 HO234.out)); have n3_ := Aside0.mk (ho); clear HI0; clear HB; clear HK; clear HO234; have HI0 := n0_; have HB := n1_; have HK := n2_; have HO237 := n3_; clear n0_ n1_ n2_ n3_; clear ho hb hg hat; obtain ⟨Ao8, co8, eo8⟩ := Kd.R_slice HO237.out; subst eo8))
      go_ret
      exact ⟨_, Sqz.auR, (Sqz.mvR HO237.out), by repeat (first | (with_reducible first | exact HI0.out | apply IsS74.alloc | apply IsS74.drewN | apply IsS74.drew | apply IsS74.set_1) | exact HI0.out), by repeat (first | (with_reducible first | exact HB.out | apply below_alloc | apply pw_below_drewN | apply below_drew1 | refine below_set ?_ (IsS74.ge HI0.out)) | exact HB.out), by repeat (first | (with_reducible first | exact HK.out | apply KeepBut.set_ | apply keep_drewN | apply keep_drew | apply keep_alloc) | exact HK.out)⟩
    · rw [if_neg c4] at H
      have c4b0 : decide ((y235.length : Int) < 2) = false := decide_eq_false c4
      have c4b1 : decide (y235.length < 2) = false := decide_eq_false (by omega)
      clear c4
      replace H := Option.bind_eq_some_iff.mp H
      obtain ⟨⟨t238, t239⟩, A90, H⟩ := H
      replace H : (if 0 ≤ t238 then (if t238 < (y235.length : Int) then (if 0 ≤ (wrap64 (t238 + 1)) then (if (wrap64 (t238 + 1)) < (y235.length : Int) then ((spec_l6Rd_pick.f k s0_0 t239 2).bind fun bt242 => ((spec_l6Rd_pick.f k s0_0 bt242.2 2).bind fun bt244 => (if (wrap64 ((wrap64 ((wrap64 ((rd y235 t238) * bt242.1)) * bt242.1)) + (wrap64 ((wrap64 ((rd y235 (wrap64 (t238 + 1))) * (wrap64 (1 + bt244.1)))) * (wrap64 (1 + bt244.1)))))) = 0 then (spec_l91Same.j0 k y235 t238 (rd y235 t238) (rd y235 (wrap64 (t238 + 1))) (wrap64 ((wrap64 ((wrap64 ((rd y235 t238) * bt242.1)) * bt242.1)) + (wrap64 ((wrap64 ((rd y235 (wrap64 (t238 + 1))) * (wrap64 (1 + bt244.1)))) * (wrap64 (1 + bt244.1)))))) false s0_0 bt244.2) else ((spec_l6Rd_pick.f k s0_0 bt244.2 3).bind fun bt246 => (spec_l91Same.j0 k y235 t238 (rd y235 t238) (rd y235 (wrap64 (t238 + 1))) (wrap64 ((wrap64 ((wrap64 ((rd y235 t238) * bt242.1)) * bt242.1)) + (wrap64 ((wrap64 ((rd y235 (wrap64 (t238 + 1))) * (wrap64 (1 + bt244.1)))) * (wrap64 (1 + bt244.1)))))) (decide (bt246.1 > 0)) s0_0 bt246.2))))) else (none)) else (none)) else (none)) else (none)) = some (r1, r2) := H
      have A9 := Aside0.mk A90
      clear A90
      by_cases c10 : 0 ≤ t238
      · rw [if_pos c10] at H
        have c10b0 : decide (0 ≤ t238) = true := decide_eq_true c10
        clear c10
        by_cases c11 : t238 < (y235.length : Int)
        · rw [if_pos c11] at H
          have c11b0 : decide (t238 < (y235.length : Int)) = true := decide_eq_true c11
          clear c11
          obtain ⟨ji12, hji12⟩ : ∃ j_ : Int, (wrap64 (t238 + 1)) = j_ := ⟨_, rfl⟩
          replace H : (if 0 ≤ (ji12) then (if (ji12) < (y235.length : Int) then ((spec_l6Rd_pick.f k s0_0 t239 2).bind fun bt242 => ((spec_l6Rd_pick.f k s0_0 bt242.2 2).bind fun bt244 => (if (wrap64 ((wrap64 ((wrap64 ((rd y235 t238) * bt242.1)) * bt242.1)) + (wrap64 ((wrap64 ((rd y235 (ji12)) * (wrap64 (1 + bt244.1)))) * (wrap64 (1 + bt244.1)))))) = 0 then (spec_l91Same.j0 k y235 t238 (rd y235 t238) (rd y235 (ji12)) (wrap64 ((wrap64 ((wrap64 ((rd y235 t238) * bt242.1)) * bt242.1)) + (wrap64 ((wrap64 ((rd y235 (ji12)) * (wrap64 (1 + bt244.1)))) * (wrap64 (1 + bt244.1)))))) false s0_0 bt244.2) else ((spec_l6Rd_pick.f k s0_0 bt244.2 3).bind fun bt246 => (spec_l91Same.j0 k y235 t238 (rd y235 t238) (rd y235 (ji12)) (wrap64 ((wrap64 ((wrap64 ((rd y235 t238) * bt242.1)) * bt242.1)) + (wrap64 ((wrap64 ((rd y235 (ji12)) * (wrap64 (1 + bt244.1)))) * (wrap64 (1 + bt244.1)))))) (decide (bt246.1 > 0)) s0_0 bt246.2))))) else (none)) else (none)) = some (r1, r2) := by first | (rw [hji12] at H; exact H) | (simp only [hji12] at H ⊢; exact H)
          (try rw [hji12] at A9)
          have hji12w : (IntKind.i64.wrap (t238 + 1)) = ji12 := (i64_w _).trans hji12
          by_cases c13 : 0 ≤ (ji12)
          · rw [if_pos c13] at H
            have c13b0 : decide (0 ≤ (ji12)) = true := decide_eq_true c13
            clear c13
            by_cases c14 : (ji12) < (y235.length : Int)
            · rw [if_pos c14] at H
              have c14b0 : decide ((ji12) < (y235.length : Int)) = true := decide_eq_true c14
              clear c14
              replace H := Option.bind_eq_some_iff.mp H
              obtain ⟨⟨t242, t243⟩, A150, H⟩ := H
              replace H : ((spec_l6Rd_pick.f k s0_0 t243 2).bind fun bt244 => (if (wrap64 ((wrap64 ((wrap64 ((rd y235 t238) * t242)) * t242)) + (wrap64 ((wrap64 ((rd y235 (ji12)) * (wrap64 (1 + bt244.1)))) * (wrap64 (1 + bt244.1)))))) = 0 then (spec_l91Same.j0 k y235 t238 (rd y235 t238) (rd y235 (ji12)) (wrap64 ((wrap64 ((wrap64 ((rd y235 t238) * t242)) * t242)) + (wrap64 ((wrap64 ((rd y235 (ji12)) * (wrap64 (1 + bt244.1)))) * (wrap64 (1 + bt244.1)))))) false s0_0 bt244.2) else ((spec_l6Rd_pick.f k s0_0 bt244.2 3).bind fun bt246 => (spec_l91Same.j0 k y235 t238 (rd y235 t238) (rd y235 (ji12)) (wrap64 ((wrap64 ((wrap64 ((rd y235 t238) * t242)) * t242)) + (wrap64 ((wrap64 ((rd y235 (ji12)) * (wrap64 (1 + bt244.1)))) * (wrap64 (1 + bt244.1)))))) (decide (bt246.1 > 0)) s0_0 bt246.2)))) = some (r1, r2) := H
              have A15 := Aside0.mk A150
              clear A150
              replace H := Option.bind_eq_some_iff.mp H
              obtain ⟨⟨t244, t245⟩, A160, H⟩ := H
              replace H : (if (wrap64 ((wrap64 ((wrap64 ((rd y235 t238) * t242)) * t242)) + (wrap64 ((wrap64 ((rd y235 (ji12)) * (wrap64 (1 + t244)))) * (wrap64 (1 + t244)))))) = 0 then (spec_l91Same.j0 k y235 t238 (rd y235 t238) (rd y235 (ji12)) (wrap64 ((wrap64 ((wrap64 ((rd y235 t238) * t242)) * t242)) + (wrap64 ((wrap64 ((rd y235 (ji12)) * (wrap64 (1 + t244)))) * (wrap64 (1 + t244)))))) false s0_0 t245) else ((spec_l6Rd_pick.f k s0_0 t245 3).bind fun bt246 => (spec_l91Same.j0 k y235 t238 (rd y235 t238) (rd y235 (ji12)) (wrap64 ((wrap64 ((wrap64 ((rd y235 t238) * t242)) * t242)) + (wrap64 ((wrap64 ((rd y235 (ji12)) * (wrap64 (1 + t244)))) * (wrap64 (1 + t244)))))) (decide (bt246.1 > 0)) s0_0 bt246.2))) = some (r1, r2) := H
              have A16 := Aside0.mk A160
              clear A160
              have HC17 := Aside0.mk H
              clear H
              go_enter Try.func105, Try.ntmps105
              go_upto_region 10 with (first | ((with_reducible refine gate_dst (N := 16) rfl ?_); refine Kd.R_lit (Kd.int .i64) _ 3 ?hg (N := 16) ?hd (xs := ([] : List Int)) (inner := []) (ok := fun _ => True) (okp := fun _ => True) ?hr ?hp (fun _ hk => hk) trivial (Below.refl _ _) (Nat.le_refl _) (by simp) ?_; (case hd => rfl); (case hg => rfl); (case hr => first | (go_simp; done) | (go_simp; rfl)); (case hp => exact (Reps.none _ _)); intro v233 w18 ho19 hb hg_ hnew_; clear hg_ hnew_; (first | rw [← Ny232.out] at ho19 | (simp only [Int.reduceToNat] at ho19; rw [← Ny232.out] at ho19)); have n0_ := Aside0.mk (Kd.R_lower ho19 (keep_size (w := w) (g := g) (row := none) (by repeat (first | (with_reducible first | exact HK.out | apply KeepBut.set_ | apply keep_drewN | apply keep_drew | apply keep_alloc) | exact HK.out)))); have n1_ := Aside0.mk (IsS74.below (by repeat (first | (with_reducible first | exact HI0.out | apply IsS74.alloc | apply IsS74.drewN | apply IsS74.drew | apply IsS74.set_1) | exact HI0.out)) hb); have n2_ := Aside0.mk (KeepBut.trans (by repeat (first | (with_reducible first | exact HK.out | apply KeepBut.set_ | apply keep_drewN | apply keep_drew | apply keep_alloc) | exact HK.out)) (KeepBut.of_below hb g none) (.inl rfl)); have n3_ := Aside0.mk (below_step (by repeat (first | (with_reducible first | exact HB.out | apply below_alloc | apply pw_below_drewN | apply below_drew1 | refine below_set ?_ (IsS74.ge HI0.out)) | exact HB.out)) hb); clear HI0; clear HK; clear HB; have HO234 := n0_; have HI0 := n1_; have HK := n2_; have HB := n3_; clear n0_ n1_ n2_ n3_; clear hb ho19) | ((with_reducible refine gate_builtin (b := .append) (xs := #[.tmp 16, .tmp 17]) rfl ?_); at_builtin; refine Kd.R_append_rows (Kd.int .i64) w.heap.size rfl (.tmp 16) (.tmp 17) 25 3 (.int .i64 0) 8 rfl Try.underlying25 info3 rfl (by decide) (by omega) v233 y232 l1 _ _ _ (fun _ => True) (fun _ => False) rfl rfl ?aO ?aR (fun _ _ h => h) (fun _ h => h.elim) ?aF (Below.refl _ _) ?aS ?aL ?_; (case aR => exact Kd.C_keep 0 HR1.out (by repeat (first | (with_reducible first | exact HK.out | apply KeepBut.set_ | apply keep_drewN | apply keep_drew | apply keep_alloc) | exact HK.out)) hf1); (case aF => exact (fun _ _ => trivial)); (case aO => exact ((Sqz.mvR HO234.out))); (case aS => exact (keep_size (w := w) (g := g) (row := none) (by repeat (first | (with_reducible first | exact HK.out | apply KeepBut.set_ | apply keep_drewN | apply keep_drew | apply keep_alloc) | exact HK.out)))); (case aL => have := LMc3.out; omega); intro v236 w20 ho hb hg hat; rw [← Ny235.out] at ho; have n0_ := Aside0.mk (IsS74.grown (by repeat (first | (with_reducible first | exact HI0.out | apply IsS74.alloc | apply IsS74.drewN | apply IsS74.drew | apply IsS74.set_1) | exact HI0.out)) hg (IsS74.own_ne HI0.out HO234.out (by decide))); have n1_ := Aside0.mk (below_weaken (by repeat (first | (with_reducible first | exact HB.out | apply below_alloc | apply pw_below_drewN | apply below_drew1 | refine below_set ?_ (IsS74.ge HI0.out)) | exact HB.out)) HL.out hb); have n2_ := Aside0.mk (KeepBut.trans (by repeat (first | (with_reducible first | exact HK.out | apply KeepBut.set_ | apply keep_drewN | apply keep_drew | apply keep_alloc) | exact HK.out)) (KeepBut.of_grown hg g) (Kd.R_base2 HO234.out)); have n3_ := Aside0.mk (ho); clear HI0; clear HB; clear HK; clear HO234; have HI0 := n0_; have HB := n1_; have HK := n2_; have HO237 := n3_; clear n0_ n1_ n2_ n3_; clear ho hb hg hat; obtain ⟨Ao21, co21, eo21⟩ := Kd.R_slice HO237.out; subst eo21) | ((with_reducible refine gate_callee (f := 90) rfl ?_); refine goesL_ (some 27) rfl rfl Try.func90 (by kernel_rfl) rfl #[.pointer (some ⟨g, 0, none⟩), .int .i64 (wrap64 ((y235.length : Int) - 1))] rfl Sqz.auM ?_; (with_reducible refine (spec_l6Rd_pick.calls k g s0_0 s0_1 (wrap64 ((y235.length : Int) - 1)) t238 t239 w0 _ ?side1 ?side2 A9.out).mono ?_); (case side1 => repeat (first | (with_reducible first | exact HI0.out | apply IsS74.alloc | apply IsS74.drewN | apply IsS74.drew | apply IsS74.set_1) | exact HI0.out)); (case side2 => repeat (first | (with_reducible first | exact HB.out | apply below_alloc | apply pw_below_drewN | apply below_drew1 | refine below_set ?_ (IsS74.ge HI0.out)) | exact HB.out)); rintro e w22 ⟨rfl, hi, hb, hk⟩; refine ⟨_, rfl, ?_⟩; have n0_ := Aside0.mk (Kd.R_mono (Kd.R_keep (IsS74.apart (show IsS74 w0 _ g s0_0 s0_1 from by repeat (first | (with_reducible first | exact HI0.out | apply IsS74.alloc | apply IsS74.drewN | apply IsS74.drew | apply IsS74.set_1) | exact HI0.out)) ((Sqz.mvR HO237.out)) (by decide)) hk (fun _ h => h.2)) (fun _ h => h.1)); have n1_ := Aside0.mk (KeepBut.trans (by repeat (first | (with_reducible first | exact HK.out | apply KeepBut.set_ | apply keep_drewN | apply keep_drew | apply keep_alloc) | exact HK.out)) hk (.inl rfl)); have n2_ := Aside0.mk (hb); have n3_ := Aside0.mk (hi); clear HO237; clear HK; clear HB; clear HI0; have HO237 := n0_; have HK := n1_; have HB := n2_; have HI0 := n3_; clear n0_ n1_ n2_ n3_; (try clear hb); (try clear hb2); (try clear hk); (try clear hi); have p240 : 0 ≤ (t238 : Int) := of_decide_eq_true (by first | (with_reducible assumption) | assumption); have q240 : t238 < (y235.length : Int) := of_decide_eq_true (by first | (with_reducible assumption) | assumption); obtain ⟨ad240, e240, hx240_0⟩ := Kd.at_int (Kd.R_reads' HO237.out).2.2 t238 p240 q240; cases e240; replace p240 := eq_true p240; replace q240 := eq_true q240; have p241 : 0 ≤ ((ji12) : Int) := of_decide_eq_true (by first | (with_reducible assumption) | assumption); have q241 : (ji12) < (y235.length : Int) := of_decide_eq_true (by first | (with_reducible assumption) | assumption); obtain ⟨ad241, e241, hx241_0⟩ := Kd.at_int (Kd.R_reads' HO237.out).2.2 (ji12) p241 q241; obtain rfl : ad240 = ad241 := (by injection e241); replace p241 := eq_true p241; replace q241 := eq_true q241) | ((with_reducible refine gate_callee (f := 90) rfl ?_); refine goesL_ (some 38) rfl rfl Try.func90 (by kernel_rfl) rfl #[.pointer (some ⟨g, 0, none⟩), .int .i64 2] rfl Sqz.auM ?_; (with_reducible refine (spec_l6Rd_pick.calls k g s0_0 t239 2 t242 t243 w0 _ ?side1 ?side2 A15.out).mono ?_); (case side1 => repeat (first | (with_reducible first | exact HI0.out | apply IsS74.alloc | apply IsS74.drewN | apply IsS74.drew | apply IsS74.set_1) | exact HI0.out)); (case side2 => repeat (first | (with_reducible first | exact HB.out | apply below_alloc | apply pw_below_drewN | apply below_drew1 | refine below_set ?_ (IsS74.ge HI0.out)) | exact HB.out)); rintro e w23 ⟨rfl, hi, hb, hk⟩; refine ⟨_, rfl, ?_⟩; have n0_ := Aside0.mk (Kd.R_mono (Kd.R_keep (IsS74.apart (show IsS74 w0 _ g s0_0 t239 from by repeat (first | (with_reducible first | exact HI0.out | apply IsS74.alloc | apply IsS74.drewN | apply IsS74.drew | apply IsS74.set_1) | exact HI0.out)) ((Sqz.mvR HO237.out)) (by decide)) hk (fun _ h => h.2)) (fun _ h => h.1)); have n1_ := Aside0.mk (KeepBut.trans (by repeat (first | (with_reducible first | exact HK.out | apply KeepBut.set_ | apply keep_drewN | apply keep_drew | apply keep_alloc) | exact HK.out)) hk (.inl rfl)); have n2_ := Aside0.mk (hb); have n3_ := Aside0.mk (hi); clear HO237; clear HK; clear HB; clear HI0; have HO237 := n0_; have HK := n1_; have HB := n2_; have HI0 := n3_; clear n0_ n1_ n2_ n3_; (try clear hb); (try clear hb2); (try clear hk); (try clear hi)) | ((with_reducible refine gate_callee (f := 90) rfl ?_); refine goesL_ (some 40) rfl rfl Try.func90 (by kernel_rfl) rfl #[.pointer (some ⟨g, 0, none⟩), .int .i64 2] rfl Sqz.auM ?_; (with_reducible refine (spec_l6Rd_pick.calls k g s0_0 t243 2 t244 t245 w0 _ ?side1 ?side2 A16.out).mono ?_); (case side1 => repeat (first | (with_reducible first | exact HI0.out | apply IsS74.alloc | apply IsS74.drewN | apply IsS74.drew | apply IsS74.set_1) | exact HI0.out)); (case side2 => repeat (first | (with_reducible first | exact HB.out | apply below_alloc | apply pw_below_drewN | apply below_drew1 | refine below_set ?_ (IsS74.ge HI0.out)) | exact HB.out)); rintro e w24 ⟨rfl, hi, hb, hk⟩; refine ⟨_, rfl, ?_⟩; have n0_ := Aside0.mk (Kd.R_mono (Kd.R_keep (IsS74.apart (show IsS74 w0 _ g s0_0 t243 from by repeat (first | (with_reducible first | exact HI0.out | apply IsS74.alloc | apply IsS74.drewN | apply IsS74.drew | apply IsS74.set_1) | exact HI0.out)) ((Sqz.mvR HO237.out)) (by decide)) hk (fun _ h => h.2)) (fun _ h => h.1)); have n1_ := Aside0.mk (KeepBut.trans (by repeat (first | (with_reducible first | exact HK.out | apply KeepBut.set_ | apply keep_drewN | apply keep_drew | apply keep_alloc) | exact HK.out)) hk (.inl rfl)); have n2_ := Aside0.mk (hb); have n3_ := Aside0.mk (hi); clear HO237; clear HK; clear HB; clear HI0; have HO237 := n0_; have HK := n1_; have HB := n2_; have HI0 := n3_; clear n0_ n1_ n2_ n3_; (try clear hb); (try clear hb2); (try clear hk); (try clear hi)))
              (try simp only [Act.put, List.setIfInBounds_toArray, List.set_cons_zero, List.set_cons_succ])
              go_cut [59] (fun v59 wc => ∃ (kq : Nat) (x59_16 : Bool) (x1001_16 : Int), v59 = .bool x59_16 ∧ Aside0 (spec_l91Same.j0 kq y235 t238 (rd y235 t238) (rd y235 (ji12)) (wrap64 ((wrap64 ((wrap64 ((rd y235 t238) * t242)) * t242)) + (wrap64 ((wrap64 ((rd y235 (ji12)) * (wrap64 (1 + t244)))) * (wrap64 (1 + t244)))))) x59_16 s0_0 x1001_16 = some (r1, r2)) ∧ Aside0 (kq ≤ k) ∧ Aside0 (Kd.R (Kd.int .i64) 3 wc w.heap.size (fun _ => True) (.slice (some ad240) y235.length co21) y235) ∧ Aside0 (IsS74 w0 wc g s0_0 x1001_16) ∧ Aside0 (KeepBut w wc g none) ∧ Aside0 (Below w0.heap.size w0 wc))
              case first =>
                have H := HC17.out
                clear HC17
                by_cases c25 : (wrap64 ((wrap64 ((wrap64 ((rd y235 t238) * t242)) * t242)) + (wrap64 ((wrap64 ((rd y235 (ji12)) * (wrap64 (1 + t244)))) * (wrap64 (1 + t244)))))) = 0
                · rw [if_pos c25] at H
                  have c25b0 : ((wrap64 ((wrap64 ((wrap64 ((rd y235 t238) * t242)) * t242)) + (wrap64 ((wrap64 ((rd y235 (ji12)) * (wrap64 (1 + t244)))) * (wrap64 (1 + t244)))))) == 0) = true := beq_iff_eq.mpr c25
                  have c25b1 : ((wrap64 ((wrap64 ((wrap64 ((rd y235 t238) * t242)) * t242)) + (wrap64 ((wrap64 ((rd y235 (ji12)) * (wrap64 (1 + t244)))) * (wrap64 (1 + t244)))))) != 0) = false := bne_eq_false_iff_eq.mpr c25
                  clear c25
                  (first | rw [c25b0] | (simp only [i64_w, i32_w]; rw [c25b0]) | skip)
                  have H' := Aside0.mk H
                  clear H
                  go_wp2
                  go_meet
                  case rel => exact ⟨_, (false), (t245), Sqz.auS, H', ⟨Sqz.auN⟩, ⟨(Sqz.mvR HO237.out)⟩, ⟨by repeat (first | (with_reducible first | exact HI0.out | apply IsS74.alloc | apply IsS74.drewN | apply IsS74.drew | apply IsS74.set_1) | exact HI0.out)⟩, ⟨by repeat (first | (with_reducible first | exact HK.out | apply KeepBut.set_ | apply keep_drewN | apply keep_drew | apply keep_alloc) | exact HK.out)⟩, ⟨by repeat (first | (with_reducible first | exact HB.out | apply below_alloc | apply pw_below_drewN | apply below_drew1 | refine below_set ?_ (IsS74.ge HI0.out)) | exact HB.out)⟩⟩
                · rw [if_neg c25] at H
                  have c25b0 : ((wrap64 ((wrap64 ((wrap64 ((rd y235 t238) * t242)) * t242)) + (wrap64 ((wrap64 ((rd y235 (ji12)) * (wrap64 (1 + t244)))) * (wrap64 (1 + t244)))))) == 0) = false := beq_eq_false_iff_ne.mpr c25
                  have c25b1 : ((wrap64 ((wrap64 ((wrap64 ((rd y235 t238) * t242)) * t242)) + (wrap64 ((wrap64 ((rd y235 (ji12)) * (wrap64 (1 + t244)))) * (wrap64 (1 + t244)))))) != 0) = true := bne_iff_ne.mpr c25
                  (first | rw [c25b0] | (simp only [i64_w, i32_w]; rw [c25b0]) | skip)
                  replace H := Option.bind_eq_some_iff.mp H
                  obtain ⟨⟨t246, t247⟩, A260, H⟩ := H
                  replace H : (spec_l91Same.j0 k y235 t238 (rd y235 t238) (rd y235 (ji12)) (wrap64 ((wrap64 ((wrap64 ((rd y235 t238) * t242)) * t242)) + (wrap64 ((wrap64 ((rd y235 (ji12)) * (wrap64 (1 + t244)))) * (wrap64 (1 + t244)))))) (decide (t246 > 0)) s0_0 t247) = some (r1, r2) := H
                  have A26 := Aside0.mk A260
                  clear A260
                  have H' := Aside0.mk H
                  clear H
                  go_wp2_with (first | (go_at_call 90; (with_reducible refine (spec_l6Rd_pick.calls k g s0_0 t245 3 t246 t247 w0 _ ?side1 ?side2 A26.out).mono ?_); (case side1 => repeat (first | (with_reducible first | exact HI0.out | apply IsS74.alloc | apply IsS74.drewN | apply IsS74.drew | apply IsS74.set_1) | exact HI0.out)); (case side2 => repeat (first | (with_reducible first | exact HB.out | apply below_alloc | apply pw_below_drewN | apply below_drew1 | refine below_set ?_ (IsS74.ge HI0.out)) | exact HB.out)); rintro e w27 ⟨rfl, hi, hb, hk⟩; have n0_ := Aside0.mk (Kd.R_mono (Kd.R_keep (IsS74.apart (show IsS74 w0 _ g s0_0 t245 from by repeat (first | (with_reducible first | exact HI0.out | apply IsS74.alloc | apply IsS74.drewN | apply IsS74.drew | apply IsS74.set_1) | exact HI0.out)) ((Sqz.mvR HO237.out)) (by decide)) hk (fun _ h => h.2)) (fun _ h => h.1)); have n1_ := Aside0.mk (KeepBut.trans (by repeat (first | (with_reducible first | exact HK.out | apply KeepBut.set_ | apply keep_drewN | apply keep_drew | apply keep_alloc) | exact HK.out)) hk (.inl rfl)); have n2_ := Aside0.mk (hb); have n3_ := Aside0.mk (hi); clear HO237; clear HK; clear HB; clear HI0; have HO237 := n0_; have HK := n1_; have HB := n2_; have HI0 := n3_; clear n0_ n1_ n2_ n3_; (try clear hb); (try clear hb2); (try clear hk); (try clear hi)))
                  go_meet
                  case rel => exact ⟨_, (decide (t246 > 0)), (t247), Sqz.auS, H', ⟨Sqz.auN⟩, ⟨(Sqz.mvR HO237.out)⟩, ⟨by repeat (first | (with_reducible first | exact HI0.out | apply IsS74.alloc | apply IsS74.drewN | apply IsS74.drew | apply IsS74.set_1) | exact HI0.out)⟩, ⟨by repeat (first | (with_reducible first | exact HK.out | apply KeepBut.set_ | apply keep_drewN | apply keep_drew | apply keep_alloc) | exact HK.out)⟩, ⟨by repeat (first | (with_reducible first | exact HB.out | apply below_alloc | apply pw_below_drewN | apply below_drew1 | refine below_set ?_ (IsS74.ge HI0.out)) | exact HB.out)⟩⟩
              case rest =>
                clear HC17
                try clear c1
                try clear c2
                try clear p2
                try clear q2
                try clear hx2
                try clear c3
                try clear c4
                try clear c4b0
                try clear c4b1
                try clear p6
                try clear c9
                try clear c10
                try clear c10b0
                try clear c11
                try clear c11b0
                try clear c13
                try clear c13b0
                try clear c14
                try clear c14b0
                try clear p24
                try clear q24
                try clear hx24
                try clear c25
                try clear c25b0
                try clear c25b1
                try clear hx240_0
                try clear hx241_0
                try clear p240
                try clear p241
                try clear q240
                try clear q241
                obtain ⟨kq, x59_16, x1001_16, rfl, HA, HJ16, HO_5, HI0, HK, HB⟩ := hcut
                cases kq with
                | zero => exact absurd HA.out (by simp [spec_l91Same.j0])
                | succ kj16 =>
                  have H := HA.out
                  clear HA
                  simp only [spec_l91Same.j0] at H
                  by_cases c28 : x59_16 = true
                  · subst c28
                    have H1 : ((spec_l1Core.f kj16 (wrap64 ((wrap64 ((wrap64 ((rd y235 t238) * t242)) * t242)) + (wrap64 ((wrap64 ((rd y235 (ji12)) * (wrap64 (1 + t244)))) * (wrap64 (1 + t244))))))).bind fun bt248 => ((spec_l1Core.f kj16 (wrap64 ((wrap64 ((rd y235 t238) * (rd y235 (ji12)))) * (wrap64 ((wrap64 ((wrap64 ((rd y235 t238) * t242)) * t242)) + (wrap64 ((wrap64 ((rd y235 (ji12)) * (wrap64 (1 + t244)))) * (wrap64 (1 + t244))))))))).bind fun bt250 => ((spec_l1Size.f bt248.1).bind fun t252 => (if t252 ≤ 30 then ((spec_l1Size.f bt250.1).bind fun t253 => (if t253 ≤ 30 then (if 0 ≤ t238 then (if t238 < (y235.length : Int) then (if 0 ≤ (wrap64 (t238 + 1)) then (if (wrap64 (t238 + 1)) < (y235.length : Int) then (some (((y235.set (t238 : Int).toNat bt248.1).set ((wrap64 (t238 + 1)) : Int).toNat bt250.1), x1001_16)) else (none)) else (none)) else (none)) else (none)) else (if 0 ≤ t238 then (if t238 < (y235.length : Int) then (if 0 ≤ (wrap64 (t238 + 1)) then (if (wrap64 (t238 + 1)) < (y235.length : Int) then (some (((y235.set (t238 : Int).toNat (rd y235 (ji12))).set ((wrap64 (t238 + 1)) : Int).toNat (rd y235 t238)), x1001_16)) else (none)) else (none)) else (none)) else (none)))) else (if 0 ≤ t238 then (if t238 < (y235.length : Int) then (if 0 ≤ (wrap64 (t238 + 1)) then (if (wrap64 (t238 + 1)) < (y235.length : Int) then (some (((y235.set (t238 : Int).toNat (rd y235 (ji12))).set ((wrap64 (t238 + 1)) : Int).toNat (rd y235 t238)), x1001_16)) else (none)) else (none)) else (none)) else (none)))))) = some (r1, r2) := by rw [if_pos rfl] at H; exact H
                    clear H
                    have H := H1
                    clear H1
                    replace H := Option.bind_eq_some_iff.mp H
                    obtain ⟨⟨t248, t249⟩, A290, H⟩ := H
                    replace H : ((spec_l1Core.f kj16 (wrap64 ((wrap64 ((rd y235 t238) * (rd y235 (ji12)))) * (wrap64 ((wrap64 ((wrap64 ((rd y235 t238) * t242)) * t242)) + (wrap64 ((wrap64 ((rd y235 (ji12)) * (wrap64 (1 + t244)))) * (wrap64 (1 + t244))))))))).bind fun bt250 => ((spec_l1Size.f t248).bind fun t252 => (if t252 ≤ 30 then ((spec_l1Size.f bt250.1).bind fun t253 => (if t253 ≤ 30 then (if 0 ≤ t238 then (if t238 < (y235.length : Int) then (if 0 ≤ (wrap64 (t238 + 1)) then (if (wrap64 (t238 + 1)) < (y235.length : Int) then (some (((y235.set (t238 : Int).toNat t248).set ((wrap64 (t238 + 1)) : Int).toNat bt250.1), x1001_16)) else (none)) else (none)) else (none)) else (none)) else (if 0 ≤ t238 then (if t238 < (y235.length : Int) then (if 0 ≤ (wrap64 (t238 + 1)) then (if (wrap64 (t238 + 1)) < (y235.length : Int) then (some (((y235.set (t238 : Int).toNat (rd y235 (ji12))).set ((wrap64 (t238 + 1)) : Int).toNat (rd y235 t238)), x1001_16)) else (none)) else (none)) else (none)) else (none)))) else (if 0 ≤ t238 then (if t238 < (y235.length : Int) then (if 0 ≤ (wrap64 (t238 + 1)) then (if (wrap64 (t238 + 1)) < (y235.length : Int) then (some (((y235.set (t238 : Int).toNat (rd y235 (ji12))).set ((wrap64 (t238 + 1)) : Int).toNat (rd y235 t238)), x1001_16)) else (none)) else (none)) else (none)) else (none))))) = some (r1, r2) := H
                    have A29 := Aside0.mk A290
                    clear A290
                    replace H := Option.bind_eq_some_iff.mp H
                    obtain ⟨⟨t250, t251⟩, A300, H⟩ := H
                    replace H : ((spec_l1Size.f t248).bind fun t252 => (if t252 ≤ 30 then ((spec_l1Size.f t250).bind fun t253 => (if t253 ≤ 30 then (if 0 ≤ t238 then (if t238 < (y235.length : Int) then (if 0 ≤ (wrap64 (t238 + 1)) then (if (wrap64 (t238 + 1)) < (y235.length : Int) then (some (((y235.set (t238 : Int).toNat t248).set ((wrap64 (t238 + 1)) : Int).toNat t250), x1001_16)) else (none)) else (none)) else (none)) else (none)) else (if 0 ≤ t238 then (if t238 < (y235.length : Int) then (if 0 ≤ (wrap64 (t238 + 1)) then (if (wrap64 (t238 + 1)) < (y235.length : Int) then (some (((y235.set (t238 : Int).toNat (rd y235 (ji12))).set ((wrap64 (t238 + 1)) : Int).toNat (rd y235 t238)), x1001_16)) else (none)) else (none)) else (none)) else (none)))) else (if 0 ≤ t238 then (if t238 < (y235.length : Int) then (if 0 ≤ (wrap64 (t238 + 1)) then (if (wrap64 (t238 + 1)) < (y235.length : Int) then (some (((y235.set (t238 : Int).toNat (rd y235 (ji12))).set ((wrap64 (t238 + 1)) : Int).toNat (rd y235 t238)), x1001_16)) else (none)) else (none)) else (none)) else (none)))) = some (r1, r2) := H
                    have A30 := Aside0.mk A300
                    clear A300
                    replace H := Option.bind_eq_some_iff.mp H
                    obtain ⟨t252, A310, H⟩ := H
                    replace H : (if t252 ≤ 30 then ((spec_l1Size.f t250).bind fun t253 => (if t253 ≤ 30 then (if 0 ≤ t238 then (if t238 < (y235.length : Int) then (if 0 ≤ (wrap64 (t238 + 1)) then (if (wrap64 (t238 + 1)) < (y235.length : Int) then (some (((y235.set (t238 : Int).toNat t248).set ((wrap64 (t238 + 1)) : Int).toNat t250), x1001_16)) else (none)) else (none)) else (none)) else (none)) else (if 0 ≤ t238 then (if t238 < (y235.length : Int) then (if 0 ≤ (wrap64 (t238 + 1)) then (if (wrap64 (t238 + 1)) < (y235.length : Int) then (some (((y235.set (t238 : Int).toNat (rd y235 (ji12))).set ((wrap64 (t238 + 1)) : Int).toNat (rd y235 t238)), x1001_16)) else (none)) else (none)) else (none)) else (none)))) else (if 0 ≤ t238 then (if t238 < (y235.length : Int) then (if 0 ≤ (wrap64 (t238 + 1)) then (if (wrap64 (t238 + 1)) < (y235.length : Int) then (some (((y235.set (t238 : Int).toNat (rd y235 (ji12))).set ((wrap64 (t238 + 1)) : Int).toNat (rd y235 t238)), x1001_16)) else (none)) else (none)) else (none)) else (none))) = some (r1, r2) := H
                    have A31 := Aside0.mk A310
                    clear A310
                    by_cases c32 : t252 ≤ 30
                    · rw [if_pos c32] at H
                      have c32b0 : decide (t252 ≤ 30) = true := decide_eq_true c32
                      clear c32
                      replace H := Option.bind_eq_some_iff.mp H
                      obtain ⟨t253, A330, H⟩ := H
                      replace H : (if t253 ≤ 30 then (if 0 ≤ t238 then (if t238 < (y235.length : Int) then (if 0 ≤ (wrap64 (t238 + 1)) then (if (wrap64 (t238 + 1)) < (y235.length : Int) then (some (((y235.set (t238 : Int).toNat t248).set ((wrap64 (t238 + 1)) : Int).toNat t250), x1001_16)) else (none)) else (none)) else (none)) else (none)) else (if 0 ≤ t238 then (if t238 < (y235.length : Int) then (if 0 ≤ (wrap64 (t238 + 1)) then (if (wrap64 (t238 + 1)) < (y235.length : Int) then (some (((y235.set (t238 : Int).toNat (rd y235 (ji12))).set ((wrap64 (t238 + 1)) : Int).toNat (rd y235 t238)), x1001_16)) else (none)) else (none)) else (none)) else (none))) = some (r1, r2) := H
                      have A33 := Aside0.mk A330
                      clear A330
                      by_cases c34 : t253 ≤ 30
                      · rw [if_pos c34] at H
                        have c34b0 : decide (t253 ≤ 30) = true := decide_eq_true c34
                        clear c34
                        by_cases c35 : 0 ≤ t238
                        · rw [if_pos c35] at H
                          have c35b0 : decide (0 ≤ t238) = true := decide_eq_true c35
                          clear c35
                          by_cases c36 : t238 < (y235.length : Int)
                          · rw [if_pos c36] at H
                            have c36b0 : decide (t238 < (y235.length : Int)) = true := decide_eq_true c36
                            clear c36
                            obtain ⟨y254, hy254⟩ : ∃ y_ : List Int, y_ = (y235.set (t238 : Int).toNat t248) := ⟨_, rfl⟩
                            replace H : (if 0 ≤ (wrap64 (t238 + 1)) then (if (wrap64 (t238 + 1)) < (y235.length : Int) then (some ((y254.set ((wrap64 (t238 + 1)) : Int).toNat t250), x1001_16)) else (none)) else (none)) = some (r1, r2) := by first | (rw [hy254]; with_reducible exact H) | (have H2_ := (Option.bind_some _ _).symm.trans H; rw [hy254]; with_reducible exact H2_) | (have H2_ := (Option.bind_some _ _).symm.trans H; with_reducible exact H2_) | with_reducible exact H | (rw [hy254]; exact H) | exact H
                            have Ny254 := Aside0.mk hy254
                            clear hy254
                            have hji38 := hji12
                            replace H : (if 0 ≤ (ji12) then (if (ji12) < (y235.length : Int) then (some ((y254.set ((ji12) : Int).toNat t250), x1001_16)) else (none)) else (none)) = some (r1, r2) := by first | (rw [hji38] at H; exact H) | (simp only [hji38] at H ⊢; exact H)
                            (try rw [hji38] at A29)
                            (try rw [hji38] at A30)
                            (try rw [hji38] at A31)
                            (try rw [hji38] at A33)
                            have hji38w : (IntKind.i64.wrap (t238 + 1)) = ji12 := (i64_w _).trans hji38
                            by_cases c39 : 0 ≤ (ji12)
                            · rw [if_pos c39] at H
                              have c39b0 : decide (0 ≤ (ji12)) = true := decide_eq_true c39
                              clear c39
                              by_cases c40 : (ji12) < (y235.length : Int)
                              · rw [if_pos c40] at H
                                have c40b0 : decide ((ji12) < (y235.length : Int)) = true := decide_eq_true c40
                                clear c40
                                obtain ⟨y255, hy255⟩ : ∃ y_ : List Int, y_ = (y254.set ((ji12) : Int).toNat t250) := ⟨_, rfl⟩
                                replace H : (some (y255, x1001_16)) = some (r1, r2) := by first | (rw [hy255]; with_reducible exact H) | (have H2_ := (Option.bind_some _ _).symm.trans H; rw [hy255]; with_reducible exact H2_) | (have H2_ := (Option.bind_some _ _).symm.trans H; with_reducible exact H2_) | with_reducible exact H | (rw [hy255]; exact H) | exact H
                                have Ny255 := Aside0.mk hy255
                                clear hy255
                                simp only [Option.some.injEq, Prod.mk.injEq] at H
                                obtain ⟨rfl, rfl⟩ := H
                                go_wp2_with (first | ((with_reducible refine gate_callee (f := 143) rfl ?_); refine goesL_ (some 62) rfl rfl Try.func143 (by kernel_rfl) rfl #[.int .i64 (wrap64 ((wrap64 ((wrap64 ((rd y235 t238) * t242)) * t242)) + (wrap64 ((wrap64 ((rd y235 (ji12)) * (wrap64 (1 + t244)))) * (wrap64 (1 + t244))))))] rfl (by (try simp only [List.map_toArray, List.map_cons, List.map_nil]); first | done | (simp only [hji12]; rfl) | rfl | (simp only [List.length_drop, List.length_take]; rfl)) ?_; (with_reducible refine (spec_l1Core.calls kj16 (wrap64 ((wrap64 ((wrap64 ((rd y235 t238) * t242)) * t242)) + (wrap64 ((wrap64 ((rd y235 (ji12)) * (wrap64 (1 + t244)))) * (wrap64 (1 + t244)))))) t248 t249 _ A29.out).mono ?_); rintro e w42 ⟨rfl, hb⟩; refine ⟨_, rfl, ?_⟩; have n0_ := Aside0.mk (Kd.R_below ((Sqz.mvR HO_5.out)) hb); have n1_ := Aside0.mk (IsS74.below (by repeat (first | (with_reducible first | exact HI0.out | apply IsS74.alloc | apply IsS74.drewN | apply IsS74.drew | apply IsS74.set_1) | exact HI0.out)) hb); have n2_ := Aside0.mk (KeepBut.trans (by repeat (first | (with_reducible first | exact HK.out | apply KeepBut.set_ | apply keep_drewN | apply keep_drew | apply keep_alloc) | exact HK.out)) (KeepBut.of_below hb g none) (.inl rfl)); have n3_ := Aside0.mk (below_step (by repeat (first | (with_reducible first | exact HB.out | apply below_alloc | apply pw_below_drewN | apply below_drew1 | refine below_set ?_ (IsS74.ge HI0.out)) | exact HB.out)) hb); clear HO_5; clear HI0; clear HK; clear HB; have HO_5 := n0_; have HI0 := n1_; have HK := n2_; have HB := n3_; clear n0_ n1_ n2_ n3_; (try clear hb); (try clear hb2); (try clear hk); (try clear hi)) | ((with_reducible refine gate_callee (f := 143) rfl ?_); refine goesL_ (some 71) rfl rfl Try.func143 (by kernel_rfl) rfl #[.int .i64 (wrap64 ((wrap64 ((rd y235 t238) * (rd y235 (ji12)))) * (wrap64 ((wrap64 ((wrap64 ((rd y235 t238) * t242)) * t242)) + (wrap64 ((wrap64 ((rd y235 (ji12)) * (wrap64 (1 + t244)))) * (wrap64 (1 + t244))))))))] rfl (by (try simp only [List.map_toArray, List.map_cons, List.map_nil]); first | done | (simp only [hji12]; rfl) | rfl | (simp only [List.length_drop, List.length_take]; rfl)) ?_; (with_reducible refine (spec_l1Core.calls kj16 (wrap64 ((wrap64 ((rd y235 t238) * (rd y235 (ji12)))) * (wrap64 ((wrap64 ((wrap64 ((rd y235 t238) * t242)) * t242)) + (wrap64 ((wrap64 ((rd y235 (ji12)) * (wrap64 (1 + t244)))) * (wrap64 (1 + t244)))))))) t250 t251 _ A30.out).mono ?_); rintro e w43 ⟨rfl, hb⟩; refine ⟨_, rfl, ?_⟩; have n0_ := Aside0.mk (Kd.R_below ((Sqz.mvR HO_5.out)) hb); have n1_ := Aside0.mk (IsS74.below (by repeat (first | (with_reducible first | exact HI0.out | apply IsS74.alloc | apply IsS74.drewN | apply IsS74.drew | apply IsS74.set_1) | exact HI0.out)) hb); have n2_ := Aside0.mk (KeepBut.trans (by repeat (first | (with_reducible first | exact HK.out | apply KeepBut.set_ | apply keep_drewN | apply keep_drew | apply keep_alloc) | exact HK.out)) (KeepBut.of_below hb g none) (.inl rfl)); have n3_ := Aside0.mk (below_step (by repeat (first | (with_reducible first | exact HB.out | apply below_alloc | apply pw_below_drewN | apply below_drew1 | refine below_set ?_ (IsS74.ge HI0.out)) | exact HB.out)) hb); clear HO_5; clear HI0; clear HK; clear HB; have HO_5 := n0_; have HI0 := n1_; have HK := n2_; have HB := n3_; clear n0_ n1_ n2_ n3_; (try clear hb); (try clear hb2); (try clear hk); (try clear hi)) | ((with_reducible refine gate_callee (f := 144) rfl ?_); refine goesL_ (some 75) rfl rfl Try.func144 (by kernel_rfl) rfl #[.int .i64 t248] rfl Sqz.auM ?_; (with_reducible refine (spec_l1Size.calls t248 t252 _ A31.out).mono ?_); rintro e w44 ⟨rfl, hb⟩; refine ⟨_, rfl, ?_⟩; have n0_ := Aside0.mk (Kd.R_below ((Sqz.mvR HO_5.out)) hb); have n1_ := Aside0.mk (IsS74.below (by repeat (first | (with_reducible first | exact HI0.out | apply IsS74.alloc | apply IsS74.drewN | apply IsS74.drew | apply IsS74.set_1) | exact HI0.out)) hb); have n2_ := Aside0.mk (KeepBut.trans (by repeat (first | (with_reducible first | exact HK.out | apply KeepBut.set_ | apply keep_drewN | apply keep_drew | apply keep_alloc) | exact HK.out)) (KeepBut.of_below hb g none) (.inl rfl)); have n3_ := Aside0.mk (below_step (by repeat (first | (with_reducible first | exact HB.out | apply below_alloc | apply pw_below_drewN | apply below_drew1 | refine below_set ?_ (IsS74.ge HI0.out)) | exact HB.out)) hb); clear HO_5; clear HI0; clear HK; clear HB; have HO_5 := n0_; have HI0 := n1_; have HK := n2_; have HB := n3_; clear n0_ n1_ n2_ n3_; (try clear hb); (try clear hb2); (try clear hk); (try clear hi)) | (go_at_call 144; (with_reducible refine (spec_l1Size.calls t250 t253 _ A33.out).mono ?_); rintro e w45 ⟨rfl, hb⟩; have n0_ := Aside0.mk (Kd.R_below ((Sqz.mvR HO_5.out)) hb); have n1_ := Aside0.mk (IsS74.below (by repeat (first | (with_reducible first | exact HI0.out | apply IsS74.alloc | apply IsS74.drewN | apply IsS74.drew | apply IsS74.set_1) | exact HI0.out)) hb); have n2_ := Aside0.mk (KeepBut.trans (by repeat (first | (with_reducible first | exact HK.out | apply KeepBut.set_ | apply keep_drewN | apply keep_drew | apply keep_alloc) | exact HK.out)) (KeepBut.of_below hb g none) (.inl rfl)); have n3_ := Aside0.mk (below_step (by repeat (first | (with_reducible first | exact HB.out | apply below_alloc | apply pw_below_drewN | apply below_drew1 | refine below_set ?_ (IsS74.ge HI0.out)) | exact HB.out)) hb); clear HO_5; clear HI0; clear HK; clear HB; have HO_5 := n0_; have HI0 := n1_; have HK := n2_; have HB := n3_; clear n0_ n1_ n2_ n3_; (try clear hb); (try clear hb2); (try clear hk); (try clear hi); have p37 : 0 ≤ (t238 : Int) := of_decide_eq_true (by first | (with_reducible assumption) | assumption); have q37 : (t238 : Int) < ((y235.length : Int) : Int) := of_decide_eq_true (by first | (with_reducible assumption) | assumption); obtain ⟨go37, co37, eo37, gb37, gl37, cl37, HG37⟩ := Kd.R_form HO_5.out (by omega); (first | cases eo37 | (injection eo37 with ea_ en_ ec_; (first | subst ea_ | (injection ea_ with ea_; subst ea_)); subst ec_; clear en_)); have GB37 := Aside0.mk gb37; have GG37 := Aside0.mk HG37; clear gb37 gl37 HG37; (first | simp only [add_plain] at hx240_0 | skip); (first | simp only [add_plain] at hx241_0 | skip); obtain ⟨hx37_0, hf37_0⟩ := Kd.R_celln 0 HO_5.out (t238 : Int) p37 q37; replace p37 := eq_true p37; replace q37 := eq_true q37; obtain ⟨hy46_, hz46_⟩ := Kd.R_celln 0 HO_5.out (t238 : Int) (of_decide_eq_true (by first | (with_reducible assumption) | assumption)) (of_decide_eq_true (by first | (with_reducible assumption) | assumption)); have HP46 := Kd.R_putg HO_5.out (t238 : Int) t248) | ((with_reducible refine gate_store (t := 3) (p := 85) rfl ?_); refine store_event (t := 3) (p := 85) (v := ?vo_w47) (w1 := (w45.setCell ⟨go37, (t238 : Int).toNat, none⟩ (.int .i64 t248))) ?hg ?ho ?hn ?hr ?_; (case ho => rfl); (case hg => rfl); (case hn => rfl); (case hr => first | (go_simp; done) | (go_simp; rfl)); intro w47 hw; have hg : w45.grownBy w47 (some go37) := (by rw [hw]; exact HP46.2); have hp_ : Kd.R (Kd.int .i64) 3 w47 w.heap.size (fun _ => True) (.slice (some ⟨go37, 0, none⟩) y235.length co21) y254 := (by rw [hw, Ny254.out]; exact HP46.1); clear HP46; have n0_ := Aside0.mk (hp_); have n1_ := Aside0.mk (IsS74.grown (by repeat (first | (with_reducible first | exact HI0.out | apply IsS74.alloc | apply IsS74.drewN | apply IsS74.drew | apply IsS74.set_1) | exact HI0.out)) hg (IsS74.own_ne HI0.out HO_5.out (by decide))); have n2_ := Aside0.mk ((by rw [hw]; exact below_set (HB.out) (Nat.le_trans HL.out GB37.out) : Below w0.heap.size w0 w47)); have n3_ := Aside0.mk (KeepBut.trans (by repeat (first | (with_reducible first | exact HK.out | apply KeepBut.set_ | apply keep_drewN | apply keep_drew | apply keep_alloc) | exact HK.out)) (KeepBut.of_grown hg g) (Kd.R_base2 HO_5.out)); clear HO_5; clear HI0; clear HB; clear HK; have HO_5 := n0_; have HI0 := n1_; have HB := n2_; have HK := n3_; clear n0_ n1_ n2_ n3_; clear hg hw hp_; have p41 : 0 ≤ ((ji12) : Int) := of_decide_eq_true (by first | (with_reducible assumption) | assumption); have q41 : ((ji12) : Int) < ((y235.length : Int) : Int) := of_decide_eq_true (by first | (with_reducible assumption) | assumption); obtain ⟨hx41_0, hf41_0⟩ := Kd.R_celln 0 HO_5.out ((ji12) : Int) p41 q41; replace p41 := eq_true p41; replace q41 := eq_true q41; obtain ⟨hy48_, hz48_⟩ := Kd.R_celln 0 HO_5.out ((ji12) : Int) (of_decide_eq_true (by first | (with_reducible assumption) | assumption)) (of_decide_eq_true (by first | (with_reducible assumption) | assumption)); have HP48 := Kd.R_putg HO_5.out ((ji12) : Int) t250) | ((with_reducible refine gate_store (t := 3) (p := 90) rfl ?_); refine store_event (t := 3) (p := 90) (v := ?vo_w49) (w1 := (w47.setCell ⟨go37, ((ji12) : Int).toNat, none⟩ (.int .i64 t250))) ?hg ?ho ?hn ?hr ?_; (case ho => rfl); (case hg => rfl); (case hn => rfl); (case hr => first | (go_simp; done) | (go_simp; rfl)); intro w49 hw; have hg : w47.grownBy w49 (some go37) := (by rw [hw]; exact HP48.2); have hp_ : Kd.R (Kd.int .i64) 3 w49 w.heap.size (fun _ => True) (.slice (some ⟨go37, 0, none⟩) y235.length co21) y255 := (by rw [hw, Ny255.out]; exact HP48.1); clear HP48; have n0_ := Aside0.mk (hp_); have n1_ := Aside0.mk (IsS74.grown (by repeat (first | (with_reducible first | exact HI0.out | apply IsS74.alloc | apply IsS74.drewN | apply IsS74.drew | apply IsS74.set_1) | exact HI0.out)) hg (IsS74.own_ne HI0.out HO_5.out (by decide))); have n2_ := Aside0.mk ((by rw [hw]; exact below_set (HB.out) (Nat.le_trans HL.out GB37.out) : Below w0.heap.size w0 w49)); have n3_ := Aside0.mk (KeepBut.trans (by repeat (first | (with_reducible first | exact HK.out | apply KeepBut.set_ | apply keep_drewN | apply keep_drew | apply keep_alloc) | exact HK.out)) (KeepBut.of_grown hg g) (Kd.R_base2 HO_5.out)); clear HO_5; clear HI0; clear HB; clear HK; have HO_5 := n0_; have HI0 := n1_; have HB := n2_; have HK := n3_; clear n0_ n1_ n2_ n3_; clear hg hw hp_))
                                go_ret
                                exact ⟨_, by first | rfl | (simp [errW_none, errW_some] <;> rfl) | (simp only [← hji12, ← hji38]; first | rfl | (simp [errW_none, errW_some] <;> rfl)) | (simp [*, errW_none, errW_some] <;> rfl), (Sqz.mvR HO_5.out), by repeat (first | (with_reducible first | exact HI0.out | apply IsS74.alloc | apply IsS74.drewN | apply IsS74.drew | apply IsS74.set_1) | exact HI0.out), by repeat (first | (with_reducible first | exact HB.out | apply below_alloc | apply pw_below_drewN | apply below_drew1 | refine below_set ?_ (IsS74.ge HI0.out)) | exact HB.out), by repeat (first | (with_reducible first | exact HK.out | apply KeepBut.set_ | apply keep_drewN | apply keep_drew | apply keep_alloc) | exact HK.out)⟩
                              · rw [if_neg c40] at H
                                exact absurd H (by simp)
                            · rw [if_neg c39] at H
                              exact absurd H (by simp)
                          · rw [if_neg c36] at H
                            exact absurd H (by simp)
                        · rw [if_neg c35] at H
                          exact absurd H (by simp)
                      · rw [if_neg c34] at H
                        have c34b0 : decide (t253 ≤ 30) = false := decide_eq_false c34
                        clear c34
                        by_cases c50 : 0 ≤ t238
                        · rw [if_pos c50] at H
                          have c50b0 : decide (0 ≤ t238) = true := decide_eq_true c50
                          clear c50
                          by_cases c51 : t238 < (y235.length : Int)
                          · rw [if_pos c51] at H
                            have c51b0 : decide (t238 < (y235.length : Int)) = true := decide_eq_true c51
                            clear c51
                            obtain ⟨y256, hy256⟩ : ∃ y_ : List Int, y_ = (y235.set (t238 : Int).toNat (rd y235 (ji12))) := ⟨_, rfl⟩
                            replace H : (if 0 ≤ (wrap64 (t238 + 1)) then (if (wrap64 (t238 + 1)) < (y235.length : Int) then (some ((y256.set ((wrap64 (t238 + 1)) : Int).toNat (rd y235 t238)), x1001_16)) else (none)) else (none)) = some (r1, r2) := by first | (rw [hy256]; with_reducible exact H) | (have H2_ := (Option.bind_some _ _).symm.trans H; rw [hy256]; with_reducible exact H2_) | (have H2_ := (Option.bind_some _ _).symm.trans H; with_reducible exact H2_) | with_reducible exact H | (rw [hy256]; exact H) | exact H
                            have Ny256 := Aside0.mk hy256
                            clear hy256
                            have hji53 := hji12
                            replace H : (if 0 ≤ (ji12) then (if (ji12) < (y235.length : Int) then (some ((y256.set ((ji12) : Int).toNat (rd y235 t238)), x1001_16)) else (none)) else (none)) = some (r1, r2) := by first | (rw [hji53] at H; exact H) | (simp only [hji53] at H ⊢; exact H)
                            (try rw [hji53] at A29)
                            (try rw [hji53] at A30)
                            (try rw [hji53] at A31)
                            (try rw [hji53] at A33)
                            have hji53w : (IntKind.i64.wrap (t238 + 1)) = ji12 := (i64_w _).trans hji53
                            by_cases c54 : 0 ≤ (ji12)
                            · rw [if_pos c54] at H
                              have c54b0 : decide (0 ≤ (ji12)) = true := decide_eq_true c54
                              clear c54
                              by_cases c55 : (ji12) < (y235.length : Int)
                              · rw [if_pos c55] at H
                                have c55b0 : decide ((ji12) < (y235.length : Int)) = true := decide_eq_true c55
                                clear c55
                                obtain ⟨y257, hy257⟩ : ∃ y_ : List Int, y_ = (y256.set ((ji12) : Int).toNat (rd y235 t238)) := ⟨_, rfl⟩
                                replace H : (some (y257, x1001_16)) = some (r1, r2) := by first | (rw [hy257]; with_reducible exact H) | (have H2_ := (Option.bind_some _ _).symm.trans H; rw [hy257]; with_reducible exact H2_) | (have H2_ := (Option.bind_some _ _).symm.trans H; with_reducible exact H2_) | with_reducible exact H | (rw [hy257]; exact H) | exact H
                                have Ny257 := Aside0.mk hy257
                                clear hy257
                                simp only [Option.some.injEq, Prod.mk.injEq] at H
                                obtain ⟨rfl, rfl⟩ := H
                                go_wp2_with (first | ((with_reducible refine gate_callee (f := 143) rfl ?_); refine goesL_ (some 62) rfl rfl Try.func143 (by kernel_rfl) rfl #[.int .i64 (wrap64 ((wrap64 ((wrap64 ((rd y235 t238) * t242)) * t242)) + (wrap64 ((wrap64 ((rd y235 (ji12)) * (wrap64 (1 + t244)))) * (wrap64 (1 + t244))))))] rfl (by (try simp only [List.map_toArray, List.map_cons, List.map_nil]); first | done | (simp only [hji12]; rfl) | rfl | (simp only [List.length_drop, List.length_take]; rfl)) ?_; (with_reducible refine (spec_l1Core.calls kj16 (wrap64 ((wrap64 ((wrap64 ((rd y235 t238) * t242)) * t242)) + (wrap64 ((wrap64 ((rd y235 (ji12)) * (wrap64 (1 + t244)))) * (wrap64 (1 + t244)))))) t248 t249 _ A29.out).mono ?_); rintro e w57 ⟨rfl, hb⟩; refine ⟨_, rfl, ?_⟩; have n0_ := Aside0.mk (Kd.R_below ((Sqz.mvR HO_5.out)) hb); have n1_ := Aside0.mk (IsS74.below (by repeat (first | (with_reducible first | exact HI0.out | apply IsS74.alloc | apply IsS74.drewN | apply IsS74.drew | apply IsS74.set_1) | exact HI0.out)) hb); have n2_ := Aside0.mk (KeepBut.trans (by repeat (first | (with_reducible first | exact HK.out | apply KeepBut.set_ | apply keep_drewN | apply keep_drew | apply keep_alloc) | exact HK.out)) (KeepBut.of_below hb g none) (.inl rfl)); have n3_ := Aside0.mk (below_step (by repeat (first | (with_reducible first | exact HB.out | apply below_alloc | apply pw_below_drewN | apply below_drew1 | refine below_set ?_ (IsS74.ge HI0.out)) | exact HB.out)) hb); clear HO_5; clear HI0; clear HK; clear HB; have HO_5 := n0_; have HI0 := n1_; have HK := n2_; have HB := n3_; clear n0_ n1_ n2_ n3_; (try clear hb); (try clear hb2); (try clear hk); (try clear hi)) | ((with_reducible refine gate_callee (f := 143) rfl ?_); refine goesL_ (some 71) rfl rfl Try.func143 (by kernel_rfl) rfl #[.int .i64 (wrap64 ((wrap64 ((rd y235 t238) * (rd y235 (ji12)))) * (wrap64 ((wrap64 ((wrap64 ((rd y235 t238) * t242)) * t242)) + (wrap64 ((wrap64 ((rd y235 (ji12)) * (wrap64 (1 + t244)))) * (wrap64 (1 + t244))))))))] rfl (by (try simp only [List.map_toArray, List.map_cons, List.map_nil]); first | done | (simp only [hji12]; rfl) | rfl | (simp only [List.length_drop, List.length_take]; rfl)) ?_; (with_reducible refine (spec_l1Core.calls kj16 (wrap64 ((wrap64 ((rd y235 t238) * (rd y235 (ji12)))) * (wrap64 ((wrap64 ((wrap64 ((rd y235 t238) * t242)) * t242)) + (wrap64 ((wrap64 ((rd y235 (ji12)) * (wrap64 (1 + t244)))) * (wrap64 (1 + t244)))))))) t250 t251 _ A30.out).mono ?_); rintro e w58 ⟨rfl, hb⟩; refine ⟨_, rfl, ?_⟩; have n0_ := Aside0.mk (Kd.R_below ((Sqz.mvR HO_5.out)) hb); have n1_ := Aside0.mk (IsS74.below (by repeat (first | (with_reducible first | exact HI0.out | apply IsS74.alloc | apply IsS74.drewN | apply IsS74.drew | apply IsS74.set_1) | exact HI0.out)) hb); have n2_ := Aside0.mk (KeepBut.trans (by repeat (first | (with_reducible first | exact HK.out | apply KeepBut.set_ | apply keep_drewN | apply keep_drew | apply keep_alloc) | exact HK.out)) (KeepBut.of_below hb g none) (.inl rfl)); have n3_ := Aside0.mk (below_step (by repeat (first | (with_reducible first | exact HB.out | apply below_alloc | apply pw_below_drewN | apply below_drew1 | refine below_set ?_ (IsS74.ge HI0.out)) | exact HB.out)) hb); clear HO_5; clear HI0; clear HK; clear HB; have HO_5 := n0_; have HI0 := n1_; have HK := n2_; have HB := n3_; clear n0_ n1_ n2_ n3_; (try clear hb); (try clear hb2); (try clear hk); (try clear hi)) | ((with_reducible refine gate_callee (f := 144) rfl ?_); refine goesL_ (some 75) rfl rfl Try.func144 (by kernel_rfl) rfl #[.int .i64 t248] rfl Sqz.auM ?_; (with_reducible refine (spec_l1Size.calls t248 t252 _ A31.out).mono ?_); rintro e w59 ⟨rfl, hb⟩; refine ⟨_, rfl, ?_⟩; have n0_ := Aside0.mk (Kd.R_below ((Sqz.mvR HO_5.out)) hb); have n1_ := Aside0.mk (IsS74.below (by repeat (first | (with_reducible first | exact HI0.out | apply IsS74.alloc | apply IsS74.drewN | apply IsS74.drew | apply IsS74.set_1) | exact HI0.out)) hb); have n2_ := Aside0.mk (KeepBut.trans (by repeat (first | (with_reducible first | exact HK.out | apply KeepBut.set_ | apply keep_drewN | apply keep_drew | apply keep_alloc) | exact HK.out)) (KeepBut.of_below hb g none) (.inl rfl)); have n3_ := Aside0.mk (below_step (by repeat (first | (with_reducible first | exact HB.out | apply below_alloc | apply pw_below_drewN | apply below_drew1 | refine below_set ?_ (IsS74.ge HI0.out)) | exact HB.out)) hb); clear HO_5; clear HI0; clear HK; clear HB; have HO_5 := n0_; have HI0 := n1_; have HK := n2_; have HB := n3_; clear n0_ n1_ n2_ n3_; (try clear hb); (try clear hb2); (try clear hk); (try clear hi)) | (go_at_call 144; (with_reducible refine (spec_l1Size.calls t250 t253 _ A33.out).mono ?_); rintro e w60 ⟨rfl, hb⟩; have n0_ := Aside0.mk (Kd.R_below ((Sqz.mvR HO_5.out)) hb); have n1_ := Aside0.mk (IsS74.below (by repeat (first | (with_reducible first | exact HI0.out | apply IsS74.alloc | apply IsS74.drewN | apply IsS74.drew | apply IsS74.set_1) | exact HI0.out)) hb); have n2_ := Aside0.mk (KeepBut.trans (by repeat (first | (with_reducible first | exact HK.out | apply KeepBut.set_ | apply keep_drewN | apply keep_drew | apply keep_alloc) | exact HK.out)) (KeepBut.of_below hb g none) (.inl rfl)); have n3_ := Aside0.mk (below_step (by repeat (first | (with_reducible first | exact HB.out | apply below_alloc | apply pw_below_drewN | apply below_drew1 | refine below_set ?_ (IsS74.ge HI0.out)) | exact HB.out)) hb); clear HO_5; clear HI0; clear HK; clear HB; have HO_5 := n0_; have HI0 := n1_; have HK := n2_; have HB := n3_; clear n0_ n1_ n2_ n3_; (try clear hb); (try clear hb2); (try clear hk); (try clear hi); have p52 : 0 ≤ (t238 : Int) := of_decide_eq_true (by first | (with_reducible assumption) | assumption); have q52 : (t238 : Int) < ((y235.length : Int) : Int) := of_decide_eq_true (by first | (with_reducible assumption) | assumption); obtain ⟨go52, co52, eo52, gb52, gl52, cl52, HG52⟩ := Kd.R_form HO_5.out (by omega); (first | cases eo52 | (injection eo52 with ea_ en_ ec_; (first | subst ea_ | (injection ea_ with ea_; subst ea_)); subst ec_; clear en_)); have GB52 := Aside0.mk gb52; have GG52 := Aside0.mk HG52; clear gb52 gl52 HG52; obtain ⟨hx52_0, hf52_0⟩ := Kd.R_celln 0 HO_5.out (t238 : Int) p52 q52; replace p52 := eq_true p52; replace q52 := eq_true q52; obtain ⟨hy61_, hz61_⟩ := Kd.R_celln 0 HO_5.out (t238 : Int) (of_decide_eq_true (by first | (with_reducible assumption) | assumption)) (of_decide_eq_true (by first | (with_reducible assumption) | assumption)); have HP61 := Kd.R_putg HO_5.out (t238 : Int) (rd y235 (ji12))) | ((with_reducible refine gate_store (t := 3) (p := 95) rfl ?_); refine store_event (t := 3) (p := 95) (v := ?vo_w62) (w1 := (w60.setCell ⟨go52, (t238 : Int).toNat, none⟩ (.int .i64 (rd y235 (ji12))))) ?hg ?ho ?hn ?hr ?_; (case ho => rfl); (case hg => rfl); (case hn => rfl); (case hr => first | (go_simp; done) | (go_simp; rfl)); intro w62 hw; have hg : w60.grownBy w62 (some go52) := (by rw [hw]; exact HP61.2); have hp_ : Kd.R (Kd.int .i64) 3 w62 w.heap.size (fun _ => True) (.slice (some ⟨go52, 0, none⟩) y235.length co21) y256 := (by rw [hw, Ny256.out]; exact HP61.1); clear HP61; have n0_ := Aside0.mk (hp_); have n1_ := Aside0.mk (IsS74.grown (by repeat (first | (with_reducible first | exact HI0.out | apply IsS74.alloc | apply IsS74.drewN | apply IsS74.drew | apply IsS74.set_1) | exact HI0.out)) hg (IsS74.own_ne HI0.out HO_5.out (by decide))); have n2_ := Aside0.mk ((by rw [hw]; exact below_set (HB.out) (Nat.le_trans HL.out GB52.out) : Below w0.heap.size w0 w62)); have n3_ := Aside0.mk (KeepBut.trans (by repeat (first | (with_reducible first | exact HK.out | apply KeepBut.set_ | apply keep_drewN | apply keep_drew | apply keep_alloc) | exact HK.out)) (KeepBut.of_grown hg g) (Kd.R_base2 HO_5.out)); clear HO_5; clear HI0; clear HB; clear HK; have HO_5 := n0_; have HI0 := n1_; have HB := n2_; have HK := n3_; clear n0_ n1_ n2_ n3_; clear hg hw hp_; have p56 : 0 ≤ ((ji12) : Int) := of_decide_eq_true (by first | (with_reducible assumption) | assumption); have q56 : ((ji12) : Int) < ((y235.length : Int) : Int) := of_decide_eq_true (by first | (with_reducible assumption) | assumption); obtain ⟨hx56_0, hf56_0⟩ := Kd.R_celln 0 HO_5.out ((ji12) : Int) p56 q56; replace p56 := eq_true p56; replace q56 := eq_true q56; obtain ⟨hy63_, hz63_⟩ := Kd.R_celln 0 HO_5.out ((ji12) : Int) (of_decide_eq_true (by first | (with_reducible assumption) | assumption)) (of_decide_eq_true (by first | (with_reducible assumption) | assumption)); have HP63 := Kd.R_putg HO_5.out ((ji12) : Int) (rd y235 t238)) | ((with_reducible refine gate_store (t := 3) (p := 100) rfl ?_); refine store_event (t := 3) (p := 100) (v := ?vo_w64) (w1 := (w62.setCell ⟨go52, ((ji12) : Int).toNat, none⟩ (.int .i64 (rd y235 t238)))) ?hg ?ho ?hn ?hr ?_; (case ho => rfl); (case hg => rfl); (case hn => rfl); (case hr => first | (go_simp; done) | (go_simp; rfl)); intro w64 hw; have hg : w62.grownBy w64 (some go52) := (by rw [hw]; exact HP63.2); have hp_ : Kd.R (Kd.int .i64) 3 w64 w.heap.size (fun _ => True) (.slice (some ⟨go52, 0, none⟩) y235.length co21) y257 := (by rw [hw, Ny257.out]; exact HP63.1); clear HP63; have n0_ := Aside0.mk (hp_); have n1_ := Aside0.mk (IsS74.grown (by repeat (first | (with_reducible first | exact HI0.out | apply IsS74.alloc | apply IsS74.drewN | apply IsS74.drew | apply IsS74.set_1) | exact HI0.out)) hg (IsS74.own_ne HI0.out HO_5.out (by decide))); have n2_ := Aside0.mk ((by rw [hw]; exact below_set (HB.out) (Nat.le_trans HL.out GB52.out) : Below w0.heap.size w0 w64)); have n3_ := Aside0.mk (KeepBut.trans (by repeat (first | (with_reducible first | exact HK.out | apply KeepBut.set_ | apply keep_drewN | apply keep_drew | apply keep_alloc) | exact HK.out)) (KeepBut.of_grown hg g) (Kd.R_base2 HO_5.out)); clear HO_5; clear HI0; clear HB; clear HK; have HO_5 := n0_; have HI0 := n1_; have HB := n2_; have HK := n3_; clear n0_ n1_ n2_ n3_; clear hg hw hp_))
                                go_ret
                                exact ⟨_, by first | rfl | (simp [errW_none, errW_some] <;> rfl) | (simp only [← hji12, ← hji53]; first | rfl | (simp [errW_none, errW_some] <;> rfl)) | (simp [*, errW_none, errW_some] <;> rfl), (Sqz.mvR HO_5.out), by repeat (first | (with_reducible first | exact HI0.out | apply IsS74.alloc | apply IsS74.drewN | apply IsS74.drew | apply IsS74.set_1) | exact HI0.out), by repeat (first | (with_reducible first | exact HB.out | apply below_alloc | apply pw_below_drewN | apply below_drew1 | refine below_set ?_ (IsS74.ge HI0.out)) | exact HB.out), by repeat (first | (with_reducible first | exact HK.out | apply KeepBut.set_ | apply keep_drewN | apply keep_drew | apply keep_alloc) | exact HK.out)⟩
                              · rw [if_neg c55] at H
                                exact absurd H (by simp)
                            · rw [if_neg c54] at H
                              exact absurd H (by simp)
                          · rw [if_neg c51] at H
                            exact absurd H (by simp)
                        · rw [if_neg c50] at H
                          exact absurd H (by simp)
                    · rw [if_neg c32] at H
                      have c32b0 : decide (t252 ≤ 30) = false := decide_eq_false c32
                      clear c32
                      by_cases c65 : 0 ≤ t238
                      · rw [if_pos c65] at H
                        have c65b0 : decide (0 ≤ t238) = true := decide_eq_true c65
                        clear c65
                        by_cases c66 : t238 < (y235.length : Int)
                        · rw [if_pos c66] at H
                          have c66b0 : decide (t238 < (y235.length : Int)) = true := decide_eq_true c66
                          clear c66
                          obtain ⟨y258, hy258⟩ : ∃ y_ : List Int, y_ = (y235.set (t238 : Int).toNat (rd y235 (ji12))) := ⟨_, rfl⟩
                          replace H : (if 0 ≤ (wrap64 (t238 + 1)) then (if (wrap64 (t238 + 1)) < (y235.length : Int) then (some ((y258.set ((wrap64 (t238 + 1)) : Int).toNat (rd y235 t238)), x1001_16)) else (none)) else (none)) = some (r1, r2) := by first | (rw [hy258]; with_reducible exact H) | (have H2_ := (Option.bind_some _ _).symm.trans H; rw [hy258]; with_reducible exact H2_) | (have H2_ := (Option.bind_some _ _).symm.trans H; with_reducible exact H2_) | with_reducible exact H | (rw [hy258]; exact H) | exact H
                          have Ny258 := Aside0.mk hy258
                          clear hy258
                          have hji68 := hji12
                          replace H : (if 0 ≤ (ji12) then (if (ji12) < (y235.length : Int) then (some ((y258.set ((ji12) : Int).toNat (rd y235 t238)), x1001_16)) else (none)) else (none)) = some (r1, r2) := by first | (rw [hji68] at H; exact H) | (simp only [hji68] at H ⊢; exact H)
                          (try rw [hji68] at A29)
                          (try rw [hji68] at A30)
                          (try rw [hji68] at A31)
                          have hji68w : (IntKind.i64.wrap (t238 + 1)) = ji12 := (i64_w _).trans hji68
                          by_cases c69 : 0 ≤ (ji12)
                          · rw [if_pos c69] at H
                            have c69b0 : decide (0 ≤ (ji12)) = true := decide_eq_true c69
                            clear c69
                            by_cases c70 : (ji12) < (y235.length : Int)
                            · rw [if_pos c70] at H
                              have c70b0 : decide ((ji12) < (y235.length : Int)) = true := decide_eq_true c70
                              clear c70
                              obtain ⟨y259, hy259⟩ : ∃ y_ : List Int, y_ = (y258.set ((ji12) : Int).toNat (rd y235 t238)) := ⟨_, rfl⟩
                              replace H : (some (y259, x1001_16)) = some (r1, r2) := by first | (rw [hy259]; with_reducible exact H) | (have H2_ := (Option.bind_some _ _).symm.trans H; rw [hy259]; with_reducible exact H2_) | (have H2_ := (Option.bind_some _ _).symm.trans H; with_reducible exact H2_) | with_reducible exact H | (rw [hy259]; exact H) | exact H
                              have Ny259 := Aside0.mk hy259
                              clear hy259
                              simp only [Option.some.injEq, Prod.mk.injEq] at H
                              obtain ⟨rfl, rfl⟩ := H
                              go_wp2_with (first | ((with_reducible refine gate_callee (f := 143) rfl ?_); refine goesL_ (some 62) rfl rfl Try.func143 (by kernel_rfl) rfl #[.int .i64 (wrap64 ((wrap64 ((wrap64 ((rd y235 t238) * t242)) * t242)) + (wrap64 ((wrap64 ((rd y235 (ji12)) * (wrap64 (1 + t244)))) * (wrap64 (1 + t244))))))] rfl (by (try simp only [List.map_toArray, List.map_cons, List.map_nil]); first | done | (simp only [hji12]; rfl) | rfl | (simp only [List.length_drop, List.length_take]; rfl)) ?_; (with_reducible refine (spec_l1Core.calls kj16 (wrap64 ((wrap64 ((wrap64 ((rd y235 t238) * t242)) * t242)) + (wrap64 ((wrap64 ((rd y235 (ji12)) * (wrap64 (1 + t244)))) * (wrap64 (1 + t244)))))) t248 t249 _ A29.out).mono ?_); rintro e w72 ⟨rfl, hb⟩; refine ⟨_, rfl, ?_⟩; have n0_ := Aside0.mk (Kd.R_below ((Sqz.mvR HO_5.out)) hb); have n1_ := Aside0.mk (IsS74.below (by repeat (first | (with_reducible first | exact HI0.out | apply IsS74.alloc | apply IsS74.drewN | apply IsS74.drew | apply IsS74.set_1) | exact HI0.out)) hb); have n2_ := Aside0.mk (KeepBut.trans (by repeat (first | (with_reducible first | exact HK.out | apply KeepBut.set_ | apply keep_drewN | apply keep_drew | apply keep_alloc) | exact HK.out)) (KeepBut.of_below hb g none) (.inl rfl)); have n3_ := Aside0.mk (below_step (by repeat (first | (with_reducible first | exact HB.out | apply below_alloc | apply pw_below_drewN | apply below_drew1 | refine below_set ?_ (IsS74.ge HI0.out)) | exact HB.out)) hb); clear HO_5; clear HI0; clear HK; clear HB; have HO_5 := n0_; have HI0 := n1_; have HK := n2_; have HB := n3_; clear n0_ n1_ n2_ n3_; (try clear hb); (try clear hb2); (try clear hk); (try clear hi)) | ((with_reducible refine gate_callee (f := 143) rfl ?_); refine goesL_ (some 71) rfl rfl Try.func143 (by kernel_rfl) rfl #[.int .i64 (wrap64 ((wrap64 ((rd y235 t238) * (rd y235 (ji12)))) * (wrap64 ((wrap64 ((wrap64 ((rd y235 t238) * t242)) * t242)) + (wrap64 ((wrap64 ((rd y235 (ji12)) * (wrap64 (1 + t244)))) * (wrap64 (1 + t244))))))))] rfl (by (try simp only [List.map_toArray, List.map_cons, List.map_nil]); first | done | (simp only [hji12]; rfl) | rfl | (simp only [List.length_drop, List.length_take]; rfl)) ?_; (with_reducible refine (spec_l1Core.calls kj16 (wrap64 ((wrap64 ((rd y235 t238) * (rd y235 (ji12)))) * (wrap64 ((wrap64 ((wrap64 ((rd y235 t238) * t242)) * t242)) + (wrap64 ((wrap64 ((rd y235 (ji12)) * (wrap64 (1 + t244)))) * (wrap64 (1 + t244)))))))) t250 t251 _ A30.out).mono ?_); rintro e w73 ⟨rfl, hb⟩; refine ⟨_, rfl, ?_⟩; have n0_ := Aside0.mk (Kd.R_below ((Sqz.mvR HO_5.out)) hb); have n1_ := Aside0.mk (IsS74.below (by repeat (first | (with_reducible first | exact HI0.out | apply IsS74.alloc | apply IsS74.drewN | apply IsS74.drew | apply IsS74.set_1) | exact HI0.out)) hb); have n2_ := Aside0.mk (KeepBut.trans (by repeat (first | (with_reducible first | exact HK.out | apply KeepBut.set_ | apply keep_drewN | apply keep_drew | apply keep_alloc) | exact HK.out)) (KeepBut.of_below hb g none) (.inl rfl)); have n3_ := Aside0.mk (below_step (by repeat (first | (with_reducible first | exact HB.out | apply below_alloc | apply pw_below_drewN | apply below_drew1 | refine below_set ?_ (IsS74.ge HI0.out)) | exact HB.out)) hb); clear HO_5; clear HI0; clear HK; clear HB; have HO_5 := n0_; have HI0 := n1_; have HK := n2_; have HB := n3_; clear n0_ n1_ n2_ n3_; (try clear hb); (try clear hb2); (try clear hk); (try clear hi)) | ((with_reducible refine gate_callee (f := 144) rfl ?_); refine goesL_ (some 75) rfl rfl Try.func144 (by kernel_rfl) rfl #[.int .i64 t248] rfl Sqz.auM ?_; (with_reducible refine (spec_l1Size.calls t248 t252 _ A31.out).mono ?_); rintro e w74 ⟨rfl, hb⟩; refine ⟨_, rfl, ?_⟩; have n0_ := Aside0.mk (Kd.R_below ((Sqz.mvR HO_5.out)) hb); have n1_ := Aside0.mk (IsS74.below (by repeat (first | (with_reducible first | exact HI0.out | apply IsS74.alloc | apply IsS74.drewN | apply IsS74.drew | apply IsS74.set_1) | exact HI0.out)) hb); have n2_ := Aside0.mk (KeepBut.trans (by repeat (first | (with_reducible first | exact HK.out | apply KeepBut.set_ | apply keep_drewN | apply keep_drew | apply keep_alloc) | exact HK.out)) (KeepBut.of_below hb g none) (.inl rfl)); have n3_ := Aside0.mk (below_step (by repeat (first | (with_reducible first | exact HB.out | apply below_alloc | apply pw_below_drewN | apply below_drew1 | refine below_set ?_ (IsS74.ge HI0.out)) | exact HB.out)) hb); clear HO_5; clear HI0; clear HK; clear HB; have HO_5 := n0_; have HI0 := n1_; have HK := n2_; have HB := n3_; clear n0_ n1_ n2_ n3_; (try clear hb); (try clear hb2); (try clear hk); (try clear hi); have p67 : 0 ≤ (t238 : Int) := of_decide_eq_true (by first | (with_reducible assumption) | assumption); have q67 : (t238 : Int) < ((y235.length : Int) : Int) := of_decide_eq_true (by first | (with_reducible assumption) | assumption); obtain ⟨go67, co67, eo67, gb67, gl67, cl67, HG67⟩ := Kd.R_form HO_5.out (by omega); (first | cases eo67 | (injection eo67 with ea_ en_ ec_; (first | subst ea_ | (injection ea_ with ea_; subst ea_)); subst ec_; clear en_)); have GB67 := Aside0.mk gb67; have GG67 := Aside0.mk HG67; clear gb67 gl67 HG67; obtain ⟨hx67_0, hf67_0⟩ := Kd.R_celln 0 HO_5.out (t238 : Int) p67 q67; replace p67 := eq_true p67; replace q67 := eq_true q67; obtain ⟨hy75_, hz75_⟩ := Kd.R_celln 0 HO_5.out (t238 : Int) (of_decide_eq_true (by first | (with_reducible assumption) | assumption)) (of_decide_eq_true (by first | (with_reducible assumption) | assumption)); have HP75 := Kd.R_putg HO_5.out (t238 : Int) (rd y235 (ji12))) | ((with_reducible refine gate_store (t := 3) (p := 95) rfl ?_); refine store_event (t := 3) (p := 95) (v := ?vo_w76) (w1 := (w74.setCell ⟨go67, (t238 : Int).toNat, none⟩ (.int .i64 (rd y235 (ji12))))) ?hg ?ho ?hn ?hr ?_; (case ho => rfl); (case hg => rfl); (case hn => rfl); (case hr => first | (go_simp; done) | (go_simp; rfl)); intro w76 hw; have hg : w74.grownBy w76 (some go67) := (by rw [hw]; exact HP75.2); have hp_ : Kd.R (Kd.int .i64) 3 w76 w.heap.size (fun _ => True) (.slice (some ⟨go67, 0, none⟩) y235.length co21) y258 := (by rw [hw, Ny258.out]; exact HP75.1); clear HP75; have n0_ := Aside0.mk (hp_); have n1_ := Aside0.mk (IsS74.grown (by repeat (first | (with_reducible first | exact HI0.out | apply IsS74.alloc | apply IsS74.drewN | apply IsS74.drew | apply IsS74.set_1) | exact HI0.out)) hg (IsS74.own_ne HI0.out HO_5.out (by decide))); have n2_ := Aside0.mk ((by rw [hw]; exact below_set (HB.out) (Nat.le_trans HL.out GB67.out) : Below w0.heap.size w0 w76)); have n3_ := Aside0.mk (KeepBut.trans (by repeat (first | (with_reducible first | exact HK.out | apply KeepBut.set_ | apply keep_drewN | apply keep_drew | apply keep_alloc) | exact HK.out)) (KeepBut.of_grown hg g) (Kd.R_base2 HO_5.out)); clear HO_5; clear HI0; clear HB; clear HK; have HO_5 := n0_; have HI0 := n1_; have HB := n2_; have HK := n3_; clear n0_ n1_ n2_ n3_; clear hg hw hp_; have p71 : 0 ≤ ((ji12) : Int) := of_decide_eq_true (by first | (with_reducible assumption) | assumption); have q71 : ((ji12) : Int) < ((y235.length : Int) : Int) := of_decide_eq_true (by first | (with_reducible assumption) | assumption); obtain ⟨hx71_0, hf71_0⟩ := Kd.R_celln 0 HO_5.out ((ji12) : Int) p71 q71; replace p71 := eq_true p71; replace q71 := eq_true q71; obtain ⟨hy77_, hz77_⟩ := Kd.R_celln 0 HO_5.out ((ji12) : Int) (of_decide_eq_true (by first | (with_reducible assumption) | assumption)) (of_decide_eq_true (by first | (with_reducible assumption) | assumption)); have HP77 := Kd.R_putg HO_5.out ((ji12) : Int) (rd y235 t238)) | ((with_reducible refine gate_store (t := 3) (p := 100) rfl ?_); refine store_event (t := 3) (p := 100) (v := ?vo_w78) (w1 := (w76.setCell ⟨go67, ((ji12) : Int).toNat, none⟩ (.int .i64 (rd y235 t238)))) ?hg ?ho ?hn ?hr ?_; (case ho => rfl); (case hg => rfl); (case hn => rfl); (case hr => first | (go_simp; done) | (go_simp; rfl)); intro w78 hw; have hg : w76.grownBy w78 (some go67) := (by rw [hw]; exact HP77.2); have hp_ : Kd.R (Kd.int .i64) 3 w78 w.heap.size (fun _ => True) (.slice (some ⟨go67, 0, none⟩) y235.length co21) y259 := (by rw [hw, Ny259.out]; exact HP77.1); clear HP77; have n0_ := Aside0.mk (hp_); have n1_ := Aside0.mk (IsS74.grown (by repeat (first | (with_reducible first | exact HI0.out | apply IsS74.alloc | apply IsS74.drewN | apply IsS74.drew | apply IsS74.set_1) | exact HI0.out)) hg (IsS74.own_ne HI0.out HO_5.out (by decide))); have n2_ := Aside0.mk ((by rw [hw]; exact below_set (HB.out) (Nat.le_trans HL.out GB67.out) : Below w0.heap.size w0 w78)); have n3_ := Aside0.mk (KeepBut.trans (by repeat (first | (with_reducible first | exact HK.out | apply KeepBut.set_ | apply keep_drewN | apply keep_drew | apply keep_alloc) | exact HK.out)) (KeepBut.of_grown hg g) (Kd.R_base2 HO_5.out)); clear HO_5; clear HI0; clear HB; clear HK; have HO_5 := n0_; have HI0 := n1_; have HB := n2_; have HK := n3_; clear n0_ n1_ n2_ n3_; clear hg hw hp_))
                              go_ret
                              exact ⟨_, by first | rfl | (simp [errW_none, errW_some] <;> rfl) | (simp only [← hji12, ← hji68]; first | rfl | (simp [errW_none, errW_some] <;> rfl)) | (simp [*, errW_none, errW_some] <;> rfl), (Sqz.mvR HO_5.out), by repeat (first | (with_reducible first | exact HI0.out | apply IsS74.alloc | apply IsS74.drewN | apply IsS74.drew | apply IsS74.set_1) | exact HI0.out), by repeat (first | (with_reducible first | exact HB.out | apply below_alloc | apply pw_below_drewN | apply below_drew1 | refine below_set ?_ (IsS74.ge HI0.out)) | exact HB.out), by repeat (first | (with_reducible first | exact HK.out | apply KeepBut.set_ | apply keep_drewN | apply keep_drew | apply keep_alloc) | exact HK.out)⟩
                            · rw [if_neg c70] at H
                              exact absurd H (by simp)
                          · rw [if_neg c69] at H
                            exact absurd H (by simp)
                        · rw [if_neg c66] at H
                          exact absurd H (by simp)
                      · rw [if_neg c65] at H
                        exact absurd H (by simp)
                  · replace c28 := Bool.eq_false_iff.mpr c28
                    subst c28
                    have H1 : (if 0 ≤ t238 then (if t238 < (y235.length : Int) then (if 0 ≤ (wrap64 (t238 + 1)) then (if (wrap64 (t238 + 1)) < (y235.length : Int) then (some (((y235.set (t238 : Int).toNat (rd y235 (ji12))).set ((wrap64 (t238 + 1)) : Int).toNat (rd y235 t238)), x1001_16)) else (none)) else (none)) else (none)) else (none)) = some (r1, r2) := by rw [if_neg (show ¬ (false = true) by decide)] at H; exact H
                    clear H
                    have H := H1
                    clear H1
                    by_cases c79 : 0 ≤ t238
                    · rw [if_pos c79] at H
                      have c79b0 : decide (0 ≤ t238) = true := decide_eq_true c79
                      clear c79
                      by_cases c80 : t238 < (y235.length : Int)
                      · rw [if_pos c80] at H
                        have c80b0 : decide (t238 < (y235.length : Int)) = true := decide_eq_true c80
                        clear c80
                        obtain ⟨y260, hy260⟩ : ∃ y_ : List Int, y_ = (y235.set (t238 : Int).toNat (rd y235 (ji12))) := ⟨_, rfl⟩
                        replace H : (if 0 ≤ (wrap64 (t238 + 1)) then (if (wrap64 (t238 + 1)) < (y235.length : Int) then (some ((y260.set ((wrap64 (t238 + 1)) : Int).toNat (rd y235 t238)), x1001_16)) else (none)) else (none)) = some (r1, r2) := by first | (rw [hy260]; with_reducible exact H) | (have H2_ := (Option.bind_some _ _).symm.trans H; rw [hy260]; with_reducible exact H2_) | (have H2_ := (Option.bind_some _ _).symm.trans H; with_reducible exact H2_) | with_reducible exact H | (rw [hy260]; exact H) | exact H
                        have Ny260 := Aside0.mk hy260
                        clear hy260
                        have hji82 := hji12
                        replace H : (if 0 ≤ (ji12) then (if (ji12) < (y235.length : Int) then (some ((y260.set ((ji12) : Int).toNat (rd y235 t238)), x1001_16)) else (none)) else (none)) = some (r1, r2) := by first | (rw [hji82] at H; exact H) | (simp only [hji82] at H ⊢; exact H)
                        have hji82w : (IntKind.i64.wrap (t238 + 1)) = ji12 := (i64_w _).trans hji82
                        by_cases c83 : 0 ≤ (ji12)
                        · rw [if_pos c83] at H
                          have c83b0 : decide (0 ≤ (ji12)) = true := decide_eq_true c83
                          clear c83
                          by_cases c84 : (ji12) < (y235.length : Int)
                          · rw [if_pos c84] at H
                            have c84b0 : decide ((ji12) < (y235.length : Int)) = true := decide_eq_true c84
                            clear c84
                            obtain ⟨y261, hy261⟩ : ∃ y_ : List Int, y_ = (y260.set ((ji12) : Int).toNat (rd y235 t238)) := ⟨_, rfl⟩
                            replace H : (some (y261, x1001_16)) = some (r1, r2) := by first | (rw [hy261]; with_reducible exact H) | (have H2_ := (Option.bind_some _ _).symm.trans H; rw [hy261]; with_reducible exact H2_) | (have H2_ := (Option.bind_some _ _).symm.trans H; with_reducible exact H2_) | with_reducible exact H | (rw [hy261]; exact H) | exact H
                            have Ny261 := Aside0.mk hy261
                            clear hy261
                            simp only [Option.some.injEq, Prod.mk.injEq] at H
                            obtain ⟨rfl, rfl⟩ := H
                            have p81 : 0 ≤ (t238 : Int) := of_decide_eq_true (by first | (with_reducible assumption) | assumption)
                            have q81 : (t238 : Int) < ((y235.length : Int) : Int) := of_decide_eq_true (by first | (with_reducible assumption) | assumption)
                            obtain ⟨go81, co81, eo81, gb81, gl81, cl81, HG81⟩ := Kd.R_form HO_5.out (by omega)
                            (first | cases eo81 | (injection eo81 with ea_ en_ ec_; (first | subst ea_ | (injection ea_ with ea_; subst ea_)); subst ec_; clear en_))
                            have GB81 := Aside0.mk gb81
                            have GG81 := Aside0.mk HG81
                            clear gb81 gl81 HG81
                            obtain ⟨hx81_0, hf81_0⟩ := Kd.R_celln 0 HO_5.out (t238 : Int) p81 q81
                            replace p81 := eq_true p81
                            replace q81 := eq_true q81
                            have HP86 := Kd.R_putg HO_5.out (t238 : Int) (rd y235 (ji12))
                            go_wp2_with (first | ((with_reducible refine gate_store (t := 3) (p := 95) rfl ?_); refine store_event (t := 3) (p := 95) (v := ?vo_w87) (w1 := (wc.setCell ⟨go81, (t238 : Int).toNat, none⟩ (.int .i64 (rd y235 (ji12))))) ?hg ?ho ?hn ?hr ?_; (case ho => rfl); (case hg => rfl); (case hn => rfl); (case hr => first | (go_simp; done) | (go_simp; rfl)); intro w87 hw; have hg : wc.grownBy w87 (some go81) := (by rw [hw]; exact HP86.2); have hp_ : Kd.R (Kd.int .i64) 3 w87 w.heap.size (fun _ => True) (.slice (some ⟨go81, 0, none⟩) y235.length co21) y260 := (by rw [hw, Ny260.out]; exact HP86.1); clear HP86; have n0_ := Aside0.mk (hp_); have n1_ := Aside0.mk (IsS74.grown (by repeat (first | (with_reducible first | exact HI0.out | apply IsS74.alloc | apply IsS74.drewN | apply IsS74.drew | apply IsS74.set_1) | exact HI0.out)) hg (IsS74.own_ne HI0.out HO_5.out (by decide))); have n2_ := Aside0.mk ((by rw [hw]; exact below_set (HB.out) (Nat.le_trans HL.out GB81.out) : Below w0.heap.size w0 w87)); have n3_ := Aside0.mk (KeepBut.trans (by repeat (first | (with_reducible first | exact HK.out | apply KeepBut.set_ | apply keep_drewN | apply keep_drew | apply keep_alloc) | exact HK.out)) (KeepBut.of_grown hg g) (Kd.R_base2 HO_5.out)); clear HO_5; clear HI0; clear HB; clear HK; have HO_5 := n0_; have HI0 := n1_; have HB := n2_; have HK := n3_; clear n0_ n1_ n2_ n3_; clear hg hw hp_; have p85 : 0 ≤ ((ji12) : Int) := of_decide_eq_true (by first | (with_reducible assumption) | assumption); have q85 : ((ji12) : Int) < ((y235.length : Int) : Int) := of_decide_eq_true (by first | (with_reducible assumption) | assumption); obtain ⟨hx85_0, hf85_0⟩ := Kd.R_celln 0 HO_5.out ((ji12) : Int) p85 q85; replace p85 := eq_true p85; replace q85 := eq_true q85; obtain ⟨hy88_, hz88_⟩ := Kd.R_celln 0 HO_5.out ((ji12) : Int) (of_decide_eq_true (by first | (with_reducible assumption) | assumption)) (of_decide_eq_true (by first | (with_reducible assumption) | assumption)); have HP88 := Kd.R_putg HO_5.out ((ji12) : Int) (rd y235 t238)) | ((with_reducible refine gate_store (t := 3) (p := 100) rfl ?_); refine store_event (t := 3) (p := 100) (v := ?vo_w89) (w1 := (w87.setCell ⟨go81, ((ji12) : Int).toNat, none⟩ (.int .i64 (rd y235 t238)))) ?hg ?ho ?hn ?hr ?_; (case ho => rfl); (case hg => rfl); (case hn => rfl); (case hr => first | (go_simp; done) | (go_simp; rfl)); intro w89 hw; have hg : w87.grownBy w89 (some go81) := (by rw [hw]; exact HP88.2); have hp_ : Kd.R (Kd.int .i64) 3 w89 w.heap.size (fun _ => True) (.slice (some ⟨go81, 0, none⟩) y235.length co21) y261 := (by rw [hw, Ny261.out]; exact HP88.1); clear HP88; have n0_ := Aside0.mk (hp_); have n1_ := Aside0.mk (IsS74.grown (by repeat (first | (with_reducible first | exact HI0.out | apply IsS74.alloc | apply IsS74.drewN | apply IsS74.drew | apply IsS74.set_1) | exact HI0.out)) hg (IsS74.own_ne HI0.out HO_5.out (by decide))); have n2_ := Aside0.mk ((by rw [hw]; exact below_set (HB.out) (Nat.le_trans HL.out GB81.out) : Below w0.heap.size w0 w89)); have n3_ := Aside0.mk (KeepBut.trans (by repeat (first | (with_reducible first | exact HK.out | apply KeepBut.set_ | apply keep_drewN | apply keep_drew | apply keep_alloc) | exact HK.out)) (KeepBut.of_grown hg g) (Kd.R_base2 HO_5.out)); clear HO_5; clear HI0; clear HB; clear HK; have HO_5 := n0_; have HI0 := n1_; have HB := n2_; have HK := n3_; clear n0_ n1_ n2_ n3_; clear hg hw hp_))
                            go_ret
                            exact ⟨_, by first | rfl | (simp [errW_none, errW_some] <;> rfl) | (simp only [← hji12, ← hji82]; first | rfl | (simp [errW_none, errW_some] <;> rfl)) | (simp [*, errW_none, errW_some] <;> rfl), (Sqz.mvR HO_5.out), by repeat (first | (with_reducible first | exact HI0.out | apply IsS74.alloc | apply IsS74.drewN | apply IsS74.drew | apply IsS74.set_1) | exact HI0.out), by repeat (first | (with_reducible first | exact HB.out | apply below_alloc | apply pw_below_drewN | apply below_drew1 | refine below_set ?_ (IsS74.ge HI0.out)) | exact HB.out), by repeat (first | (with_reducible first | exact HK.out | apply KeepBut.set_ | apply keep_drewN | apply keep_drew | apply keep_alloc) | exact HK.out)⟩
                          · rw [if_neg c84] at H
                            exact absurd H (by simp)
                        · rw [if_neg c83] at H
                          exact absurd H (by simp)
                      · rw [if_neg c80] at H
                        exact absurd H (by simp)
                    · rw [if_neg c79] at H
                      exact absurd H (by simp)
            · rw [if_neg c14] at H
              exact absurd H (by simp)
          · rw [if_neg c13] at H
            exact absurd H (by simp)
        · rw [if_neg c11] at H
          exact absurd H (by simp)
      · rw [if_neg c10] at H
        exact absurd H (by simp)
  · rw [if_neg c3] at H
    exact absurd H (by simp)

/-! ### spec_l6In: function 115 -/
def spec_l6In.f (a0 : Int) (a1 : Int) (a2 : Int) : Option (Bool) := if a0 ≥ a1 then (some (decide (a0 ≤ a2))) else (some false)
set_option maxHeartbeats 8000000 in
set_option maxRecDepth 100000 in
theorem spec_l6In.calls (a0 : Int) (a1 : Int) (a2 : Int) (r : Bool) (w : World) (h : spec_l6In.f a0 a1 a2 = some r) :
    Calls Try.prog 115 #[.int .i64 a0, .int .i64 a1, .int .i64 a2] w fun e w' => e = .returned (.bool r) ∧ Drawn0 w w' := by
  have H : (if a0 ≥ a1 then (some (decide (a0 ≤ a2))) else (some false)) = some r := h
  clear h
  by_cases c4 : a0 ≥ a1
  · rw [if_pos c4] at H
    have c4b0 : decide (a1 ≤ a0) = true := decide_eq_true c4
    clear c4
    obtain rfl := Option.some.inj H
    go_enter Try.func115, Try.ntmps115
    go_wp2
    go_ret
    exact ⟨Sqz.auS, by repeat (first | exact Drawn0.refl _ | apply Drawn0.step)⟩
  · rw [if_neg c4] at H
    have c4b0 : decide (a1 ≤ a0) = false := decide_eq_false c4
    clear c4
    obtain rfl := Option.some.inj H
    go_enter Try.func115, Try.ntmps115
    go_wp2
    go_ret
    exact ⟨Sqz.auS, by repeat (first | exact Drawn0.refl _ | apply Drawn0.step)⟩

/-! ### spec_FormValid: function 86 -/
def spec_FormValid.l0 : Nat → List Int → Int → Option (Bool)
  | 0, _, _ => none
  | k + 1, x0, x3 => if x3 < (x0.length : Int) then (if 0 ≤ x3 then (if (rd x0 x3) = 0 then (some false) else ((spec_l6In.f (rd x0 x3) (-30) 30).bind fun t264 => (if t264 = true then (spec_FormValid.l0 k x0 (wrap64 (x3 + 1))) else (some false)))) else (none)) else ((spec_l6In.f (x0.length : Int) 1 4).bind fun t265 => (some t265))
def spec_FormValid.f (k : Nat) (l0 : List Int) : Option (Bool) := spec_FormValid.l0 k l0 0
set_option maxHeartbeats 8000000 in
set_option maxRecDepth 100000 in
theorem spec_FormValid.calls (k : Nat) (A0 : Option Addr) (c0 : Nat) (l0 : List Int) (r : Bool) (w : World) (hr0 : Kd.C (Kd.int .i64) w A0 l0.length l0) (hc0 : l0.length ≤ c0) (h : spec_FormValid.f k l0 = some r) :
    Calls Try.prog 86 #[.slice A0 l0.length c0] w fun e w' => e = .returned (.bool r) ∧ Drawn0 w w' := by
  have HR0 := Aside0.mk hr0
  have HC0 := Aside0.mk hc0
  clear hr0 hc0
  have H : (spec_FormValid.l0 k l0 0) = some r := h
  clear h
  have H' := Aside0.mk H
  clear H
  go_enter Try.func86, Try.ntmps86
  go_wp2
  go_loopg [3] k (fun kq v3 w' => ∃ (x3_1 : Int), v3 = .int .i64 x3_1 ∧ Aside0 (spec_FormValid.l0 kq l0 x3_1 = some r) ∧ Aside0 (kq ≤ k) ∧ Drawn0 w w')
  case atStart => exact ⟨(0), Sqz.auS, H', ⟨Nat.le_refl _⟩, by repeat (first | exact Drawn0.refl _ | apply Drawn0.step)⟩
  case round =>
    clear H'
    obtain ⟨x3_1, rfl, HA, HK1, ⟨m1, rfl⟩⟩ := hrel
    cases gk with
    | zero => exact absurd HA.out (by simp [spec_FormValid.l0])
    | succ k1 =>
      have H := HA.out
      clear HA
      simp only [spec_FormValid.l0] at H
      by_cases c2 : x3_1 < (l0.length : Int)
      · rw [if_pos c2] at H
        have c2b0 : decide (x3_1 < (l0.length : Int)) = true := decide_eq_true c2
        clear c2
        by_cases c3 : 0 ≤ x3_1
        · rw [if_pos c3] at H
          have c3b0 : decide (0 ≤ x3_1) = true := decide_eq_true c3
          clear c3
          by_cases c4 : (rd l0 x3_1) = 0
          · rw [if_pos c4] at H
            have c4b0 : ((rd l0 x3_1) == 0) = true := beq_iff_eq.mpr c4
            have c4b1 : ((rd l0 x3_1) != 0) = false := bne_eq_false_iff_eq.mpr c4
            clear c4
            obtain rfl := Option.some.inj H
            have p262 : 0 ≤ (x3_1 : Int) := of_decide_eq_true (by first | (with_reducible assumption) | assumption)
            have q262 : x3_1 < (l0.length : Int) := of_decide_eq_true (by first | (with_reducible assumption) | assumption)
            obtain ⟨ad262, e262, hx262_0⟩ := Kd.at_int HR0.out x3_1 p262 q262
            cases e262
            replace p262 := eq_true p262
            replace q262 := eq_true q262
            go_wp2
            go_ret
            exact ⟨Sqz.auS, by repeat (first | exact Drawn0.refl _ | apply Drawn0.step)⟩
          · rw [if_neg c4] at H
            have c4b0 : ((rd l0 x3_1) == 0) = false := beq_eq_false_iff_ne.mpr c4
            have c4b1 : ((rd l0 x3_1) != 0) = true := bne_iff_ne.mpr c4
            replace H := Option.bind_eq_some_iff.mp H
            obtain ⟨t264, A50, H⟩ := H
            replace H : (if t264 = true then (spec_FormValid.l0 k1 l0 (wrap64 (x3_1 + 1))) else (some false)) = some r := H
            have A5 := Aside0.mk A50
            clear A50
            by_cases c6 : t264 = true
            · subst c6
              have H1 : (spec_FormValid.l0 k1 l0 (wrap64 (x3_1 + 1))) = some r := by rw [if_pos rfl] at H; exact H
              clear H
              have H := H1
              clear H1
              have H' := Aside0.mk H
              clear H
              have p262 : 0 ≤ (x3_1 : Int) := of_decide_eq_true (by first | (with_reducible assumption) | assumption)
              have q262 : x3_1 < (l0.length : Int) := of_decide_eq_true (by first | (with_reducible assumption) | assumption)
              obtain ⟨ad262, e262, hx262_0⟩ := Kd.at_int HR0.out x3_1 p262 q262
              cases e262
              replace p262 := eq_true p262
              replace q262 := eq_true q262
              have p263 : 0 ≤ (x3_1 : Int) := of_decide_eq_true (by first | (with_reducible assumption) | assumption)
              have q263 : x3_1 < (l0.length : Int) := of_decide_eq_true (by first | (with_reducible assumption) | assumption)
              obtain ⟨ad263, e263, hx263_0⟩ := Kd.at_int HR0.out x3_1 p263 q263
              obtain rfl : ad262 = ad263 := (by injection e263)
              replace p263 := eq_true p263
              replace q263 := eq_true q263
              go_wp2_with (first | (go_at_call 115; (with_reducible refine (spec_l6In.calls (rd l0 x3_1) (-30) 30 true _ A5.out).mono ?_); rintro e w' ⟨rfl, ⟨nd, rfl⟩⟩))
              go_roundg k1
              case measure => have := HK1.out; omega
              case rel => exact ⟨(wrap64 (x3_1 + 1)), Sqz.auS, H', ⟨by have := HK1.out; omega⟩, by repeat (first | exact Drawn0.refl _ | apply Drawn0.step)⟩
            · replace c6 := Bool.eq_false_iff.mpr c6
              subst c6
              have H1 : (some false) = some r := by rw [if_neg (show ¬ (false = true) by decide)] at H; exact H
              clear H
              have H := H1
              clear H1
              obtain rfl := Option.some.inj H
              have p262 : 0 ≤ (x3_1 : Int) := of_decide_eq_true (by first | (with_reducible assumption) | assumption)
              have q262 : x3_1 < (l0.length : Int) := of_decide_eq_true (by first | (with_reducible assumption) | assumption)
              obtain ⟨ad262, e262, hx262_0⟩ := Kd.at_int HR0.out x3_1 p262 q262
              cases e262
              replace p262 := eq_true p262
              replace q262 := eq_true q262
              have p263 : 0 ≤ (x3_1 : Int) := of_decide_eq_true (by first | (with_reducible assumption) | assumption)
              have q263 : x3_1 < (l0.length : Int) := of_decide_eq_true (by first | (with_reducible assumption) | assumption)
              obtain ⟨ad263, e263, hx263_0⟩ := Kd.at_int HR0.out x3_1 p263 q263
              obtain rfl : ad262 = ad263 := (by injection e263)
              replace p263 := eq_true p263
              replace q263 := eq_true q263
              go_wp2_with (first | (go_at_call 115; (with_reducible refine (spec_l6In.calls (rd l0 x3_1) (-30) 30 false _ A5.out).mono ?_); rintro e w' ⟨rfl, ⟨nd, rfl⟩⟩))
              go_ret
              exact ⟨Sqz.auS, by repeat (first | exact Drawn0.refl _ | apply Drawn0.step)⟩
        · rw [if_neg c3] at H
          exact absurd H (by simp)
      · rw [if_neg c2] at H
        have c2b0 : decide (x3_1 < (l0.length : Int)) = false := decide_eq_false c2
        clear c2
        replace H := Option.bind_eq_some_iff.mp H
        obtain ⟨t265, A70, H⟩ := H
        replace H : (some t265) = some r := H
        have A7 := Aside0.mk A70
        clear A70
        obtain rfl := Option.some.inj H
        go_wp2_with (first | ((with_reducible refine gate_callee (f := 115) rfl ?_); refine goesL_ (some 25) rfl rfl Try.func115 (by kernel_rfl) rfl #[.int .i64 (l0.length : Int), .int .i64 1, .int .i64 4] rfl Sqz.auM ?_; (with_reducible refine (spec_l6In.calls (l0.length : Int) 1 4 t265 _ A7.out).mono ?_); rintro e w' ⟨rfl, ⟨nd, rfl⟩⟩; refine ⟨_, rfl, ?_⟩))
        go_ret
        exact ⟨Sqz.auS, by repeat (first | exact Drawn0.refl _ | apply Drawn0.step)⟩

end Go.Proofs.Ytihadpckmcebgaa.PFnPlanesAll
