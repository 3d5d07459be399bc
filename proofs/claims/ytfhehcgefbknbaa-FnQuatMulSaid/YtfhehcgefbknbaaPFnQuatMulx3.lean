/- A function's Lean twin and its walk, written by a program of this session. -/
import Derived.Test.YtfhehcgefbknbaaPFnQuatMulx0
namespace Go.Proofs.Ytfhehcgefbknbaa.PFnQuatMul
open Go.RowKit Go.Proofs.YtfhehcgefbknbaaW.PrintWords Go.Proofs.YtfhehcgefbknbaaW.PrintLast Go.Proofs.YtfhehcgefbknbaaW.PrintMore
attribute [local go_sem] max2_int min2_int max_two min_two max_three min_three max_four min_four   -- for this text's walks alone
set_option linter.unusedVariables false
set_option linter.unusedSimpArgs false

/-! ### impl_size: function 67 -/
def impl_size.f (a0 : Int) : Option (Int) := some (mx a0 (wrap64 (-a0)))
set_option maxHeartbeats 8000000 in
set_option maxRecDepth 100000 in
theorem impl_size.calls (a0 : Int) (r : Int) (w : World) (h : impl_size.f a0 = some r) :
    Calls Try.prog 67 #[.int .i64 a0] w fun e w' => e = .returned (.int .i64 r) ∧ Below w.heap.size w w' := by
  have HB := Aside0.mk (Below.refl w.heap.size w)
  have H : (some (mx a0 (wrap64 (-a0)))) = some r := h
  clear h
  obtain ⟨ji2, hji2⟩ : ∃ j_ : Int, (mx a0 (wrap64 (-a0))) = j_ := ⟨_, rfl⟩
  replace H : (some ji2) = some r := by first | (rw [hji2] at H; exact H) | (simp only [hji2] at H ⊢; exact H)
  have hji2_ : (if a0 < (wrap64 (-a0)) then (wrap64 (-a0)) else a0) = ji2 := hji2
  obtain rfl := Option.some.inj H
  go_enter Try.func67, Try.ntmps67
  go_wp2
  go_ret
  exact ⟨by first | rfl | (simp [errW_none, errW_some] <;> rfl) | (simp only [← hji2]; first | rfl | (simp [errW_none, errW_some] <;> rfl)) | (simp [*, errW_none, errW_some] <;> rfl), Sqz.auHB⟩

/-! ### impl_QuatValid: function 52 -/
def impl_QuatValid.l0 : Nat → List Int → List Int → Int → Int → Option (Bool)
  | 0, _, _, _, _ => none
  | k + 1, x0, x5, x6, x7 => if x7 < x6 then (if 0 ≤ x7 then (if x7 < (x5.length : Int) then ((impl_size.f (rd x5 x7)).bind fun t104 => (if t104 > 10000 then (some false) else (if (rd x5 x7) < (-10000) then (some false) else (impl_QuatValid.l0 k x0 x5 x6 (wrap64 (x7 + 1)))))) else (none)) else (none)) else (some ((x0.length : Int) == 4))
def impl_QuatValid.f (k : Nat) (l0 : List Int) : Option (Bool) := impl_QuatValid.l0 k l0 l0 (l0.length : Int) 0
set_option maxHeartbeats 8000000 in
set_option maxRecDepth 100000 in
theorem impl_QuatValid.calls (k : Nat) (A0 : Option Addr) (c0 : Nat) (l0 : List Int) (r : Bool) (w : World) (hr0 : Kd.C (Kd.int .i64) w A0 l0.length l0) (hc0 : l0.length ≤ c0) (h : impl_QuatValid.f k l0 = some r) :
    Calls Try.prog 52 #[.slice A0 l0.length c0] w fun e w' => e = .returned (.bool r) ∧ Below w.heap.size w w' := by
  have HR0 := Aside0.mk hr0
  have HC0 := Aside0.mk hc0
  clear hr0 hc0
  have HB := Aside0.mk (Below.refl w.heap.size w)
  have H : (impl_QuatValid.l0 k l0 l0 (l0.length : Int) 0) = some r := h
  clear h
  have H' := Aside0.mk H
  clear H
  go_enter Try.func52, Try.ntmps52
  go_wp2
  go_loopg [7] k (fun kq v7 w' => ∃ (x7_1 : Int), v7 = .int .i64 x7_1 ∧ Aside0 (impl_QuatValid.l0 kq l0 l0 (l0.length : Int) x7_1 = some r) ∧ Aside0 (kq ≤ k) ∧ Aside0 (Below w.heap.size w w'))
  case atStart => exact ⟨(0), Sqz.auS, H', ⟨Nat.le_refl _⟩, ⟨Sqz.auHB⟩⟩
  case round =>
    clear H'
    obtain ⟨x7_1, rfl, HA, HK1, HB⟩ := hrel
    cases gk with
    | zero => exact absurd HA.out (by simp [impl_QuatValid.l0])
    | succ k1 =>
      have H := HA.out
      clear HA
      simp only [impl_QuatValid.l0] at H
      by_cases c2 : x7_1 < (l0.length : Int)
      · rw [if_pos c2] at H
        have c2b0 : decide (x7_1 < (l0.length : Int)) = true := decide_eq_true c2
        clear c2
        by_cases c3 : 0 ≤ x7_1
        · rw [if_pos c3] at H
          have c3b0 : decide (0 ≤ x7_1) = true := decide_eq_true c3
          clear c3
          by_cases c4 : x7_1 < (l0.length : Int)
          · rw [if_pos c4] at H
            have c4b0 : decide (x7_1 < (l0.length : Int)) = true := decide_eq_true c4
            clear c4
            replace H := Option.bind_eq_some_iff.mp H
            obtain ⟨t104, A50, H⟩ := H
            replace H : (if t104 > 10000 then (some false) else (if (rd l0 x7_1) < (-10000) then (some false) else (impl_QuatValid.l0 k1 l0 l0 (l0.length : Int) (wrap64 (x7_1 + 1))))) = some r := H
            have A5 := Aside0.mk A50
            clear A50
            by_cases c6 : t104 > 10000
            · rw [if_pos c6] at H
              have c6b0 : decide (10000 < t104) = true := decide_eq_true c6
              clear c6
              obtain rfl := Option.some.inj H
              have p103 : 0 ≤ (x7_1 : Int) := of_decide_eq_true (by first | (with_reducible assumption) | assumption)
              have q103 : x7_1 < (l0.length : Int) := of_decide_eq_true (by first | (with_reducible assumption) | assumption)
              obtain ⟨ad103, e103, hx103_0⟩ := Kd.at_int HR0.out x7_1 p103 q103
              cases e103
              replace hx103_0 := (HB.out.cell (World.block_lt_of_cell? w _ hx103_0)).trans hx103_0
              replace p103 := eq_true p103
              replace q103 := eq_true q103
              go_wp2_with (first | ((with_reducible refine gate_callee (f := 67) rfl ?_); refine goesL_ (some 12) rfl rfl Try.func67 (by kernel_rfl) rfl #[.int .i64 (rd l0 x7_1)] rfl Sqz.auM ?_; (with_reducible refine (impl_size.calls (rd l0 x7_1) t104 _ A5.out).mono ?_); rintro e w7 ⟨rfl, hb⟩; refine ⟨_, rfl, ?_⟩; have n0_ := Aside0.mk (below_step (Sqz.auHB) hb); clear HB; have HB := n0_; clear n0_; (try clear hb); (try clear hb2); (try clear hk); (try clear hi)))
              go_ret
              exact ⟨Sqz.auR, Sqz.auHB⟩
            · rw [if_neg c6] at H
              have c6b0 : decide (10000 < t104) = false := decide_eq_false c6
              clear c6
              by_cases c8 : (rd l0 x7_1) < (-10000)
              · rw [if_pos c8] at H
                have c8b0 : decide ((rd l0 x7_1) < (-10000)) = true := decide_eq_true c8
                clear c8
                obtain rfl := Option.some.inj H
                have p103 : 0 ≤ (x7_1 : Int) := of_decide_eq_true (by first | (with_reducible assumption) | assumption)
                have q103 : x7_1 < (l0.length : Int) := of_decide_eq_true (by first | (with_reducible assumption) | assumption)
                obtain ⟨ad103, e103, hx103_0⟩ := Kd.at_int HR0.out x7_1 p103 q103
                cases e103
                replace hx103_0 := (HB.out.cell (World.block_lt_of_cell? w _ hx103_0)).trans hx103_0
                replace p103 := eq_true p103
                replace q103 := eq_true q103
                go_wp2_with (first | ((with_reducible refine gate_callee (f := 67) rfl ?_); refine goesL_ (some 12) rfl rfl Try.func67 (by kernel_rfl) rfl #[.int .i64 (rd l0 x7_1)] rfl Sqz.auM ?_; (with_reducible refine (impl_size.calls (rd l0 x7_1) t104 _ A5.out).mono ?_); rintro e w9 ⟨rfl, hb⟩; refine ⟨_, rfl, ?_⟩; have n0_ := Aside0.mk (below_step (Sqz.auHB) hb); clear HB; have HB := n0_; clear n0_; (try clear hb); (try clear hb2); (try clear hk); (try clear hi)))
                go_ret
                exact ⟨Sqz.auR, Sqz.auHB⟩
              · rw [if_neg c8] at H
                have c8b0 : decide ((rd l0 x7_1) < (-10000)) = false := decide_eq_false c8
                clear c8
                have H' := Aside0.mk H
                clear H
                have p103 : 0 ≤ (x7_1 : Int) := of_decide_eq_true (by first | (with_reducible assumption) | assumption)
                have q103 : x7_1 < (l0.length : Int) := of_decide_eq_true (by first | (with_reducible assumption) | assumption)
                obtain ⟨ad103, e103, hx103_0⟩ := Kd.at_int HR0.out x7_1 p103 q103
                cases e103
                replace hx103_0 := (HB.out.cell (World.block_lt_of_cell? w _ hx103_0)).trans hx103_0
                replace p103 := eq_true p103
                replace q103 := eq_true q103
                go_wp2_with (first | ((with_reducible refine gate_callee (f := 67) rfl ?_); refine goesL_ (some 12) rfl rfl Try.func67 (by kernel_rfl) rfl #[.int .i64 (rd l0 x7_1)] rfl Sqz.auM ?_; (with_reducible refine (impl_size.calls (rd l0 x7_1) t104 _ A5.out).mono ?_); rintro e w10 ⟨rfl, hb⟩; refine ⟨_, rfl, ?_⟩; have n0_ := Aside0.mk (below_step (Sqz.auHB) hb); clear HB; have HB := n0_; clear n0_; (try clear hb); (try clear hb2); (try clear hk); (try clear hi)))
                go_roundg k1
                case measure => have := HK1.out; omega
                case rel => exact ⟨(wrap64 (x7_1 + 1)), Sqz.auS, H', ⟨by have := HK1.out; omega⟩, ⟨Sqz.auHB⟩⟩
          · rw [if_neg c4] at H
            exact absurd H (by simp)
        · rw [if_neg c3] at H
          exact absurd H (by simp)
      · rw [if_neg c2] at H
        have c2b0 : decide (x7_1 < (l0.length : Int)) = false := decide_eq_false c2
        clear c2
        obtain rfl := Option.some.inj H
        go_wp2
        go_ret
        exact ⟨Sqz.auR, Sqz.auHB⟩

/-! ### impl_QuatMul: function 21 -/
def impl_QuatMul.j0 : Nat → List Int → List Int → Bool → Option (List Int × Bool)
  | 0, _, _, _ => none
  | k + 1, x0, x1, x22 => if x22 = true then (some (([] : List Int), false)) else (if 0 < (x0.length : Int) then (if 1 < (x0.length : Int) then (if 2 < (x0.length : Int) then (if 3 < (x0.length : Int) then (if 0 < (x1.length : Int) then (if 1 < (x1.length : Int) then (if 2 < (x1.length : Int) then (if 3 < (x1.length : Int) then ((some (([wrap64 ((wrap64 ((wrap64 ((wrap64 ((rd x0 0) * (rd x1 0))) - (wrap64 ((rd x0 1) * (rd x1 1))))) - (wrap64 ((rd x0 2) * (rd x1 2))))) - (wrap64 ((rd x0 3) * (rd x1 3)))), wrap64 ((wrap64 ((wrap64 ((wrap64 ((rd x0 0) * (rd x1 1))) + (wrap64 ((rd x0 1) * (rd x1 0))))) + (wrap64 ((rd x0 2) * (rd x1 3))))) - (wrap64 ((rd x0 3) * (rd x1 2)))), wrap64 ((wrap64 ((wrap64 ((wrap64 ((rd x0 0) * (rd x1 2))) - (wrap64 ((rd x0 1) * (rd x1 3))))) + (wrap64 ((rd x0 2) * (rd x1 0))))) + (wrap64 ((rd x0 3) * (rd x1 1)))), wrap64 ((wrap64 ((wrap64 ((wrap64 ((rd x0 0) * (rd x1 3))) + (wrap64 ((rd x0 1) * (rd x1 2))))) - (wrap64 ((rd x0 2) * (rd x1 1))))) + (wrap64 ((rd x0 3) * (rd x1 0))))] : List Int) : List Int)).bind fun y115 => ((impl_QuatValid.f k y115).bind fun t118 => (if t118 = true then (some (y115, true)) else (some (([] : List Int), false))))) else (none)) else (none)) else (none)) else (none)) else (none)) else (none)) else (none)) else (none))
def impl_QuatMul.f (k : Nat) (l0 : List Int) (l1 : List Int) : Option (List Int × Bool) := (impl_QuatValid.f k l0).bind fun t105 => (if t105 = true then ((impl_QuatValid.f k l1).bind fun t106 => (impl_QuatMul.j0 k l0 l1 (!t106))) else (impl_QuatMul.j0 k l0 l1 true))
set_option maxHeartbeats 8000000 in
set_option maxRecDepth 100000 in
theorem impl_QuatMul.calls (k : Nat) (A0 : Option Addr) (c0 : Nat) (l0 : List Int) (A1 : Option Addr) (c1 : Nat) (l1 : List Int) (r1 : List Int) (r2 : Bool) (w : World) (hr0 : Kd.C (Kd.int .i64) w A0 l0.length l0) (hc0 : l0.length ≤ c0) (hr1 : Kd.C (Kd.int .i64) w A1 l1.length l1) (hc1 : l1.length ≤ c1) (h : impl_QuatMul.f k l0 l1 = some (r1, r2)) :
    Calls Try.prog 21 #[.slice A0 l0.length c0, .slice A1 l1.length c1] w fun e w' => ∃ v0_ : Value, e = .returned (.tuple #[v0_, .bool r2]) ∧ Kd.R (Kd.int .i64) 3 w' w.heap.size (fun _ => True) v0_ r1 ∧ Below w.heap.size w w' := by
  have HR0 := Aside0.mk hr0
  have HC0 := Aside0.mk hc0
  clear hr0 hc0
  have HR1 := Aside0.mk hr1
  have HC1 := Aside0.mk hc1
  clear hr1 hc1
  have HB := Aside0.mk (Below.refl w.heap.size w)
  have H : ((impl_QuatValid.f k l0).bind fun t105 => (if t105 = true then ((impl_QuatValid.f k l1).bind fun t106 => (impl_QuatMul.j0 k l0 l1 (!t106))) else (impl_QuatMul.j0 k l0 l1 true))) = some (r1, r2) := h
  clear h
  have HC3 := Aside0.mk H
  clear H
  go_enter Try.func21, Try.ntmps21
  go_upto_region 1 with (fail)
  repeat (go_quiet (fail); go_upto_region 1 with (fail))
  go_cut [22] (fun v22 wc => ∃ (kq : Nat) (x22_2 : Bool), v22 = .bool x22_2 ∧ Aside0 (impl_QuatMul.j0 kq l0 l1 x22_2 = some (r1, r2)) ∧ Aside0 (kq ≤ k) ∧ Aside0 (Below w.heap.size w wc))
  case first =>
    have H := HC3.out
    clear HC3
    replace H := Option.bind_eq_some_iff.mp H
    obtain ⟨t105, A40, H⟩ := H
    replace H : (if t105 = true then ((impl_QuatValid.f k l1).bind fun t106 => (impl_QuatMul.j0 k l0 l1 (!t106))) else (impl_QuatMul.j0 k l0 l1 true)) = some (r1, r2) := H
    have A4 := Aside0.mk A40
    clear A40
    by_cases c5 : t105 = true
    · subst c5
      have H1 : ((impl_QuatValid.f k l1).bind fun t106 => (impl_QuatMul.j0 k l0 l1 (!t106))) = some (r1, r2) := by rw [if_pos rfl] at H; exact H
      clear H
      have H := H1
      clear H1
      replace H := Option.bind_eq_some_iff.mp H
      obtain ⟨t106, A60, H⟩ := H
      replace H : (impl_QuatMul.j0 k l0 l1 (!t106)) = some (r1, r2) := H
      have A6 := Aside0.mk A60
      clear A60
      have H' := Aside0.mk H
      clear H
      go_wp2_with (first | (go_at_call 52; (with_reducible refine (impl_QuatValid.calls k _ _ l0 true _ ?side1 ?side2 A4.out).mono ?_); (case side1 => exact Sqz.mvC ((Kd.C_below HR0.out HB.out))); (case side2 => exact HC0.out); rintro e w7 ⟨rfl, hb⟩; have n0_ := Aside0.mk (below_step (Sqz.auHB) hb); clear HB; have HB := n0_; clear n0_; (try clear hb); (try clear hb2); (try clear hk); (try clear hi)) | (go_at_call 52; (with_reducible refine (impl_QuatValid.calls k _ _ l1 t106 _ ?side1 ?side2 A6.out).mono ?_); (case side1 => exact Sqz.mvC ((Kd.C_below HR1.out HB.out))); (case side2 => exact HC1.out); rintro e w8 ⟨rfl, hb⟩; have n0_ := Aside0.mk (below_step (Sqz.auHB) hb); clear HB; have HB := n0_; clear n0_; (try clear hb); (try clear hb2); (try clear hk); (try clear hi)))
      repeat (go_quiet (first | (go_at_call 52; (with_reducible refine (impl_QuatValid.calls k _ _ l0 true _ ?side1 ?side2 A4.out).mono ?_); (case side1 => exact Sqz.mvC ((Kd.C_below HR0.out HB.out))); (case side2 => exact HC0.out); rintro e w7 ⟨rfl, hb⟩; have n0_ := Aside0.mk (below_step (Sqz.auHB) hb); clear HB; have HB := n0_; clear n0_; (try clear hb); (try clear hb2); (try clear hk); (try clear hi)) | (go_at_call 52; (with_reducible refine (impl_QuatValid.calls k _ _ l1 t106 _ ?side1 ?side2 A6.out).mono ?_); (case side1 => exact Sqz.mvC ((Kd.C_below HR1.out HB.out))); (case side2 => exact HC1.out); rintro e w8 ⟨rfl, hb⟩; have n0_ := Aside0.mk (below_step (Sqz.auHB) hb); clear HB; have HB := n0_; clear n0_; (try clear hb); (try clear hb2); (try clear hk); (try clear hi))); try go_wp2_with (first | (go_at_call 52; (with_reducible refine (impl_QuatValid.calls k _ _ l0 true _ ?side1 ?side2 A4.out).mono ?_); (case side1 => exact Sqz.mvC ((Kd.C_below HR0.out HB.out))); (case side2 => exact HC0.out); rintro e w7 ⟨rfl, hb⟩; have n0_ := Aside0.mk (below_step (Sqz.auHB) hb); clear HB; have HB := n0_; clear n0_; (try clear hb); (try clear hb2); (try clear hk); (try clear hi)) | (go_at_call 52; (with_reducible refine (impl_QuatValid.calls k _ _ l1 t106 _ ?side1 ?side2 A6.out).mono ?_); (case side1 => exact Sqz.mvC ((Kd.C_below HR1.out HB.out))); (case side2 => exact HC1.out); rintro e w8 ⟨rfl, hb⟩; have n0_ := Aside0.mk (below_step (Sqz.auHB) hb); clear HB; have HB := n0_; clear n0_; (try clear hb); (try clear hb2); (try clear hk); (try clear hi))))
      go_meet
      case rel => exact ⟨_, (!t106), Sqz.auS, H', ⟨Sqz.auN⟩, ⟨Sqz.auHB⟩⟩
    · replace c5 := Bool.eq_false_iff.mpr c5
      subst c5
      have H1 : (impl_QuatMul.j0 k l0 l1 true) = some (r1, r2) := by rw [if_neg (show ¬ (false = true) by decide)] at H; exact H
      clear H
      have H := H1
      clear H1
      have H' := Aside0.mk H
      clear H
      go_wp2_with (first | (go_at_call 52; (with_reducible refine (impl_QuatValid.calls k _ _ l0 false _ ?side1 ?side2 A4.out).mono ?_); (case side1 => exact Sqz.mvC ((Kd.C_below HR0.out HB.out))); (case side2 => exact HC0.out); rintro e w9 ⟨rfl, hb⟩; have n0_ := Aside0.mk (below_step (Sqz.auHB) hb); clear HB; have HB := n0_; clear n0_; (try clear hb); (try clear hb2); (try clear hk); (try clear hi)))
      repeat (go_quiet (first | (go_at_call 52; (with_reducible refine (impl_QuatValid.calls k _ _ l0 false _ ?side1 ?side2 A4.out).mono ?_); (case side1 => exact Sqz.mvC ((Kd.C_below HR0.out HB.out))); (case side2 => exact HC0.out); rintro e w9 ⟨rfl, hb⟩; have n0_ := Aside0.mk (below_step (Sqz.auHB) hb); clear HB; have HB := n0_; clear n0_; (try clear hb); (try clear hb2); (try clear hk); (try clear hi))); try go_wp2_with (first | (go_at_call 52; (with_reducible refine (impl_QuatValid.calls k _ _ l0 false _ ?side1 ?side2 A4.out).mono ?_); (case side1 => exact Sqz.mvC ((Kd.C_below HR0.out HB.out))); (case side2 => exact HC0.out); rintro e w9 ⟨rfl, hb⟩; have n0_ := Aside0.mk (below_step (Sqz.auHB) hb); clear HB; have HB := n0_; clear n0_; (try clear hb); (try clear hb2); (try clear hk); (try clear hi))))
      go_meet
      case rel => exact ⟨_, (true), Sqz.auS, H', ⟨Sqz.auN⟩, ⟨Sqz.auHB⟩⟩
  case rest =>
    clear HC3
    try clear c1
    try clear c2
    try clear p2
    try clear c5
    obtain ⟨kq, x22_2, rfl, HA, HJ2, HB⟩ := hcut
    cases kq with
    | zero => exact absurd HA.out (by simp [impl_QuatMul.j0])
    | succ kj2 =>
      have H := HA.out
      clear HA
      simp only [impl_QuatMul.j0] at H
      by_cases c10 : x22_2 = true
      · subst c10
        have H1 : (some (([] : List Int), false)) = some (r1, r2) := by rw [if_pos rfl] at H; exact H
        clear H
        have H := H1
        clear H1
        simp only [Option.some.injEq, Prod.mk.injEq] at H
        obtain ⟨rfl, rfl⟩ := H
        go_wp2
        repeat (go_quiet (fail); try go_wp2)
        go_ret2
        exact ⟨_, Sqz.auR, by first | exact Kd.R_nil _ _ _ _ _ | exact Kd.N_nil _ _ _ _ _ | exact Kd.V_nil _ _ _ _ _ | exact Kd.Q_nil _ _ _ _ _ | exact Kd.S_nil _ _ _ _ _, Sqz.auHB⟩
      · replace c10 := Bool.eq_false_iff.mpr c10
        subst c10
        have H1 : (if 0 < (l0.length : Int) then (if 1 < (l0.length : Int) then (if 2 < (l0.length : Int) then (if 3 < (l0.length : Int) then (if 0 < (l1.length : Int) then (if 1 < (l1.length : Int) then (if 2 < (l1.length : Int) then (if 3 < (l1.length : Int) then ((some (([wrap64 ((wrap64 ((wrap64 ((wrap64 ((rd l0 0) * (rd l1 0))) - (wrap64 ((rd l0 1) * (rd l1 1))))) - (wrap64 ((rd l0 2) * (rd l1 2))))) - (wrap64 ((rd l0 3) * (rd l1 3)))), wrap64 ((wrap64 ((wrap64 ((wrap64 ((rd l0 0) * (rd l1 1))) + (wrap64 ((rd l0 1) * (rd l1 0))))) + (wrap64 ((rd l0 2) * (rd l1 3))))) - (wrap64 ((rd l0 3) * (rd l1 2)))), wrap64 ((wrap64 ((wrap64 ((wrap64 ((rd l0 0) * (rd l1 2))) - (wrap64 ((rd l0 1) * (rd l1 3))))) + (wrap64 ((rd l0 2) * (rd l1 0))))) + (wrap64 ((rd l0 3) * (rd l1 1)))), wrap64 ((wrap64 ((wrap64 ((wrap64 ((rd l0 0) * (rd l1 3))) + (wrap64 ((rd l0 1) * (rd l1 2))))) - (wrap64 ((rd l0 2) * (rd l1 1))))) + (wrap64 ((rd l0 3) * (rd l1 0))))] : List Int) : List Int)).bind fun y115 => ((impl_QuatValid.f kj2 y115).bind fun t118 => (if t118 = true then (some (y115, true)) else (some (([] : List Int), false))))) else (none)) else (none)) else (none)) else (none)) else (none)) else (none)) else (none)) else (none)) = some (r1, r2) := by rw [if_neg (show ¬ (false = true) by decide)] at H; exact H
        clear H
        have H := H1
        clear H1
        by_cases c11 : 0 < (l0.length : Int)
        · rw [if_pos c11] at H
          have c11b0 : decide (0 < (l0.length : Int)) = true := decide_eq_true c11
          have c11b1 : decide (0 < l0.length) = true := decide_eq_true (by omega)
          clear c11
          by_cases c12 : 1 < (l0.length : Int)
          · rw [if_pos c12] at H
            have c12b0 : decide (1 < (l0.length : Int)) = true := decide_eq_true c12
            have c12b1 : decide (1 < l0.length) = true := decide_eq_true (by omega)
            clear c12
            by_cases c13 : 2 < (l0.length : Int)
            · rw [if_pos c13] at H
              have c13b0 : decide (2 < (l0.length : Int)) = true := decide_eq_true c13
              have c13b1 : decide (2 < l0.length) = true := decide_eq_true (by omega)
              clear c13
              by_cases c14 : 3 < (l0.length : Int)
              · rw [if_pos c14] at H
                have c14b0 : decide (3 < (l0.length : Int)) = true := decide_eq_true c14
                have c14b1 : decide (3 < l0.length) = true := decide_eq_true (by omega)
                clear c14
                by_cases c15 : 0 < (l1.length : Int)
                · rw [if_pos c15] at H
                  have c15b0 : decide (0 < (l1.length : Int)) = true := decide_eq_true c15
                  have c15b1 : decide (0 < l1.length) = true := decide_eq_true (by omega)
                  clear c15
                  by_cases c16 : 1 < (l1.length : Int)
                  · rw [if_pos c16] at H
                    have c16b0 : decide (1 < (l1.length : Int)) = true := decide_eq_true c16
                    have c16b1 : decide (1 < l1.length) = true := decide_eq_true (by omega)
                    clear c16
                    by_cases c17 : 2 < (l1.length : Int)
                    · rw [if_pos c17] at H
                      have c17b0 : decide (2 < (l1.length : Int)) = true := decide_eq_true c17
                      have c17b1 : decide (2 < l1.length) = true := decide_eq_true (by omega)
                      clear c17
                      by_cases c18 : 3 < (l1.length : Int)
                      · rw [if_pos c18] at H
                        have c18b0 : decide (3 < (l1.length : Int)) = true := decide_eq_true c18
                        have c18b1 : decide (3 < l1.length) = true := decide_eq_true (by omega)
                        clear c18
                        obtain ⟨y115, hy115⟩ : ∃ y_ : List Int, y_ = (([wrap64 ((wrap64 ((wrap64 ((wrap64 ((rd l0 0) * (rd l1 0))) - (wrap64 ((rd l0 1) * (rd l1 1))))) - (wrap64 ((rd l0 2) * (rd l1 2))))) - (wrap64 ((rd l0 3) * (rd l1 3)))), wrap64 ((wrap64 ((wrap64 ((wrap64 ((rd l0 0) * (rd l1 1))) + (wrap64 ((rd l0 1) * (rd l1 0))))) + (wrap64 ((rd l0 2) * (rd l1 3))))) - (wrap64 ((rd l0 3) * (rd l1 2)))), wrap64 ((wrap64 ((wrap64 ((wrap64 ((rd l0 0) * (rd l1 2))) - (wrap64 ((rd l0 1) * (rd l1 3))))) + (wrap64 ((rd l0 2) * (rd l1 0))))) + (wrap64 ((rd l0 3) * (rd l1 1)))), wrap64 ((wrap64 ((wrap64 ((wrap64 ((rd l0 0) * (rd l1 3))) + (wrap64 ((rd l0 1) * (rd l1 2))))) - (wrap64 ((rd l0 2) * (rd l1 1))))) + (wrap64 ((rd l0 3) * (rd l1 0))))] : List Int)) := ⟨_, rfl⟩
                        replace H : ((impl_QuatValid.f kj2 y115).bind fun t118 => (if t118 = true then (some (y115, true)) else (some (([] : List Int), false)))) = some (r1, r2) := by first | (rw [hy115]; with_reducible exact H) | (have H2_ := (Option.bind_some _ _).symm.trans H; rw [hy115]; with_reducible exact H2_) | (have H2_ := (Option.bind_some _ _).symm.trans H; with_reducible exact H2_) | with_reducible exact H | (rw [hy115]; exact H) | exact H
                        have Ny115 := Aside0.mk hy115
                        clear hy115
                        replace H := Option.bind_eq_some_iff.mp H
                        obtain ⟨t118, A190, H⟩ := H
                        replace H : (if t118 = true then (some (y115, true)) else (some (([] : List Int), false))) = some (r1, r2) := H
                        have A19 := Aside0.mk A190
                        clear A190
                        by_cases c20 : t118 = true
                        · subst c20
                          have H1 : (some (y115, true)) = some (r1, r2) := by rw [if_pos rfl] at H; exact H
                          clear H
                          have H := H1
                          clear H1
                          simp only [Option.some.injEq, Prod.mk.injEq] at H
                          obtain ⟨rfl, rfl⟩ := H
                          have p107 : 0 ≤ (0 : Int) := (by omega)
                          have q107 : 0 < (l0.length : Int) := of_decide_eq_true (by first | (with_reducible assumption) | assumption)
                          obtain ⟨ad107, e107, hx107_0⟩ := Kd.at_int HR0.out 0 p107 q107
                          cases e107
                          have qi107 : (0 < l0.length) = True := eq_true (by omega)
                          (try rw [show ((0 : Int)).toNat = 0 from rfl] at hx107_0)
                          (try rw [Addr.add_zero'] at hx107_0)
                          replace hx107_0 := (HB.out.cell (World.block_lt_of_cell? w _ hx107_0)).trans hx107_0
                          replace p107 := eq_true p107
                          replace q107 := eq_true q107
                          have p108 : 0 ≤ (1 : Int) := (by omega)
                          have q108 : 1 < (l0.length : Int) := of_decide_eq_true (by first | (with_reducible assumption) | assumption)
                          obtain ⟨ad108, e108, hx108_0⟩ := Kd.at_int HR0.out 1 p108 q108
                          obtain rfl : ad107 = ad108 := (by injection e108)
                          (try simp only [show (1 : Int).toNat = 1 from rfl, Nat.reduceMul, Nat.reduceEqDiff, Go.Addr.add, ↓reduceIte] at hx108_0)
                          have qi108 : (1 < l0.length) = True := eq_true (by omega)
                          (try rw [show ((1 : Int)).toNat = 1 from rfl] at hx108_0)
                          replace hx108_0 := (HB.out.cell (World.block_lt_of_cell? w _ hx108_0)).trans hx108_0
                          replace p108 := eq_true p108
                          replace q108 := eq_true q108
                          have p109 : 0 ≤ (2 : Int) := (by omega)
                          have q109 : 2 < (l0.length : Int) := of_decide_eq_true (by first | (with_reducible assumption) | assumption)
                          obtain ⟨ad109, e109, hx109_0⟩ := Kd.at_int HR0.out 2 p109 q109
                          obtain rfl : ad107 = ad109 := (by injection e109)
                          (try simp only [show (2 : Int).toNat = 2 from rfl, Nat.reduceMul, Nat.reduceEqDiff, Go.Addr.add, ↓reduceIte] at hx109_0)
                          have qi109 : (2 < l0.length) = True := eq_true (by omega)
                          (try rw [show ((2 : Int)).toNat = 2 from rfl] at hx109_0)
                          replace hx109_0 := (HB.out.cell (World.block_lt_of_cell? w _ hx109_0)).trans hx109_0
                          replace p109 := eq_true p109
                          replace q109 := eq_true q109
                          have p110 : 0 ≤ (3 : Int) := (by omega)
                          have q110 : 3 < (l0.length : Int) := of_decide_eq_true (by first | (with_reducible assumption) | assumption)
                          obtain ⟨ad110, e110, hx110_0⟩ := Kd.at_int HR0.out 3 p110 q110
                          obtain rfl : ad107 = ad110 := (by injection e110)
                          (try simp only [show (3 : Int).toNat = 3 from rfl, Nat.reduceMul, Nat.reduceEqDiff, Go.Addr.add, ↓reduceIte] at hx110_0)
                          have qi110 : (3 < l0.length) = True := eq_true (by omega)
                          (try rw [show ((3 : Int)).toNat = 3 from rfl] at hx110_0)
                          replace hx110_0 := (HB.out.cell (World.block_lt_of_cell? w _ hx110_0)).trans hx110_0
                          replace p110 := eq_true p110
                          replace q110 := eq_true q110
                          have p111 : 0 ≤ (0 : Int) := (by omega)
                          have q111 : 0 < (l1.length : Int) := of_decide_eq_true (by first | (with_reducible assumption) | assumption)
                          obtain ⟨ad111, e111, hx111_0⟩ := Kd.at_int HR1.out 0 p111 q111
                          cases e111
                          have qi111 : (0 < l1.length) = True := eq_true (by omega)
                          (try rw [show ((0 : Int)).toNat = 0 from rfl] at hx111_0)
                          (try rw [Addr.add_zero'] at hx111_0)
                          replace hx111_0 := (HB.out.cell (World.block_lt_of_cell? w _ hx111_0)).trans hx111_0
                          replace p111 := eq_true p111
                          replace q111 := eq_true q111
                          have p112 : 0 ≤ (1 : Int) := (by omega)
                          have q112 : 1 < (l1.length : Int) := of_decide_eq_true (by first | (with_reducible assumption) | assumption)
                          obtain ⟨ad112, e112, hx112_0⟩ := Kd.at_int HR1.out 1 p112 q112
                          obtain rfl : ad111 = ad112 := (by injection e112)
                          (try simp only [show (1 : Int).toNat = 1 from rfl, Nat.reduceMul, Nat.reduceEqDiff, Go.Addr.add, ↓reduceIte] at hx112_0)
                          have qi112 : (1 < l1.length) = True := eq_true (by omega)
                          (try rw [show ((1 : Int)).toNat = 1 from rfl] at hx112_0)
                          replace hx112_0 := (HB.out.cell (World.block_lt_of_cell? w _ hx112_0)).trans hx112_0
                          replace p112 := eq_true p112
                          replace q112 := eq_true q112
                          have p113 : 0 ≤ (2 : Int) := (by omega)
                          have q113 : 2 < (l1.length : Int) := of_decide_eq_true (by first | (with_reducible assumption) | assumption)
                          obtain ⟨ad113, e113, hx113_0⟩ := Kd.at_int HR1.out 2 p113 q113
                          obtain rfl : ad111 = ad113 := (by injection e113)
                          (try simp only [show (2 : Int).toNat = 2 from rfl, Nat.reduceMul, Nat.reduceEqDiff, Go.Addr.add, ↓reduceIte] at hx113_0)
                          have qi113 : (2 < l1.length) = True := eq_true (by omega)
                          (try rw [show ((2 : Int)).toNat = 2 from rfl] at hx113_0)
                          replace hx113_0 := (HB.out.cell (World.block_lt_of_cell? w _ hx113_0)).trans hx113_0
                          replace p113 := eq_true p113
                          replace q113 := eq_true q113
                          have p114 : 0 ≤ (3 : Int) := (by omega)
                          have q114 : 3 < (l1.length : Int) := of_decide_eq_true (by first | (with_reducible assumption) | assumption)
                          obtain ⟨ad114, e114, hx114_0⟩ := Kd.at_int HR1.out 3 p114 q114
                          obtain rfl : ad111 = ad114 := (by injection e114)
                          (try simp only [show (3 : Int).toNat = 3 from rfl, Nat.reduceMul, Nat.reduceEqDiff, Go.Addr.add, ↓reduceIte] at hx114_0)
                          have qi114 : (3 < l1.length) = True := eq_true (by omega)
                          (try rw [show ((3 : Int)).toNat = 3 from rfl] at hx114_0)
                          replace hx114_0 := (HB.out.cell (World.block_lt_of_cell? w _ hx114_0)).trans hx114_0
                          replace p114 := eq_true p114
                          replace q114 := eq_true q114
                          go_wp2_with (first | ((with_reducible refine gate_dst (N := 107) rfl ?_); refine Kd.R_lit (Kd.int .i64) _ 3 ?hg (N := 107) ?hd (xs := ([wrap64 ((wrap64 ((wrap64 ((wrap64 ((rd l0 0) * (rd l1 0))) - (wrap64 ((rd l0 1) * (rd l1 1))))) - (wrap64 ((rd l0 2) * (rd l1 2))))) - (wrap64 ((rd l0 3) * (rd l1 3)))), wrap64 ((wrap64 ((wrap64 ((wrap64 ((rd l0 0) * (rd l1 1))) + (wrap64 ((rd l0 1) * (rd l1 0))))) + (wrap64 ((rd l0 2) * (rd l1 3))))) - (wrap64 ((rd l0 3) * (rd l1 2)))), wrap64 ((wrap64 ((wrap64 ((wrap64 ((rd l0 0) * (rd l1 2))) - (wrap64 ((rd l0 1) * (rd l1 3))))) + (wrap64 ((rd l0 2) * (rd l1 0))))) + (wrap64 ((rd l0 3) * (rd l1 1)))), wrap64 ((wrap64 ((wrap64 ((wrap64 ((rd l0 0) * (rd l1 3))) + (wrap64 ((rd l0 1) * (rd l1 2))))) - (wrap64 ((rd l0 2) * (rd l1 1))))) + (wrap64 ((rd l0 3) * (rd l1 0))))] : List Int)) (inner := [.int .i64 (wrap64 ((wrap64 ((wrap64 ((wrap64 ((rd l0 0) * (rd l1 0))) - (wrap64 ((rd l0 1) * (rd l1 1))))) - (wrap64 ((rd l0 2) * (rd l1 2))))) - (wrap64 ((rd l0 3) * (rd l1 3))))), .int .i64 (wrap64 ((wrap64 ((wrap64 ((wrap64 ((rd l0 0) * (rd l1 1))) + (wrap64 ((rd l0 1) * (rd l1 0))))) + (wrap64 ((rd l0 2) * (rd l1 3))))) - (wrap64 ((rd l0 3) * (rd l1 2))))), .int .i64 (wrap64 ((wrap64 ((wrap64 ((wrap64 ((rd l0 0) * (rd l1 2))) - (wrap64 ((rd l0 1) * (rd l1 3))))) + (wrap64 ((rd l0 2) * (rd l1 0))))) + (wrap64 ((rd l0 3) * (rd l1 1))))), .int .i64 (wrap64 ((wrap64 ((wrap64 ((wrap64 ((rd l0 0) * (rd l1 3))) + (wrap64 ((rd l0 1) * (rd l1 2))))) - (wrap64 ((rd l0 2) * (rd l1 1))))) + (wrap64 ((rd l0 3) * (rd l1 0)))))]) (ok := fun _ => True) (okp := fun _ => True) ?hr ?hp (fun _ hk => hk) trivial (Below.refl _ _) (Nat.le_refl _) (by simp) ?_; (case hd => rfl); (case hg => rfl); (case hr => first | (go_simp; done) | (go_simp; rfl)); (case hp => exact (Reps.one (show Kd.M (Kd.int .i64) _ _ _ (wrap64 ((wrap64 ((wrap64 ((wrap64 ((rd l0 0) * (rd l1 0))) - (wrap64 ((rd l0 1) * (rd l1 1))))) - (wrap64 ((rd l0 2) * (rd l1 2))))) - (wrap64 ((rd l0 3) * (rd l1 3))))) [.int .i64 (wrap64 ((wrap64 ((wrap64 ((wrap64 ((rd l0 0) * (rd l1 0))) - (wrap64 ((rd l0 1) * (rd l1 1))))) - (wrap64 ((rd l0 2) * (rd l1 2))))) - (wrap64 ((rd l0 3) * (rd l1 3)))))] from rfl) (Reps.one (show Kd.M (Kd.int .i64) _ _ _ (wrap64 ((wrap64 ((wrap64 ((wrap64 ((rd l0 0) * (rd l1 1))) + (wrap64 ((rd l0 1) * (rd l1 0))))) + (wrap64 ((rd l0 2) * (rd l1 3))))) - (wrap64 ((rd l0 3) * (rd l1 2))))) [.int .i64 (wrap64 ((wrap64 ((wrap64 ((wrap64 ((rd l0 0) * (rd l1 1))) + (wrap64 ((rd l0 1) * (rd l1 0))))) + (wrap64 ((rd l0 2) * (rd l1 3))))) - (wrap64 ((rd l0 3) * (rd l1 2)))))] from rfl) (Reps.one (show Kd.M (Kd.int .i64) _ _ _ (wrap64 ((wrap64 ((wrap64 ((wrap64 ((rd l0 0) * (rd l1 2))) - (wrap64 ((rd l0 1) * (rd l1 3))))) + (wrap64 ((rd l0 2) * (rd l1 0))))) + (wrap64 ((rd l0 3) * (rd l1 1))))) [.int .i64 (wrap64 ((wrap64 ((wrap64 ((wrap64 ((rd l0 0) * (rd l1 2))) - (wrap64 ((rd l0 1) * (rd l1 3))))) + (wrap64 ((rd l0 2) * (rd l1 0))))) + (wrap64 ((rd l0 3) * (rd l1 1)))))] from rfl) (Reps.one (show Kd.M (Kd.int .i64) _ _ _ (wrap64 ((wrap64 ((wrap64 ((wrap64 ((rd l0 0) * (rd l1 3))) + (wrap64 ((rd l0 1) * (rd l1 2))))) - (wrap64 ((rd l0 2) * (rd l1 1))))) + (wrap64 ((rd l0 3) * (rd l1 0))))) [.int .i64 (wrap64 ((wrap64 ((wrap64 ((wrap64 ((rd l0 0) * (rd l1 3))) + (wrap64 ((rd l0 1) * (rd l1 2))))) - (wrap64 ((rd l0 2) * (rd l1 1))))) + (wrap64 ((rd l0 3) * (rd l1 0)))))] from rfl) (Reps.none _ _)))))); intro v116 w21 ho22 hb hg_ hnew_; clear hg_ hnew_; (first | rw [← Ny115.out] at ho22 | (simp only [Int.reduceToNat] at ho22; rw [← Ny115.out] at ho22)); have n0_ := Aside0.mk (Kd.R_lower ho22 (below_size (Sqz.auHB))); have n1_ := Aside0.mk (below_step (Sqz.auHB) hb); clear HB; have HO117 := n0_; have HB := n1_; clear n0_ n1_; clear hb ho22; obtain ⟨Ao23, co23, eo23⟩ := Kd.R_slice HO117.out; subst eo23) | (go_at_call 52; (with_reducible refine (impl_QuatValid.calls kj2 _ _ y115 true _ ?side1 ?side2 A19.out).mono ?_); (case side1 => exact Sqz.mvC ((Kd.R_reads' HO117.out).2.2)); (case side2 => exact (Kd.R_reads' HO117.out).2.1); rintro e w24 ⟨rfl, hb⟩; have n0_ := Aside0.mk (Kd.R_below ((Sqz.mvR HO117.out)) hb); have n1_ := Aside0.mk (below_step (Sqz.auHB) hb); clear HO117; clear HB; have HO117 := n0_; have HB := n1_; clear n0_ n1_; (try clear hb); (try clear hb2); (try clear hk); (try clear hi)))
                          repeat (go_quiet (first | ((with_reducible refine gate_dst (N := 107) rfl ?_); refine Kd.R_lit (Kd.int .i64) _ 3 ?hg (N := 107) ?hd (xs := ([wrap64 ((wrap64 ((wrap64 ((wrap64 ((rd l0 0) * (rd l1 0))) - (wrap64 ((rd l0 1) * (rd l1 1))))) - (wrap64 ((rd l0 2) * (rd l1 2))))) - (wrap64 ((rd l0 3) * (rd l1 3)))), wrap64 ((wrap64 ((wrap64 ((wrap64 ((rd l0 0) * (rd l1 1))) + (wrap64 ((rd l0 1) * (rd l1 0))))) + (wrap64 ((rd l0 2) * (rd l1 3))))) - (wrap64 ((rd l0 3) * (rd l1 2)))), wrap64 ((wrap64 ((wrap64 ((wrap64 ((rd l0 0) * (rd l1 2))) - (wrap64 ((rd l0 1) * (rd l1 3))))) + (wrap64 ((rd l0 2) * (rd l1 0))))) + (wrap64 ((rd l0 3) * (rd l1 1)))), wrap64 ((wrap64 ((wrap64 ((wrap64 ((rd l0 0) * (rd l1 3))) + (wrap64 ((rd l0 1) * (rd l1 2))))) - (wrap64 ((rd l0 2) * (rd l1 1))))) + (wrap64 ((rd l0 3) * (rd l1 0))))] : List Int)) (inner := [.int .i64 (wrap64 ((wrap64 ((wrap64 ((wrap64 ((rd l0 0) * (rd l1 0))) - (wrap64 ((rd l0 1) * (rd l1 1))))) - (wrap64 ((rd l0 2) * (rd l1 2))))) - (wrap64 ((rd l0 3) * (rd l1 3))))), .int .i64 (wrap64 ((wrap64 ((wrap64 ((wrap64 ((rd l0 0) * (rd l1 1))) + (wrap64 ((rd l0 1) * (rd l1 0))))) + (wrap64 ((rd l0 2) * (rd l1 3))))) - (wrap64 ((rd l0 3) * (rd l1 2))))), .int .i64 (wrap64 ((wrap64 ((wrap64 ((wrap64 ((rd l0 0) * (rd l1 2))) - (wrap64 ((rd l0 1) * (rd l1 3))))) + (wrap64 ((rd l0 2) * (rd l1 0))))) + (wrap64 ((rd l0 3) * (rd l1 1))))), .int .i64 (wrap64 ((wrap64 ((wrap64 ((wrap64 ((rd l0 0) * (rd l1 3))) + (wrap64 ((rd l0 1) * (rd l1 2))))) - (wrap64 ((rd l0 2) * (rd l1 1))))) + (wrap64 ((rd l0 3) * (rd l1 0)))))]) (ok := fun _ => True) (okp := fun _ => True) ?hr ?hp (fun _ hk => hk) trivial (Below.refl _ _) (Nat.le_refl _) (by simp) ?_; (case hd => rfl); (case hg => rfl); (case hr => first | (go_simp; done) | (go_simp; rfl)); (case hp => exact (Reps.one (show Kd.M (Kd.int .i64) _ _ _ (wrap64 ((wrap64 ((wrap64 ((wrap64 ((rd l0 0) * (rd l1 0))) - (wrap64 ((rd l0 1) * (rd l1 1))))) - (wrap64 ((rd l0 2) * (rd l1 2))))) - (wrap64 ((rd l0 3) * (rd l1 3))))) [.int .i64 (wrap64 ((wrap64 ((wrap64 ((wrap64 ((rd l0 0) * (rd l1 0))) - (wrap64 ((rd l0 1) * (rd l1 1))))) - (wrap64 ((rd l0 2) * (rd l1 2))))) - (wrap64 ((rd l0 3) * (rd l1 3)))))] from rfl) (Reps.one (show Kd.M (Kd.int .i64) _ _ _ (wrap64 ((wrap64 ((wrap64 ((wrap64 ((rd l0 0) * (rd l1 1))) + (wrap64 ((rd l0 1) * (rd l1 0))))) + (wrap64 ((rd l0 2) * (rd l1 3))))) - (wrap64 ((rd l0 3) * (rd l1 2))))) [.int .i64 (wrap64 ((wrap64 ((wrap64 ((wrap64 ((rd l0 0) * (rd l1 1))) + (wrap64 ((rd l0 1) * (rd l1 0))))) + (wrap64 ((rd l0 2) * (rd l1 3))))) - (wrap64 ((rd l0 3) * (rd l1 2)))))] from rfl) (Reps.one (show Kd.M (Kd.int .i64) _ _ _ (wrap64 ((wrap64 ((wrap64 ((wrap64 ((rd l0 0) * (rd l1 2))) - (wrap64 ((rd l0 1) * (rd l1 3))))) + (wrap64 ((rd l0 2) * (rd l1 0))))) + (wrap64 ((rd l0 3) * (rd l1 1))))) [.int .i64 (wrap64 ((wrap64 ((wrap64 ((wrap64 ((rd l0 0) * (rd l1 2))) - (wrap64 ((rd l0 1) * (rd l1 3))))) + (wrap64 ((rd l0 2) * (rd l1 0))))) + (wrap64 ((rd l0 3) * (rd l1 1)))))] from rfl) (Reps.one (show Kd.M (Kd.int .i64) _ _ _ (wrap64 ((wrap64 ((wrap64 ((wrap64 ((rd l0 0) * (rd l1 3))) + (wrap64 ((rd l0 1) * (rd l1 2))))) - (wrap64 ((rd l0 2) * (rd l1 1))))) + (wrap64 ((rd l0 3) * (rd l1 0))))) [.int .i64 (wrap64 ((wrap64 ((wrap64 ((wrap64 ((rd l0 0) * (rd l1 3))) + (wrap64 ((rd l0 1) * (rd l1 2))))) - (wrap64 ((rd l0 2) * (rd l1 1))))) + (wrap64 ((rd l0 3) * (rd l1 0)))))] from rfl) (Reps.none _ _)))))); intro v116 w21 ho22 hb hg_ hnew_; clear hg_ hnew_; (first | rw [← Ny115.out] at ho22 | (simp only [Int.reduceToNat] at ho22; rw [← Ny115.out] at ho22)); have n0_ := Aside0.mk (Kd.R_lower ho22 (below_size (Sqz.auHB))); have n1_ := Aside0.mk (below_step (Sqz.auHB) hb); clear HB; have HO117 := n0_; have HB := n1_; clear n0_ n1_; clear hb ho22; obtain ⟨Ao23, co23, eo23⟩ := Kd.R_slice HO117.out; subst eo23) | (go_at_call 52; (with_reducible refine (impl_QuatValid.calls kj2 _ _ y115 true _ ?side1 ?side2 A19.out).mono ?_); (case side1 => exact Sqz.mvC ((Kd.R_reads' HO117.out).2.2)); (case side2 => exact (Kd.R_reads' HO117.out).2.1); rintro e w24 ⟨rfl, hb⟩; have n0_ := Aside0.mk (Kd.R_below ((Sqz.mvR HO117.out)) hb); have n1_ := Aside0.mk (below_step (Sqz.auHB) hb); clear HO117; clear HB; have HO117 := n0_; have HB := n1_; clear n0_ n1_; (try clear hb); (try clear hb2); (try clear hk); (try clear hi))); try go_wp2_with (first | ((with_reducible refine gate_dst (N := 107) rfl ?_); refine Kd.R_lit (Kd.int .i64) _ 3 ?hg (N := 107) ?hd (xs := ([wrap64 ((wrap64 ((wrap64 ((wrap64 ((rd l0 0) * (rd l1 0))) - (wrap64 ((rd l0 1) * (rd l1 1))))) - (wrap64 ((rd l0 2) * (rd l1 2))))) - (wrap64 ((rd l0 3) * (rd l1 3)))), wrap64 ((wrap64 ((wrap64 ((wrap64 ((rd l0 0) * (rd l1 1))) + (wrap64 ((rd l0 1) * (rd l1 0))))) + (wrap64 ((rd l0 2) * (rd l1 3))))) - (wrap64 ((rd l0 3) * (rd l1 2)))), wrap64 ((wrap64 ((wrap64 ((wrap64 ((rd l0 0) * (rd l1 2))) - (wrap64 ((rd l0 1) * (rd l1 3))))) + (wrap64 ((rd l0 2) * (rd l1 0))))) + (wrap64 ((rd l0 3) * (rd l1 1)))), wrap64 ((wrap64 ((wrap64 ((wrap64 ((rd l0 0) * (rd l1 3))) + (wrap64 ((rd l0 1) * (rd l1 2))))) - (wrap64 ((rd l0 2) * (rd l1 1))))) + (wrap64 ((rd l0 3) * (rd l1 0))))] : List Int)) (inner := [.int .i64 (wrap64 ((wrap64 ((wrap64 ((wrap64 ((rd l0 0) * (rd l1 0))) - (wrap64 ((rd l0 1) * (rd l1 1))))) - (wrap64 ((rd l0 2) * (rd l1 2))))) - (wrap64 ((rd l0 3) * (rd l1 3))))), .int .i64 (wrap64 ((wrap64 ((wrap64 ((wrap64 ((rd l0 0) * (rd l1 1))) + (wrap64 ((rd l0 1) * (rd l1 0))))) + (wrap64 ((rd l0 2) * (rd l1 3))))) - (wrap64 ((rd l0 3) * (rd l1 2))))), .int .i64 (wrap64 ((wrap64 ((wrap64 ((wrap64 ((rd l0 0) * (rd l1 2))) - (wrap64 ((rd l0 1) * (rd l1 3))))) + (wrap64 ((rd l0 2) * (rd l1 0))))) + (wrap64 ((rd l0 3) * (rd l1 1))))), .int .i64 (wrap64 ((wrap64 ((wrap64 ((wrap64 ((rd l0 0) * (rd l1 3))) + (wrap64 ((rd l0 1) * (rd l1 2))))) - (wrap64 ((rd l0 2) * (rd l1 1))))) + (wrap64 ((rd l0 3) * (rd l1 0)))))]) (ok := fun _ => True) (okp := fun _ => True) ?hr ?hp (fun _ hk => hk) trivial (Below.refl _ _) (Nat.le_refl _) (by simp) ?_; (case hd => rfl); (case hg => rfl); (case hr => first | (go_simp; done) | (go_simp; rfl)); (case hp => exact (Reps.one (show Kd.M (Kd.int .i64) _ _ _ (wrap64 ((wrap64 ((wrap64 ((wrap64 ((rd l0 0) * (rd l1 0))) - (wrap64 ((rd l0 1) * (rd l1 1))))) - (wrap64 ((rd l0 2) * (rd l1 2))))) - (wrap64 ((rd l0 3) * (rd l1 3))))) [.int .i64 (wrap64 ((wrap64 ((wrap64 ((wrap64 ((rd l0 0) * (rd l1 0))) - (wrap64 ((rd l0 1) * (rd l1 1))))) - (wrap64 ((rd l0 2) * (rd l1 2))))) - (wrap64 ((rd l0 3) * (rd l1 3)))))] from rfl) (Reps.one (show Kd.M (Kd.int .i64) _ _ _ (wrap64 ((wrap64 ((wrap64 ((wrap64 ((rd l0 0) * (rd l1 1))) + (wrap64 ((rd l0 1) * (rd l1 0))))) + (wrap64 ((rd l0 2) * (rd l1 3))))) - (wrap64 ((rd l0 3) * (rd l1 2))))) [.int .i64 (wrap64 ((wrap64 ((wrap64 ((wrap64 ((rd l0 0) * (rd l1 1))) + (wrap64 ((rd l0 1) * (rd l1 0))))) + (wrap64 ((rd l0 2) * (rd l1 3))))) - (wrap64 ((rd l0 3) * (rd l1 2)))))] from rfl) (Reps.one (show Kd.M (Kd.int .i64) _ _ _ (wrap64 ((wrap64 ((wrap64 ((wrap64 ((rd l0 0) * (rd l1 2))) - (wrap64 ((rd l0 1) * (rd l1 3))))) + (wrap64 ((rd l0 2) * (rd l1 0))))) + (wrap64 ((rd l0 3) * (rd l1 1))))) [.int .i64 (wrap64 ((wrap64 ((wrap64 ((wrap64 ((rd l0 0) * (rd l1 2))) - (wrap64 ((rd l0 1) * (rd l1 3))))) + (wrap64 ((rd l0 2) * (rd l1 0))))) + (wrap64 ((rd l0 3) * (rd l1 1)))))] from rfl) (Reps.one (show Kd.M (Kd.int .i64) _ _ _ (wrap64 ((wrap64 ((wrap64 ((wrap64 ((rd l0 0) * (rd l1 3))) + (wrap64 ((rd l0 1) * (rd l1 2))))) - (wrap64 ((rd l0 2) * (rd l1 1))))) + (wrap64 ((rd l0 3) * (rd l1 0))))) [.int .i64 (wrap64 ((wrap64 ((wrap64 ((wrap64 ((rd l0 0) * (rd l1 3))) + (wrap64 ((rd l0 1) * (rd l1 2))))) - (wrap64 ((rd l0 2) * (rd l1 1))))) + (wrap64 ((rd l0 3) * (rd l1 0)))))] from rfl) (Reps.none _ _)))))); intro v116 w21 ho22 hb hg_ hnew_; clear hg_ hnew_; (first | rw [← Ny115.out] at ho22 | (simp only [Int.reduceToNat] at ho22; rw [← Ny115.out] at ho22)); have n0_ := Aside0.mk (Kd.R_lower ho22 (below_size (Sqz.auHB))); have n1_ := Aside0.mk (below_step (Sqz.auHB) hb); clear HB; have HO117 := n0_; have HB := n1_; clear n0_ n1_; clear hb ho22; obtain ⟨Ao23, co23, eo23⟩ := Kd.R_slice HO117.out; subst eo23) | (go_at_call 52; (with_reducible refine (impl_QuatValid.calls kj2 _ _ y115 true _ ?side1 ?side2 A19.out).mono ?_); (case side1 => exact Sqz.mvC ((Kd.R_reads' HO117.out).2.2)); (case side2 => exact (Kd.R_reads' HO117.out).2.1); rintro e w24 ⟨rfl, hb⟩; have n0_ := Aside0.mk (Kd.R_below ((Sqz.mvR HO117.out)) hb); have n1_ := Aside0.mk (below_step (Sqz.auHB) hb); clear HO117; clear HB; have HO117 := n0_; have HB := n1_; clear n0_ n1_; (try clear hb); (try clear hb2); (try clear hk); (try clear hi))))
                          go_ret2
                          exact ⟨_, Sqz.auR, (Sqz.mvR HO117.out), Sqz.auHB⟩
                        · replace c20 := Bool.eq_false_iff.mpr c20
                          subst c20
                          have H1 : (some (([] : List Int), false)) = some (r1, r2) := by rw [if_neg (show ¬ (false = true) by decide)] at H; exact H
                          clear H
                          have H := H1
                          clear H1
                          simp only [Option.some.injEq, Prod.mk.injEq] at H
                          obtain ⟨rfl, rfl⟩ := H
                          have p107 : 0 ≤ (0 : Int) := (by omega)
                          have q107 : 0 < (l0.length : Int) := of_decide_eq_true (by first | (with_reducible assumption) | assumption)
                          obtain ⟨ad107, e107, hx107_0⟩ := Kd.at_int HR0.out 0 p107 q107
                          cases e107
                          have qi107 : (0 < l0.length) = True := eq_true (by omega)
                          (try rw [show ((0 : Int)).toNat = 0 from rfl] at hx107_0)
                          (try rw [Addr.add_zero'] at hx107_0)
                          replace hx107_0 := (HB.out.cell (World.block_lt_of_cell? w _ hx107_0)).trans hx107_0
                          replace p107 := eq_true p107
                          replace q107 := eq_true q107
                          have p108 : 0 ≤ (1 : Int) := (by omega)
                          have q108 : 1 < (l0.length : Int) := of_decide_eq_true (by first | (with_reducible assumption) | assumption)
                          obtain ⟨ad108, e108, hx108_0⟩ := Kd.at_int HR0.out 1 p108 q108
                          obtain rfl : ad107 = ad108 := (by injection e108)
                          (try simp only [show (1 : Int).toNat = 1 from rfl, Nat.reduceMul, Nat.reduceEqDiff, Go.Addr.add, ↓reduceIte] at hx108_0)
                          have qi108 : (1 < l0.length) = True := eq_true (by omega)
                          (try rw [show ((1 : Int)).toNat = 1 from rfl] at hx108_0)
                          replace hx108_0 := (HB.out.cell (World.block_lt_of_cell? w _ hx108_0)).trans hx108_0
                          replace p108 := eq_true p108
                          replace q108 := eq_true q108
                          have p109 : 0 ≤ (2 : Int) := (by omega)
                          have q109 : 2 < (l0.length : Int) := of_decide_eq_true (by first | (with_reducible assumption) | assumption)
                          obtain ⟨ad109, e109, hx109_0⟩ := Kd.at_int HR0.out 2 p109 q109
                          obtain rfl : ad107 = ad109 := (by injection e109)
                          (try simp only [show (2 : Int).toNat = 2 from rfl, Nat.reduceMul, Nat.reduceEqDiff, Go.Addr.add, ↓reduceIte] at hx109_0)
                          have qi109 : (2 < l0.length) = True := eq_true (by omega)
                          (try rw [show ((2 : Int)).toNat = 2 from rfl] at hx109_0)
                          replace hx109_0 := (HB.out.cell (World.block_lt_of_cell? w _ hx109_0)).trans hx109_0
                          replace p109 := eq_true p109
                          replace q109 := eq_true q109
                          have p110 : 0 ≤ (3 : Int) := (by omega)
                          have q110 : 3 < (l0.length : Int) := of_decide_eq_true (by first | (with_reducible assumption) | assumption)
                          obtain ⟨ad110, e110, hx110_0⟩ := Kd.at_int HR0.out 3 p110 q110
                          obtain rfl : ad107 = ad110 := (by injection e110)
                          (try simp only [show (3 : Int).toNat = 3 from rfl, Nat.reduceMul, Nat.reduceEqDiff, Go.Addr.add, ↓reduceIte] at hx110_0)
                          have qi110 : (3 < l0.length) = True := eq_true (by omega)
                          (try rw [show ((3 : Int)).toNat = 3 from rfl] at hx110_0)
                          replace hx110_0 := (HB.out.cell (World.block_lt_of_cell? w _ hx110_0)).trans hx110_0
                          replace p110 := eq_true p110
                          replace q110 := eq_true q110
                          have p111 : 0 ≤ (0 : Int) := (by omega)
                          have q111 : 0 < (l1.length : Int) := of_decide_eq_true (by first | (with_reducible assumption) | assumption)
                          obtain ⟨ad111, e111, hx111_0⟩ := Kd.at_int HR1.out 0 p111 q111
                          cases e111
                          have qi111 : (0 < l1.length) = True := eq_true (by omega)
                          (try rw [show ((0 : Int)).toNat = 0 from rfl] at hx111_0)
                          (try rw [Addr.add_zero'] at hx111_0)
                          replace hx111_0 := (HB.out.cell (World.block_lt_of_cell? w _ hx111_0)).trans hx111_0
                          replace p111 := eq_true p111
                          replace q111 := eq_true q111
                          have p112 : 0 ≤ (1 : Int) := (by omega)
                          have q112 : 1 < (l1.length : Int) := of_decide_eq_true (by first | (with_reducible assumption) | assumption)
                          obtain ⟨ad112, e112, hx112_0⟩ := Kd.at_int HR1.out 1 p112 q112
                          obtain rfl : ad111 = ad112 := (by injection e112)
                          (try simp only [show (1 : Int).toNat = 1 from rfl, Nat.reduceMul, Nat.reduceEqDiff, Go.Addr.add, ↓reduceIte] at hx112_0)
                          have qi112 : (1 < l1.length) = True := eq_true (by omega)
                          (try rw [show ((1 : Int)).toNat = 1 from rfl] at hx112_0)
                          replace hx112_0 := (HB.out.cell (World.block_lt_of_cell? w _ hx112_0)).trans hx112_0
                          replace p112 := eq_true p112
                          replace q112 := eq_true q112
                          have p113 : 0 ≤ (2 : Int) := (by omega)
                          have q113 : 2 < (l1.length : Int) := of_decide_eq_true (by first | (with_reducible assumption) | assumption)
                          obtain ⟨ad113, e113, hx113_0⟩ := Kd.at_int HR1.out 2 p113 q113
                          obtain rfl : ad111 = ad113 := (by injection e113)
                          (try simp only [show (2 : Int).toNat = 2 from rfl, Nat.reduceMul, Nat.reduceEqDiff, Go.Addr.add, ↓reduceIte] at hx113_0)
                          have qi113 : (2 < l1.length) = True := eq_true (by omega)
                          (try rw [show ((2 : Int)).toNat = 2 from rfl] at hx113_0)
                          replace hx113_0 := (HB.out.cell (World.block_lt_of_cell? w _ hx113_0)).trans hx113_0
                          replace p113 := eq_true p113
                          replace q113 := eq_true q113
                          have p114 : 0 ≤ (3 : Int) := (by omega)
                          have q114 : 3 < (l1.length : Int) := of_decide_eq_true (by first | (with_reducible assumption) | assumption)
                          obtain ⟨ad114, e114, hx114_0⟩ := Kd.at_int HR1.out 3 p114 q114
                          obtain rfl : ad111 = ad114 := (by injection e114)
                          (try simp only [show (3 : Int).toNat = 3 from rfl, Nat.reduceMul, Nat.reduceEqDiff, Go.Addr.add, ↓reduceIte] at hx114_0)
                          have qi114 : (3 < l1.length) = True := eq_true (by omega)
                          (try rw [show ((3 : Int)).toNat = 3 from rfl] at hx114_0)
                          replace hx114_0 := (HB.out.cell (World.block_lt_of_cell? w _ hx114_0)).trans hx114_0
                          replace p114 := eq_true p114
                          replace q114 := eq_true q114
                          go_wp2_with (first | ((with_reducible refine gate_dst (N := 107) rfl ?_); refine Kd.R_lit (Kd.int .i64) _ 3 ?hg (N := 107) ?hd (xs := ([wrap64 ((wrap64 ((wrap64 ((wrap64 ((rd l0 0) * (rd l1 0))) - (wrap64 ((rd l0 1) * (rd l1 1))))) - (wrap64 ((rd l0 2) * (rd l1 2))))) - (wrap64 ((rd l0 3) * (rd l1 3)))), wrap64 ((wrap64 ((wrap64 ((wrap64 ((rd l0 0) * (rd l1 1))) + (wrap64 ((rd l0 1) * (rd l1 0))))) + (wrap64 ((rd l0 2) * (rd l1 3))))) - (wrap64 ((rd l0 3) * (rd l1 2)))), wrap64 ((wrap64 ((wrap64 ((wrap64 ((rd l0 0) * (rd l1 2))) - (wrap64 ((rd l0 1) * (rd l1 3))))) + (wrap64 ((rd l0 2) * (rd l1 0))))) + (wrap64 ((rd l0 3) * (rd l1 1)))), wrap64 ((wrap64 ((wrap64 ((wrap64 ((rd l0 0) * (rd l1 3))) + (wrap64 ((rd l0 1) * (rd l1 2))))) - (wrap64 ((rd l0 2) * (rd l1 1))))) + (wrap64 ((rd l0 3) * (rd l1 0))))] : List Int)) (inner := [.int .i64 (wrap64 ((wrap64 ((wrap64 ((wrap64 ((rd l0 0) * (rd l1 0))) - (wrap64 ((rd l0 1) * (rd l1 1))))) - (wrap64 ((rd l0 2) * (rd l1 2))))) - (wrap64 ((rd l0 3) * (rd l1 3))))), .int .i64 (wrap64 ((wrap64 ((wrap64 ((wrap64 ((rd l0 0) * (rd l1 1))) + (wrap64 ((rd l0 1) * (rd l1 0))))) + (wrap64 ((rd l0 2) * (rd l1 3))))) - (wrap64 ((rd l0 3) * (rd l1 2))))), .int .i64 (wrap64 ((wrap64 ((wrap64 ((wrap64 ((rd l0 0) * (rd l1 2))) - (wrap64 ((rd l0 1) * (rd l1 3))))) + (wrap64 ((rd l0 2) * (rd l1 0))))) + (wrap64 ((rd l0 3) * (rd l1 1))))), .int .i64 (wrap64 ((wrap64 ((wrap64 ((wrap64 ((rd l0 0) * (rd l1 3))) + (wrap64 ((rd l0 1) * (rd l1 2))))) - (wrap64 ((rd l0 2) * (rd l1 1))))) + (wrap64 ((rd l0 3) * (rd l1 0)))))]) (ok := fun _ => True) (okp := fun _ => True) ?hr ?hp (fun _ hk => hk) trivial (Below.refl _ _) (Nat.le_refl _) (by simp) ?_; (case hd => rfl); (case hg => rfl); (case hr => first | (go_simp; done) | (go_simp; rfl)); (case hp => exact (Reps.one (show Kd.M (Kd.int .i64) _ _ _ (wrap64 ((wrap64 ((wrap64 ((wrap64 ((rd l0 0) * (rd l1 0))) - (wrap64 ((rd l0 1) * (rd l1 1))))) - (wrap64 ((rd l0 2) * (rd l1 2))))) - (wrap64 ((rd l0 3) * (rd l1 3))))) [.int .i64 (wrap64 ((wrap64 ((wrap64 ((wrap64 ((rd l0 0) * (rd l1 0))) - (wrap64 ((rd l0 1) * (rd l1 1))))) - (wrap64 ((rd l0 2) * (rd l1 2))))) - (wrap64 ((rd l0 3) * (rd l1 3)))))] from rfl) (Reps.one (show Kd.M (Kd.int .i64) _ _ _ (wrap64 ((wrap64 ((wrap64 ((wrap64 ((rd l0 0) * (rd l1 1))) + (wrap64 ((rd l0 1) * (rd l1 0))))) + (wrap64 ((rd l0 2) * (rd l1 3))))) - (wrap64 ((rd l0 3) * (rd l1 2))))) [.int .i64 (wrap64 ((wrap64 ((wrap64 ((wrap64 ((rd l0 0) * (rd l1 1))) + (wrap64 ((rd l0 1) * (rd l1 0))))) + (wrap64 ((rd l0 2) * (rd l1 3))))) - (wrap64 ((rd l0 3) * (rd l1 2)))))] from rfl) (Reps.one (show Kd.M (Kd.int .i64) _ _ _ (wrap64 ((wrap64 ((wrap64 ((wrap64 ((rd l0 0) * (rd l1 2))) - (wrap64 ((rd l0 1) * (rd l1 3))))) + (wrap64 ((rd l0 2) * (rd l1 0))))) + (wrap64 ((rd l0 3) * (rd l1 1))))) [.int .i64 (wrap64 ((wrap64 ((wrap64 ((wrap64 ((rd l0 0) * (rd l1 2))) - (wrap64 ((rd l0 1) * (rd l1 3))))) + (wrap64 ((rd l0 2) * (rd l1 0))))) + (wrap64 ((rd l0 3) * (rd l1 1)))))] from rfl) (Reps.one (show Kd.M (Kd.int .i64) _ _ _ (wrap64 ((wrap64 ((wrap64 ((wrap64 ((rd l0 0) * (rd l1 3))) + (wrap64 ((rd l0 1) * (rd l1 2))))) - (wrap64 ((rd l0 2) * (rd l1 1))))) + (wrap64 ((rd l0 3) * (rd l1 0))))) [.int .i64 (wrap64 ((wrap64 ((wrap64 ((wrap64 ((rd l0 0) * (rd l1 3))) + (wrap64 ((rd l0 1) * (rd l1 2))))) - (wrap64 ((rd l0 2) * (rd l1 1))))) + (wrap64 ((rd l0 3) * (rd l1 0)))))] from rfl) (Reps.none _ _)))))); intro v116 w25 ho26 hb hg_ hnew_; clear hg_ hnew_; (first | rw [← Ny115.out] at ho26 | (simp only [Int.reduceToNat] at ho26; rw [← Ny115.out] at ho26)); have n0_ := Aside0.mk (Kd.R_lower ho26 (below_size (Sqz.auHB))); have n1_ := Aside0.mk (below_step (Sqz.auHB) hb); clear HB; have HO117 := n0_; have HB := n1_; clear n0_ n1_; clear hb ho26; obtain ⟨Ao27, co27, eo27⟩ := Kd.R_slice HO117.out; subst eo27) | (go_at_call 52; (with_reducible refine (impl_QuatValid.calls kj2 _ _ y115 false _ ?side1 ?side2 A19.out).mono ?_); (case side1 => exact Sqz.mvC ((Kd.R_reads' HO117.out).2.2)); (case side2 => exact (Kd.R_reads' HO117.out).2.1); rintro e w28 ⟨rfl, hb⟩; have n0_ := Aside0.mk (Kd.R_below ((Sqz.mvR HO117.out)) hb); have n1_ := Aside0.mk (below_step (Sqz.auHB) hb); clear HO117; clear HB; have HO117 := n0_; have HB := n1_; clear n0_ n1_; (try clear hb); (try clear hb2); (try clear hk); (try clear hi)))
                          repeat (go_quiet (first | ((with_reducible refine gate_dst (N := 107) rfl ?_); refine Kd.R_lit (Kd.int .i64) _ 3 ?hg (N := 107) ?hd (xs := ([wrap64 ((wrap64 ((wrap64 ((wrap64 ((rd l0 0) * (rd l1 0))) - (wrap64 ((rd l0 1) * (rd l1 1))))) - (wrap64 ((rd l0 2) * (rd l1 2))))) - (wrap64 ((rd l0 3) * (rd l1 3)))), wrap64 ((wrap64 ((wrap64 ((wrap64 ((rd l0 0) * (rd l1 1))) + (wrap64 ((rd l0 1) * (rd l1 0))))) + (wrap64 ((rd l0 2) * (rd l1 3))))) - (wrap64 ((rd l0 3) * (rd l1 2)))), wrap64 ((wrap64 ((wrap64 ((wrap64 ((rd l0 0) * (rd l1 2))) - (wrap64 ((rd l0 1) * (rd l1 3))))) + (wrap64 ((rd l0 2) * (rd l1 0))))) + (wrap64 ((rd l0 3) * (rd l1 1)))), wrap64 ((wrap64 ((wrap64 ((wrap64 ((rd l0 0) * (rd l1 3))) + (wrap64 ((rd l0 1) * (rd l1 2))))) - (wrap64 ((rd l0 2) * (rd l1 1))))) + (wrap64 ((rd l0 3) * (rd l1 0))))] : List Int)) (inner := [.int .i64 (wrap64 ((wrap64 ((wrap64 ((wrap64 ((rd l0 0) * (rd l1 0))) - (wrap64 ((rd l0 1) * (rd l1 1))))) - (wrap64 ((rd l0 2) * (rd l1 2))))) - (wrap64 ((rd l0 3) * (rd l1 3))))), .int .i64 (wrap64 ((wrap64 ((wrap64 ((wrap64 ((rd l0 0) * (rd l1 1))) + (wrap64 ((rd l0 1) * (rd l1 0))))) + (wrap64 ((rd l0 2) * (rd l1 3))))) - (wrap64 ((rd l0 3) * (rd l1 2))))), .int .i64 (wrap64 ((wrap64 ((wrap64 ((wrap64 ((rd l0 0) * (rd l1 2))) - (wrap64 ((rd l0 1) * (rd l1 3))))) + (wrap64 ((rd l0 2) * (rd l1 0))))) + (wrap64 ((rd l0 3) * (rd l1 1))))), .int .i64 (wrap64 ((wrap64 ((wrap64 ((wrap64 ((rd l0 0) * (rd l1 3))) + (wrap64 ((rd l0 1) * (rd l1 2))))) - (wrap64 ((rd l0 2) * (rd l1 1))))) + (wrap64 ((rd l0 3) * (rd l1 0)))))]) (ok := fun _ => True) (okp := fun _ => True) ?hr ?hp (fun _ hk => hk) trivial (Below.refl _ _) (Nat.le_refl _) (by simp) ?_; (case hd => rfl); (case hg => rfl); (case hr => first | (go_simp; done) | (go_simp; rfl)); (case hp => exact (Reps.one (show Kd.M (Kd.int .i64) _ _ _ (wrap64 ((wrap64 ((wrap64 ((wrap64 ((rd l0 0) * (rd l1 0))) - (wrap64 ((rd l0 1) * (rd l1 1))))) - (wrap64 ((rd l0 2) * (rd l1 2))))) - (wrap64 ((rd l0 3) * (rd l1 3))))) [.int .i64 (wrap64 ((wrap64 ((wrap64 ((wrap64 ((rd l0 0) * (rd l1 0))) - (wrap64 ((rd l0 1) * (rd l1 1))))) - (wrap64 ((rd l0 2) * (rd l1 2))))) - (wrap64 ((rd l0 3) * (rd l1 3)))))] from rfl) (Reps.one (show Kd.M (Kd.int .i64) _ _ _ (wrap64 ((wrap64 ((wrap64 ((wrap64 ((rd l0 0) * (rd l1 1))) + (wrap64 ((rd l0 1) * (rd l1 0))))) + (wrap64 ((rd l0 2) * (rd l1 3))))) - (wrap64 ((rd l0 3) * (rd l1 2))))) [.int .i64 (wrap64 ((wrap64 ((wrap64 ((wrap64 ((rd l0 0) * (rd l1 1))) + (wrap64 ((rd l0 1) * (rd l1 0))))) + (wrap64 ((rd l0 2) * (rd l1 3))))) - (wrap64 ((rd l0 3) * (rd l1 2)))))] from rfl) (Reps.one (show Kd.M (Kd.int .i64) _ _ _ (wrap64 ((wrap64 ((wrap64 ((wrap64 ((rd l0 0) * (rd l1 2))) - (wrap64 ((rd l0 1) * (rd l1 3))))) + (wrap64 ((rd l0 2) * (rd l1 0))))) + (wrap64 ((rd l0 3) * (rd l1 1))))) [.int .i64 (wrap64 ((wrap64 ((wrap64 ((wrap64 ((rd l0 0) * (rd l1 2))) - (wrap64 ((rd l0 1) * (rd l1 3))))) + (wrap64 ((rd l0 2) * (rd l1 0))))) + (wrap64 ((rd l0 3) * (rd l1 1)))))] from rfl) (Reps.one (show Kd.M (Kd.int .i64) _ _ _ (wrap64 ((wrap64 ((wrap64 ((wrap64 ((rd l0 0) * (rd l1 3))) + (wrap64 ((rd l0 1) * (rd l1 2))))) - (wrap64 ((rd l0 2) * (rd l1 1))))) + (wrap64 ((rd l0 3) * (rd l1 0))))) [.int .i64 (wrap64 ((wrap64 ((wrap64 ((wrap64 ((rd l0 0) * (rd l1 3))) + (wrap64 ((rd l0 1) * (rd l1 2))))) - (wrap64 ((rd l0 2) * (rd l1 1))))) + (wrap64 ((rd l0 3) * (rd l1 0)))))] from rfl) (Reps.none _ _)))))); intro v116 w25 ho26 hb hg_ hnew_; clear hg_ hnew_; (first | rw [← Ny115.out] at ho26 | (simp only [Int.reduceToNat] at ho26; rw [← Ny115.out] at ho26)); have n0_ := Aside0.mk (Kd.R_lower ho26 (below_size (Sqz.auHB))); have n1_ := Aside0.mk (below_step (Sqz.auHB) hb); clear HB; have HO117 := n0_; have HB := n1_; clear n0_ n1_; clear hb ho26; obtain ⟨Ao27, co27, eo27⟩ := Kd.R_slice HO117.out; subst eo27) | (go_at_call 52; (with_reducible refine (impl_QuatValid.calls kj2 _ _ y115 false _ ?side1 ?side2 A19.out).mono ?_); (case side1 => exact Sqz.mvC ((Kd.R_reads' HO117.out).2.2)); (case side2 => exact (Kd.R_reads' HO117.out).2.1); rintro e w28 ⟨rfl, hb⟩; have n0_ := Aside0.mk (Kd.R_below ((Sqz.mvR HO117.out)) hb); have n1_ := Aside0.mk (below_step (Sqz.auHB) hb); clear HO117; clear HB; have HO117 := n0_; have HB := n1_; clear n0_ n1_; (try clear hb); (try clear hb2); (try clear hk); (try clear hi))); try go_wp2_with (first | ((with_reducible refine gate_dst (N := 107) rfl ?_); refine Kd.R_lit (Kd.int .i64) _ 3 ?hg (N := 107) ?hd (xs := ([wrap64 ((wrap64 ((wrap64 ((wrap64 ((rd l0 0) * (rd l1 0))) - (wrap64 ((rd l0 1) * (rd l1 1))))) - (wrap64 ((rd l0 2) * (rd l1 2))))) - (wrap64 ((rd l0 3) * (rd l1 3)))), wrap64 ((wrap64 ((wrap64 ((wrap64 ((rd l0 0) * (rd l1 1))) + (wrap64 ((rd l0 1) * (rd l1 0))))) + (wrap64 ((rd l0 2) * (rd l1 3))))) - (wrap64 ((rd l0 3) * (rd l1 2)))), wrap64 ((wrap64 ((wrap64 ((wrap64 ((rd l0 0) * (rd l1 2))) - (wrap64 ((rd l0 1) * (rd l1 3))))) + (wrap64 ((rd l0 2) * (rd l1 0))))) + (wrap64 ((rd l0 3) * (rd l1 1)))), wrap64 ((wrap64 ((wrap64 ((wrap64 ((rd l0 0) * (rd l1 3))) + (wrap64 ((rd l0 1) * (rd l1 2))))) - (wrap64 ((rd l0 2) * (rd l1 1))))) + (wrap64 ((rd l0 3) * (rd l1 0))))] : List Int)) (inner := [.int .i64 (wrap64 ((wrap64 ((wrap64 ((wrap64 ((rd l0 0) * (rd l1 0))) - (wrap64 ((rd l0 1) * (rd l1 1))))) - (wrap64 ((rd l0 2) * (rd l1 2))))) - (wrap64 ((rd l0 3) * (rd l1 3))))), .int .i64 (wrap64 ((wrap64 ((wrap64 ((wrap64 ((rd l0 0) * (rd l1 1))) + (wrap64 ((rd l0 1) * (rd l1 0))))) + (wrap64 ((rd l0 2) * (rd l1 3))))) - (wrap64 ((rd l0 3) * (rd l1 2))))), .int .i64 (wrap64 ((wrap64 ((wrap64 ((wrap64 ((rd l0 0) * (rd l1 2))) - (wrap64 ((rd l0 1) * (rd l1 3))))) + (wrap64 ((rd l0 2) * (rd l1 0))))) + (wrap64 ((rd l0 3) * (rd l1 1))))), .int .i64 (wrap64 ((wrap64 ((wrap64 ((wrap64 ((rd l0 0) * (rd l1 3))) + (wrap64 ((rd l0 1) * (rd l1 2))))) - (wrap64 ((rd l0 2) * (rd l1 1))))) + (wrap64 ((rd l0 3) * (rd l1 0)))))]) (ok := fun _ => True) (okp := fun _ => True) ?hr ?hp (fun _ hk => hk) trivial (Below.refl _ _) (Nat.le_refl _) (by simp) ?_; (case hd => rfl); (case hg => rfl); (case hr => first | (go_simp; done) | (go_simp; rfl)); (case hp => exact (Reps.one (show Kd.M (Kd.int .i64) _ _ _ (wrap64 ((wrap64 ((wrap64 ((wrap64 ((rd l0 0) * (rd l1 0))) - (wrap64 ((rd l0 1) * (rd l1 1))))) - (wrap64 ((rd l0 2) * (rd l1 2))))) - (wrap64 ((rd l0 3) * (rd l1 3))))) [.int .i64 (wrap64 ((wrap64 ((wrap64 ((wrap64 ((rd l0 0) * (rd l1 0))) - (wrap64 ((rd l0 1) * (rd l1 1))))) - (wrap64 ((rd l0 2) * (rd l1 2))))) - (wrap64 ((rd l0 3) * (rd l1 3)))))] from rfl) (Reps.one (show Kd.M (Kd.int .i64) _ _ _ (wrap64 ((wrap64 ((wrap64 ((wrap64 ((rd l0 0) * (rd l1 1))) + (wrap64 ((rd l0 1) * (rd l1 0))))) + (wrap64 ((rd l0 2) * (rd l1 3))))) - (wrap64 ((rd l0 3) * (rd l1 2))))) [.int .i64 (wrap64 ((wrap64 ((wrap64 ((wrap64 ((rd l0 0) * (rd l1 1))) + (wrap64 ((rd l0 1) * (rd l1 0))))) + (wrap64 ((rd l0 2) * (rd l1 3))))) - (wrap64 ((rd l0 3) * (rd l1 2)))))] from rfl) (Reps.one (show Kd.M (Kd.int .i64) _ _ _ (wrap64 ((wrap64 ((wrap64 ((wrap64 ((rd l0 0) * (rd l1 2))) - (wrap64 ((rd l0 1) * (rd l1 3))))) + (wrap64 ((rd l0 2) * (rd l1 0))))) + (wrap64 ((rd l0 3) * (rd l1 1))))) [.int .i64 (wrap64 ((wrap64 ((wrap64 ((wrap64 ((rd l0 0) * (rd l1 2))) - (wrap64 ((rd l0 1) * (rd l1 3))))) + (wrap64 ((rd l0 2) * (rd l1 0))))) + (wrap64 ((rd l0 3) * (rd l1 1)))))] from rfl) (Reps.one (show Kd.M (Kd.int .i64) _ _ _ (wrap64 ((wrap64 ((wrap64 ((wrap64 ((rd l0 0) * (rd l1 3))) + (wrap64 ((rd l0 1) * (rd l1 2))))) - (wrap64 ((rd l0 2) * (rd l1 1))))) + (wrap64 ((rd l0 3) * (rd l1 0))))) [.int .i64 (wrap64 ((wrap64 ((wrap64 ((wrap64 ((rd l0 0) * (rd l1 3))) + (wrap64 ((rd l0 1) * (rd l1 2))))) - (wrap64 ((rd l0 2) * (rd l1 1))))) + (wrap64 ((rd l0 3) * (rd l1 0)))))] from rfl) (Reps.none _ _)))))); intro v116 w25 ho26 hb hg_ hnew_; clear hg_ hnew_; (first | rw [← Ny115.out] at ho26 | (simp only [Int.reduceToNat] at ho26; rw [← Ny115.out] at ho26)); have n0_ := Aside0.mk (Kd.R_lower ho26 (below_size (Sqz.auHB))); have n1_ := Aside0.mk (below_step (Sqz.auHB) hb); clear HB; have HO117 := n0_; have HB := n1_; clear n0_ n1_; clear hb ho26; obtain ⟨Ao27, co27, eo27⟩ := Kd.R_slice HO117.out; subst eo27) | (go_at_call 52; (with_reducible refine (impl_QuatValid.calls kj2 _ _ y115 false _ ?side1 ?side2 A19.out).mono ?_); (case side1 => exact Sqz.mvC ((Kd.R_reads' HO117.out).2.2)); (case side2 => exact (Kd.R_reads' HO117.out).2.1); rintro e w28 ⟨rfl, hb⟩; have n0_ := Aside0.mk (Kd.R_below ((Sqz.mvR HO117.out)) hb); have n1_ := Aside0.mk (below_step (Sqz.auHB) hb); clear HO117; clear HB; have HO117 := n0_; have HB := n1_; clear n0_ n1_; (try clear hb); (try clear hb2); (try clear hk); (try clear hi))))
                          go_ret2
                          exact ⟨_, Sqz.auR, by first | exact Kd.R_nil _ _ _ _ _ | exact Kd.N_nil _ _ _ _ _ | exact Kd.V_nil _ _ _ _ _ | exact Kd.Q_nil _ _ _ _ _ | exact Kd.S_nil _ _ _ _ _, Sqz.auHB⟩
                      · rw [if_neg c18] at H
                        exact absurd H (by simp)
                    · rw [if_neg c17] at H
                      exact absurd H (by simp)
                  · rw [if_neg c16] at H
                    exact absurd H (by simp)
                · rw [if_neg c15] at H
                  exact absurd H (by simp)
              · rw [if_neg c14] at H
                exact absurd H (by simp)
            · rw [if_neg c13] at H
              exact absurd H (by simp)
          · rw [if_neg c12] at H
            exact absurd H (by simp)
        · rw [if_neg c11] at H
          exact absurd H (by simp)

/-! ### impl_QuatNorm: function 33 -/
def impl_QuatNorm.f (k : Nat) (l0 : List Int) : Option (Int) := (impl_QuatValid.f k l0).bind fun t119 => (if t119 = true then (if 0 < (l0.length : Int) then (if 1 < (l0.length : Int) then (if 2 < (l0.length : Int) then (if 3 < (l0.length : Int) then (some (wrap64 ((wrap64 ((wrap64 ((wrap64 ((rd l0 0) * (rd l0 0))) + (wrap64 ((rd l0 1) * (rd l0 1))))) + (wrap64 ((rd l0 2) * (rd l0 2))))) + (wrap64 ((rd l0 3) * (rd l0 3)))))) else (none)) else (none)) else (none)) else (none)) else (some (-1)))
set_option maxHeartbeats 8000000 in
set_option maxRecDepth 100000 in
theorem impl_QuatNorm.calls (k : Nat) (A0 : Option Addr) (c0 : Nat) (l0 : List Int) (r : Int) (w : World) (hr0 : Kd.C (Kd.int .i64) w A0 l0.length l0) (hc0 : l0.length ≤ c0) (h : impl_QuatNorm.f k l0 = some r) :
    Calls Try.prog 33 #[.slice A0 l0.length c0] w fun e w' => e = .returned (.int .i64 r) ∧ Below w.heap.size w w' := by
  have HR0 := Aside0.mk hr0
  have HC0 := Aside0.mk hc0
  clear hr0 hc0
  have HB := Aside0.mk (Below.refl w.heap.size w)
  have H : ((impl_QuatValid.f k l0).bind fun t119 => (if t119 = true then (if 0 < (l0.length : Int) then (if 1 < (l0.length : Int) then (if 2 < (l0.length : Int) then (if 3 < (l0.length : Int) then (some (wrap64 ((wrap64 ((wrap64 ((wrap64 ((rd l0 0) * (rd l0 0))) + (wrap64 ((rd l0 1) * (rd l0 1))))) + (wrap64 ((rd l0 2) * (rd l0 2))))) + (wrap64 ((rd l0 3) * (rd l0 3)))))) else (none)) else (none)) else (none)) else (none)) else (some (-1)))) = some r := h
  clear h
  replace H := Option.bind_eq_some_iff.mp H
  obtain ⟨t119, A20, H⟩ := H
  replace H : (if t119 = true then (if 0 < (l0.length : Int) then (if 1 < (l0.length : Int) then (if 2 < (l0.length : Int) then (if 3 < (l0.length : Int) then (some (wrap64 ((wrap64 ((wrap64 ((wrap64 ((rd l0 0) * (rd l0 0))) + (wrap64 ((rd l0 1) * (rd l0 1))))) + (wrap64 ((rd l0 2) * (rd l0 2))))) + (wrap64 ((rd l0 3) * (rd l0 3)))))) else (none)) else (none)) else (none)) else (none)) else (some (-1))) = some r := H
  have A2 := Aside0.mk A20
  clear A20
  by_cases c3 : t119 = true
  · subst c3
    have H1 : (if 0 < (l0.length : Int) then (if 1 < (l0.length : Int) then (if 2 < (l0.length : Int) then (if 3 < (l0.length : Int) then (some (wrap64 ((wrap64 ((wrap64 ((wrap64 ((rd l0 0) * (rd l0 0))) + (wrap64 ((rd l0 1) * (rd l0 1))))) + (wrap64 ((rd l0 2) * (rd l0 2))))) + (wrap64 ((rd l0 3) * (rd l0 3)))))) else (none)) else (none)) else (none)) else (none)) = some r := by rw [if_pos rfl] at H; exact H
    clear H
    have H := H1
    clear H1
    by_cases c4 : 0 < (l0.length : Int)
    · rw [if_pos c4] at H
      have c4b0 : decide (0 < (l0.length : Int)) = true := decide_eq_true c4
      have c4b1 : decide (0 < l0.length) = true := decide_eq_true (by omega)
      clear c4
      by_cases c5 : 1 < (l0.length : Int)
      · rw [if_pos c5] at H
        have c5b0 : decide (1 < (l0.length : Int)) = true := decide_eq_true c5
        have c5b1 : decide (1 < l0.length) = true := decide_eq_true (by omega)
        clear c5
        by_cases c6 : 2 < (l0.length : Int)
        · rw [if_pos c6] at H
          have c6b0 : decide (2 < (l0.length : Int)) = true := decide_eq_true c6
          have c6b1 : decide (2 < l0.length) = true := decide_eq_true (by omega)
          clear c6
          by_cases c7 : 3 < (l0.length : Int)
          · rw [if_pos c7] at H
            have c7b0 : decide (3 < (l0.length : Int)) = true := decide_eq_true c7
            have c7b1 : decide (3 < l0.length) = true := decide_eq_true (by omega)
            clear c7
            obtain rfl := Option.some.inj H
            go_enter Try.func33, Try.ntmps33
            go_wp2_with (first | (go_at_call 52; (with_reducible refine (impl_QuatValid.calls k _ _ l0 true _ ?side1 ?side2 A2.out).mono ?_); (case side1 => exact Sqz.mvC (HR0.out)); (case side2 => exact HC0.out); rintro e w8 ⟨rfl, hb⟩; have n0_ := Aside0.mk (below_step (Sqz.auHB) hb); clear HB; have HB := n0_; clear n0_; (try clear hb); (try clear hb2); (try clear hk); (try clear hi); have p120 : 0 ≤ (0 : Int) := (by omega); have q120 : 0 < (l0.length : Int) := of_decide_eq_true (by first | (with_reducible assumption) | assumption); obtain ⟨ad120, e120, hx120_0⟩ := Kd.at_int HR0.out 0 p120 q120; cases e120; have qi120 : (0 < l0.length) = True := eq_true (by omega); (try rw [show ((0 : Int)).toNat = 0 from rfl] at hx120_0); (try rw [Addr.add_zero'] at hx120_0); replace hx120_0 := (HB.out.cell (World.block_lt_of_cell? w _ hx120_0)).trans hx120_0; replace p120 := eq_true p120; replace q120 := eq_true q120; have p121 : 0 ≤ (0 : Int) := (by omega); have q121 : 0 < (l0.length : Int) := of_decide_eq_true (by first | (with_reducible assumption) | assumption); obtain ⟨ad121, e121, hx121_0⟩ := Kd.at_int HR0.out 0 p121 q121; obtain rfl : ad120 = ad121 := (by injection e121); have qi121 : (0 < l0.length) = True := eq_true (by omega); (try rw [show ((0 : Int)).toNat = 0 from rfl] at hx121_0); (try rw [Addr.add_zero'] at hx121_0); replace hx121_0 := (HB.out.cell (World.block_lt_of_cell? w _ hx121_0)).trans hx121_0; replace p121 := eq_true p121; replace q121 := eq_true q121; have p122 : 0 ≤ (1 : Int) := (by omega); have q122 : 1 < (l0.length : Int) := of_decide_eq_true (by first | (with_reducible assumption) | assumption); obtain ⟨ad122, e122, hx122_0⟩ := Kd.at_int HR0.out 1 p122 q122; obtain rfl : ad120 = ad122 := (by injection e122); (try simp only [show (1 : Int).toNat = 1 from rfl, Nat.reduceMul, Nat.reduceEqDiff, Go.Addr.add, ↓reduceIte] at hx122_0); have qi122 : (1 < l0.length) = True := eq_true (by omega); (try rw [show ((1 : Int)).toNat = 1 from rfl] at hx122_0); replace hx122_0 := (HB.out.cell (World.block_lt_of_cell? w _ hx122_0)).trans hx122_0; replace p122 := eq_true p122; replace q122 := eq_true q122; have p123 : 0 ≤ (1 : Int) := (by omega); have q123 : 1 < (l0.length : Int) := of_decide_eq_true (by first | (with_reducible assumption) | assumption); obtain ⟨ad123, e123, hx123_0⟩ := Kd.at_int HR0.out 1 p123 q123; obtain rfl : ad120 = ad123 := (by injection e123); (try simp only [show (1 : Int).toNat = 1 from rfl, Nat.reduceMul, Nat.reduceEqDiff, Go.Addr.add, ↓reduceIte] at hx123_0); have qi123 : (1 < l0.length) = True := eq_true (by omega); (try rw [show ((1 : Int)).toNat = 1 from rfl] at hx123_0); replace hx123_0 := (HB.out.cell (World.block_lt_of_cell? w _ hx123_0)).trans hx123_0; replace p123 := eq_true p123; replace q123 := eq_true q123; have p124 : 0 ≤ (2 : Int) := (by omega); have q124 : 2 < (l0.length : Int) := of_decide_eq_true (by first | (with_reducible assumption) | assumption); obtain ⟨ad124, e124, hx124_0⟩ := Kd.at_int HR0.out 2 p124 q124; obtain rfl : ad120 = ad124 := (by injection e124); (try simp only [show (2 : Int).toNat = 2 from rfl, Nat.reduceMul, Nat.reduceEqDiff, Go.Addr.add, ↓reduceIte] at hx124_0); have qi124 : (2 < l0.length) = True := eq_true (by omega); (try rw [show ((2 : Int)).toNat = 2 from rfl] at hx124_0); replace hx124_0 := (HB.out.cell (World.block_lt_of_cell? w _ hx124_0)).trans hx124_0; replace p124 := eq_true p124; replace q124 := eq_true q124; have p125 : 0 ≤ (2 : Int) := (by omega); have q125 : 2 < (l0.length : Int) := of_decide_eq_true (by first | (with_reducible assumption) | assumption); obtain ⟨ad125, e125, hx125_0⟩ := Kd.at_int HR0.out 2 p125 q125; obtain rfl : ad120 = ad125 := (by injection e125); (try simp only [show (2 : Int).toNat = 2 from rfl, Nat.reduceMul, Nat.reduceEqDiff, Go.Addr.add, ↓reduceIte] at hx125_0); have qi125 : (2 < l0.length) = True := eq_true (by omega); (try rw [show ((2 : Int)).toNat = 2 from rfl] at hx125_0); replace hx125_0 := (HB.out.cell (World.block_lt_of_cell? w _ hx125_0)).trans hx125_0; replace p125 := eq_true p125; replace q125 := eq_true q125; have p126 : 0 ≤ (3 : Int) := (by omega); have q126 : 3 < (l0.length : Int) := of_decide_eq_true (by first | (with_reducible assumption) | assumption); obtain ⟨ad126, e126, hx126_0⟩ := Kd.at_int HR0.out 3 p126 q126; obtain rfl : ad120 = ad126 := (by injection e126); (try simp only [show (3 : Int).toNat = 3 from rfl, Nat.reduceMul, Nat.reduceEqDiff, Go.Addr.add, ↓reduceIte] at hx126_0); have qi126 : (3 < l0.length) = True := eq_true (by omega); (try rw [show ((3 : Int)).toNat = 3 from rfl] at hx126_0); replace hx126_0 := (HB.out.cell (World.block_lt_of_cell? w _ hx126_0)).trans hx126_0; replace p126 := eq_true p126; replace q126 := eq_true q126; have p127 : 0 ≤ (3 : Int) := (by omega); have q127 : 3 < (l0.length : Int) := of_decide_eq_true (by first | (with_reducible assumption) | assumption); obtain ⟨ad127, e127, hx127_0⟩ := Kd.at_int HR0.out 3 p127 q127; obtain rfl : ad120 = ad127 := (by injection e127); (try simp only [show (3 : Int).toNat = 3 from rfl, Nat.reduceMul, Nat.reduceEqDiff, Go.Addr.add, ↓reduceIte] at hx127_0); have qi127 : (3 < l0.length) = True := eq_true (by omega); (try rw [show ((3 : Int)).toNat = 3 from rfl] at hx127_0); replace hx127_0 := (HB.out.cell (World.block_lt_of_cell? w _ hx127_0)).trans hx127_0; replace p127 := eq_true p127; replace q127 := eq_true q127))
            repeat (go_quiet (first | (go_at_call 52; (with_reducible refine (impl_QuatValid.calls k _ _ l0 true _ ?side1 ?side2 A2.out).mono ?_); (case side1 => exact Sqz.mvC (HR0.out)); (case side2 => exact HC0.out); rintro e w8 ⟨rfl, hb⟩; have n0_ := Aside0.mk (below_step (Sqz.auHB) hb); clear HB; have HB := n0_; clear n0_; (try clear hb); (try clear hb2); (try clear hk); (try clear hi); have p120 : 0 ≤ (0 : Int) := (by omega); have q120 : 0 < (l0.length : Int) := of_decide_eq_true (by first | (with_reducible assumption) | assumption); obtain ⟨ad120, e120, hx120_0⟩ := Kd.at_int HR0.out 0 p120 q120; cases e120; have qi120 : (0 < l0.length) = True := eq_true (by omega); (try rw [show ((0 : Int)).toNat = 0 from rfl] at hx120_0); (try rw [Addr.add_zero'] at hx120_0); replace hx120_0 := (HB.out.cell (World.block_lt_of_cell? w _ hx120_0)).trans hx120_0; replace p120 := eq_true p120; replace q120 := eq_true q120; have p121 : 0 ≤ (0 : Int) := (by omega); have q121 : 0 < (l0.length : Int) := of_decide_eq_true (by first | (with_reducible assumption) | assumption); obtain ⟨ad121, e121, hx121_0⟩ := Kd.at_int HR0.out 0 p121 q121; obtain rfl : ad120 = ad121 := (by injection e121); have qi121 : (0 < l0.length) = True := eq_true (by omega); (try rw [show ((0 : Int)).toNat = 0 from rfl] at hx121_0); (try rw [Addr.add_zero'] at hx121_0); replace hx121_0 := (HB.out.cell (World.block_lt_of_cell? w _ hx121_0)).trans hx121_0; replace p121 := eq_true p121; replace q121 := eq_true q121; have p122 : 0 ≤ (1 : Int) := (by omega); have q122 : 1 < (l0.length : Int) := of_decide_eq_true (by first | (with_reducible assumption) | assumption); obtain ⟨ad122, e122, hx122_0⟩ := Kd.at_int HR0.out 1 p122 q122; obtain rfl : ad120 = ad122 := (by injection e122); (try simp only [show (1 : Int).toNat = 1 from rfl, Nat.reduceMul, Nat.reduceEqDiff, Go.Addr.add, ↓reduceIte] at hx122_0); have qi122 : (1 < l0.length) = True := eq_true (by omega); (try rw [show ((1 : Int)).toNat = 1 from rfl] at hx122_0); replace hx122_0 := (HB.out.cell (World.block_lt_of_cell? w _ hx122_0)).trans hx122_0; replace p122 := eq_true p122; replace q122 := eq_true q122; have p123 : 0 ≤ (1 : Int) := (by omega); have q123 : 1 < (l0.length : Int) := of_decide_eq_true (by first | (with_reducible assumption) | assumption); obtain ⟨ad123, e123, hx123_0⟩ := Kd.at_int HR0.out 1 p123 q123; obtain rfl : ad120 = ad123 := (by injection e123); (try simp only [show (1 : Int).toNat = 1 from rfl, Nat.reduceMul, Nat.reduceEqDiff, Go.Addr.add, ↓reduceIte] at hx123_0); have qi123 : (1 < l0.length) = True := eq_true (by omega); (try rw [show ((1 : Int)).toNat = 1 from rfl] at hx123_0); replace hx123_0 := (HB.out.cell (World.block_lt_of_cell? w _ hx123_0)).trans hx123_0; replace p123 := eq_true p123; replace q123 := eq_true q123; have p124 : 0 ≤ (2 : Int) := (by omega); have q124 : 2 < (l0.length : Int) := of_decide_eq_true (by first | (with_reducible assumption) | assumption); obtain ⟨ad124, e124, hx124_0⟩ := Kd.at_int HR0.out 2 p124 q124; obtain rfl : ad120 = ad124 := (by injection e124); (try simp only [show (2 : Int).toNat = 2 from rfl, Nat.reduceMul, Nat.reduceEqDiff, Go.Addr.add, ↓reduceIte] at hx124_0); have qi124 : (2 < l0.length) = True := eq_true (by omega); (try rw [show ((2 : Int)).toNat = 2 from rfl] at hx124_0); replace hx124_0 := (HB.out.cell (World.block_lt_of_cell? w _ hx124_0)).trans hx124_0; replace p124 := eq_true p124; replace q124 := eq_true q124; have p125 : 0 ≤ (2 : Int) := (by omega); have q125 : 2 < (l0.length : Int) := of_decide_eq_true (by first | (with_reducible assumption) | assumption); obtain ⟨ad125, e125, hx125_0⟩ := Kd.at_int HR0.out 2 p125 q125; obtain rfl : ad120 = ad125 := (by injection e125); (try simp only [show (2 : Int).toNat = 2 from rfl, Nat.reduceMul, Nat.reduceEqDiff, Go.Addr.add, ↓reduceIte] at hx125_0); have qi125 : (2 < l0.length) = True := eq_true (by omega); (try rw [show ((2 : Int)).toNat = 2 from rfl] at hx125_0); replace hx125_0 := (HB.out.cell (World.block_lt_of_cell? w _ hx125_0)).trans hx125_0; replace p125 := eq_true p125; replace q125 := eq_true q125; have p126 : 0 ≤ (3 : Int) := (by omega); have q126 : 3 < (l0.length : Int) := of_decide_eq_true (by first | (with_reducible assumption) | assumption); obtain ⟨ad126, e126, hx126_0⟩ := Kd.at_int HR0.out 3 p126 q126; obtain rfl : ad120 = ad126 := (by injection e126); (try simp only [show (3 : Int).toNat = 3 from rfl, Nat.reduceMul, Nat.reduceEqDiff, Go.Addr.add, ↓reduceIte] at hx126_0); have qi126 : (3 < l0.length) = True := eq_true (by omega); (try rw [show ((3 : Int)).toNat = 3 from rfl] at hx126_0); replace hx126_0 := (HB.out.cell (World.block_lt_of_cell? w _ hx126_0)).trans hx126_0; replace p126 := eq_true p126; replace q126 := eq_true q126; have p127 : 0 ≤ (3 : Int) := (by omega); have q127 : 3 < (l0.length : Int) := of_decide_eq_true (by first | (with_reducible assumption) | assumption); obtain ⟨ad127, e127, hx127_0⟩ := Kd.at_int HR0.out 3 p127 q127; obtain rfl : ad120 = ad127 := (by injection e127); (try simp only [show (3 : Int).toNat = 3 from rfl, Nat.reduceMul, Nat.reduceEqDiff, Go.Addr.add, ↓reduceIte] at hx127_0); have qi127 : (3 < l0.length) = True := eq_true (by omega); (try rw [show ((3 : Int)).toNat = 3 from rfl] at hx127_0); replace hx127_0 := (HB.out.cell (World.block_lt_of_cell? w _ hx127_0)).trans hx127_0; replace p127 := eq_true p127; replace q127 := eq_true q127)); try go_wp2_with (first | (go_at_call 52; (with_reducible refine (impl_QuatValid.calls k _ _ l0 true _ ?side1 ?side2 A2.out).mono ?_); (case side1 => exact Sqz.mvC (HR0.out)); (case side2 => exact HC0.out); rintro e w8 ⟨rfl, hb⟩; have n0_ := Aside0.mk (below_step (Sqz.auHB) hb); clear HB; have HB := n0_; clear n0_; (try clear hb); (try clear hb2); (try clear hk); (try clear hi); have p120 : 0 ≤ (0 : Int) := (by omega); have q120 : 0 < (l0.length : Int) := of_decide_eq_true (by first | (with_reducible assumption) | assumption); obtain ⟨ad120, e120, hx120_0⟩ := Kd.at_int HR0.out 0 p120 q120; cases e120; have qi120 : (0 < l0.length) = True := eq_true (by omega); (try rw [show ((0 : Int)).toNat = 0 from rfl] at hx120_0); (try rw [Addr.add_zero'] at hx120_0); replace hx120_0 := (HB.out.cell (World.block_lt_of_cell? w _ hx120_0)).trans hx120_0; replace p120 := eq_true p120; replace q120 := eq_true q120; have p121 : 0 ≤ (0 : Int) := (by omega); have q121 : 0 < (l0.length : Int) := of_decide_eq_true (by first | (with_reducible assumption) | assumption); obtain ⟨ad121, e121, hx121_0⟩ := Kd.at_int HR0.out 0 p121 q121; obtain rfl : ad120 = ad121 := (by injection e121); have qi121 : (0 < l0.length) = True := eq_true (by omega); (try rw [show ((0 : Int)).toNat = 0 from rfl] at hx121_0); (try rw [Addr.add_zero'] at hx121_0); replace hx121_0 := (HB.out.cell (World.block_lt_of_cell? w _ hx121_0)).trans hx121_0; replace p121 := eq_true p121; replace q121 := eq_true q121; have p122 : 0 ≤ (1 : Int) := (by omega); have q122 : 1 < (l0.length : Int) := of_decide_eq_true (by first | (with_reducible assumption) | assumption); obtain ⟨ad122, e122, hx122_0⟩ := Kd.at_int HR0.out 1 p122 q122; obtain rfl : ad120 = ad122 := (by injection e122); (try simp only [show (1 : Int).toNat = 1 from rfl, Nat.reduceMul, Nat.reduceEqDiff, Go.Addr.add, ↓reduceIte] at hx122_0); have qi122 : (1 < l0.length) = True := eq_true (by omega); (try rw [show ((1 : Int)).toNat = 1 from rfl] at hx122_0); replace hx122_0 := (HB.out.cell (World.block_lt_of_cell? w _ hx122_0)).trans hx122_0; replace p122 := eq_true p122; replace q122 := eq_true q122; have p123 : 0 ≤ (1 : Int) := (by omega); have q123 : 1 < (l0.length : Int) := of_decide_eq_true (by first | (with_reducible assumption) | assumption); obtain ⟨ad123, e123, hx123_0⟩ := Kd.at_int HR0.out 1 p123 q123; obtain rfl : ad120 = ad123 := (by injection e123); (try simp only [show (1 : Int).toNat = 1 from rfl, Nat.reduceMul, Nat.reduceEqDiff, Go.Addr.add, ↓reduceIte] at hx123_0); have qi123 : (1 < l0.length) = True := eq_true (by omega); (try rw [show ((1 : Int)).toNat = 1 from rfl] at hx123_0); replace hx123_0 := (HB.out.cell (World.block_lt_of_cell? w _ hx123_0)).trans hx123_0; replace p123 := eq_true p123; replace q123 := eq_true q123; have p124 : 0 ≤ (2 : Int) := (by omega); have q124 : 2 < (l0.length : Int) := of_decide_eq_true (by first | (with_reducible assumption) | assumption); obtain ⟨ad124, e124, hx124_0⟩ := Kd.at_int HR0.out 2 p124 q124; obtain rfl : ad120 = ad124 := (by injection e124); (try simp only [show (2 : Int).toNat = 2 from rfl, Nat.reduceMul, Nat.reduceEqDiff, Go.Addr.add, ↓reduceIte] at hx124_0); have qi124 : (2 < l0.length) = True := eq_true (by omega); (try rw [show ((2 : Int)).toNat = 2 from rfl] at hx124_0); replace hx124_0 := (HB.out.cell (World.block_lt_of_cell? w _ hx124_0)).trans hx124_0; replace p124 := eq_true p124; replace q124 := eq_true q124; have p125 : 0 ≤ (2 : Int) := (by omega); have q125 : 2 < (l0.length : Int) := of_decide_eq_true (by first | (with_reducible assumption) | assumption); obtain ⟨ad125, e125, hx125_0⟩ := Kd.at_int HR0.out 2 p125 q125; obtain rfl : ad120 = ad125 := (by injection e125); (try simp only [show (2 : Int).toNat = 2 from rfl, Nat.reduceMul, Nat.reduceEqDiff, Go.Addr.add, ↓reduceIte] at hx125_0); have qi125 : (2 < l0.length) = True := eq_true (by omega); (try rw [show ((2 : Int)).toNat = 2 from rfl] at hx125_0); replace hx125_0 := (HB.out.cell (World.block_lt_of_cell? w _ hx125_0)).trans hx125_0; replace p125 := eq_true p125; replace q125 := eq_true q125; have p126 : 0 ≤ (3 : Int) := (by omega); have q126 : 3 < (l0.length : Int) := of_decide_eq_true (by first | (with_reducible assumption) | assumption); obtain ⟨ad126, e126, hx126_0⟩ := Kd.at_int HR0.out 3 p126 q126; obtain rfl : ad120 = ad126 := (by injection e126); (try simp only [show (3 : Int).toNat = 3 from rfl, Nat.reduceMul, Nat.reduceEqDiff, Go.Addr.add, ↓reduceIte] at hx126_0); have qi126 : (3 < l0.length) = True := eq_true (by omega); (try rw [show ((3 : Int)).toNat = 3 from rfl] at hx126_0); replace hx126_0 := (HB.out.cell (World.block_lt_of_cell? w _ hx126_0)).trans hx126_0; replace p126 := eq_true p126; replace q126 := eq_true q126; have p127 : 0 ≤ (3 : Int) := (by omega); have q127 : 3 < (l0.length : Int) := of_decide_eq_true (by first | (with_reducible assumption) | assumption); obtain ⟨ad127, e127, hx127_0⟩ := Kd.at_int HR0.out 3 p127 q127; obtain rfl : ad120 = ad127 := (by injection e127); (try simp only [show (3 : Int).toNat = 3 from rfl, Nat.reduceMul, Nat.reduceEqDiff, Go.Addr.add, ↓reduceIte] at hx127_0); have qi127 : (3 < l0.length) = True := eq_true (by omega); (try rw [show ((3 : Int)).toNat = 3 from rfl] at hx127_0); replace hx127_0 := (HB.out.cell (World.block_lt_of_cell? w _ hx127_0)).trans hx127_0; replace p127 := eq_true p127; replace q127 := eq_true q127)))
            go_ret
            exact ⟨Sqz.auR, Sqz.auHB⟩
          · rw [if_neg c7] at H
            exact absurd H (by simp)
        · rw [if_neg c6] at H
          exact absurd H (by simp)
      · rw [if_neg c5] at H
        exact absurd H (by simp)
    · rw [if_neg c4] at H
      exact absurd H (by simp)
  · replace c3 := Bool.eq_false_iff.mpr c3
    subst c3
    have H1 : (some (-1)) = some r := by rw [if_neg (show ¬ (false = true) by decide)] at H; exact H
    clear H
    have H := H1
    clear H1
    obtain rfl := Option.some.inj H
    go_enter Try.func33, Try.ntmps33
    go_wp2_with (first | (go_at_call 52; (with_reducible refine (impl_QuatValid.calls k _ _ l0 false _ ?side1 ?side2 A2.out).mono ?_); (case side1 => exact Sqz.mvC (HR0.out)); (case side2 => exact HC0.out); rintro e w9 ⟨rfl, hb⟩; have n0_ := Aside0.mk (below_step (Sqz.auHB) hb); clear HB; have HB := n0_; clear n0_; (try clear hb); (try clear hb2); (try clear hk); (try clear hi)))
    repeat (go_quiet (first | (go_at_call 52; (with_reducible refine (impl_QuatValid.calls k _ _ l0 false _ ?side1 ?side2 A2.out).mono ?_); (case side1 => exact Sqz.mvC (HR0.out)); (case side2 => exact HC0.out); rintro e w9 ⟨rfl, hb⟩; have n0_ := Aside0.mk (below_step (Sqz.auHB) hb); clear HB; have HB := n0_; clear n0_; (try clear hb); (try clear hb2); (try clear hk); (try clear hi))); try go_wp2_with (first | (go_at_call 52; (with_reducible refine (impl_QuatValid.calls k _ _ l0 false _ ?side1 ?side2 A2.out).mono ?_); (case side1 => exact Sqz.mvC (HR0.out)); (case side2 => exact HC0.out); rintro e w9 ⟨rfl, hb⟩; have n0_ := Aside0.mk (below_step (Sqz.auHB) hb); clear HB; have HB := n0_; clear n0_; (try clear hb); (try clear hb2); (try clear hk); (try clear hi))))
    go_ret
    exact ⟨Sqz.auR, Sqz.auHB⟩

/-! ### impl_QuatConj: function 35 -/
def impl_QuatConj.f (k : Nat) (l0 : List Int) : Option (List Int × Bool) := (impl_QuatValid.f k l0).bind fun t128 => (if t128 = true then (if 0 < (l0.length : Int) then (if 1 < (l0.length : Int) then (if 2 < (l0.length : Int) then (if 3 < (l0.length : Int) then (some ((([rd l0 0, wrap64 (-(rd l0 1)), wrap64 (-(rd l0 2)), wrap64 (-(rd l0 3))] : List Int)), true)) else (none)) else (none)) else (none)) else (none)) else (some (([] : List Int), false)))
def impl_QuatConj.T3 : Bool × List (List Nat × List Nat) := (true, [([], []), ([0], [0]), ([1], [1]), ([], []), ([3], [3]), ([4], [4]), ([5], [5]), ([], []), ([7], [7]), ([8], [8]), ([9], [9]), ([], []), ([11], [11]), ([12], [12]), ([13], [13]), ([2, 6, 10, 14], [2, 6, 10, 14]), ([15, 0, 1, 2, 3, 4, 5, 6, 7, 8, 9, 10, 11, 12, 13, 14, 15], [15]), ([16, 0, 1, 2, 3, 4, 5, 6, 7, 8, 9, 10, 11, 12, 13, 14, 15, 16], [])])
def impl_QuatConj.B3 : List Nat := [0, 1, 3, 0, 8, 24, 56, 0, 128, 384, 896, 0, 2048, 6144, 14336, 32767, 65535, 131071]
theorem impl_QuatConj.tab3 : rtab .any (opsOf Try.f35 3) = impl_QuatConj.T3 := by kernel_rfl
theorem impl_QuatConj.bits3 : waitsOk impl_QuatConj.T3.2 impl_QuatConj.B3 = true := by kernel_rfl
set_option maxHeartbeats 8000000 in
set_option maxRecDepth 100000 in
theorem impl_QuatConj.calls (k : Nat) (A0 : Option Addr) (c0 : Nat) (l0 : List Int) (r1 : List Int) (r2 : Bool) (w : World) (hr0 : Kd.C (Kd.int .i64) w A0 l0.length l0) (hc0 : l0.length ≤ c0) (h : impl_QuatConj.f k l0 = some (r1, r2)) :
    Calls Try.prog 35 #[.slice A0 l0.length c0] w fun e w' => ∃ v0_ : Value, e = .returned (.tuple #[v0_, .bool r2]) ∧ Kd.R (Kd.int .i64) 3 w' w.heap.size (fun _ => True) v0_ r1 ∧ Below w.heap.size w w' := by
  have HR0 := Aside0.mk hr0
  have HC0 := Aside0.mk hc0
  clear hr0 hc0
  have HB := Aside0.mk (Below.refl w.heap.size w)
  have H : ((impl_QuatValid.f k l0).bind fun t128 => (if t128 = true then (if 0 < (l0.length : Int) then (if 1 < (l0.length : Int) then (if 2 < (l0.length : Int) then (if 3 < (l0.length : Int) then (some ((([rd l0 0, wrap64 (-(rd l0 1)), wrap64 (-(rd l0 2)), wrap64 (-(rd l0 3))] : List Int)), true)) else (none)) else (none)) else (none)) else (none)) else (some (([] : List Int), false)))) = some (r1, r2) := h
  clear h
  replace H := Option.bind_eq_some_iff.mp H
  obtain ⟨t128, A20, H⟩ := H
  replace H : (if t128 = true then (if 0 < (l0.length : Int) then (if 1 < (l0.length : Int) then (if 2 < (l0.length : Int) then (if 3 < (l0.length : Int) then (some ((([rd l0 0, wrap64 (-(rd l0 1)), wrap64 (-(rd l0 2)), wrap64 (-(rd l0 3))] : List Int)), true)) else (none)) else (none)) else (none)) else (none)) else (some (([] : List Int), false))) = some (r1, r2) := H
  have A2 := Aside0.mk A20
  clear A20
  by_cases c3 : t128 = true
  · subst c3
    have H1 : (if 0 < (l0.length : Int) then (if 1 < (l0.length : Int) then (if 2 < (l0.length : Int) then (if 3 < (l0.length : Int) then (some ((([rd l0 0, wrap64 (-(rd l0 1)), wrap64 (-(rd l0 2)), wrap64 (-(rd l0 3))] : List Int)), true)) else (none)) else (none)) else (none)) else (none)) = some (r1, r2) := by rw [if_pos rfl] at H; exact H
    clear H
    have H := H1
    clear H1
    by_cases c4 : 0 < (l0.length : Int)
    · rw [if_pos c4] at H
      have c4b0 : decide (0 < (l0.length : Int)) = true := decide_eq_true c4
      have c4b1 : decide (0 < l0.length) = true := decide_eq_true (by omega)
      clear c4
      by_cases c5 : 1 < (l0.length : Int)
      · rw [if_pos c5] at H
        have c5b0 : decide (1 < (l0.length : Int)) = true := decide_eq_true c5
        have c5b1 : decide (1 < l0.length) = true := decide_eq_true (by omega)
        clear c5
        by_cases c6 : 2 < (l0.length : Int)
        · rw [if_pos c6] at H
          have c6b0 : decide (2 < (l0.length : Int)) = true := decide_eq_true c6
          have c6b1 : decide (2 < l0.length) = true := decide_eq_true (by omega)
          clear c6
          by_cases c7 : 3 < (l0.length : Int)
          · rw [if_pos c7] at H
            have c7b0 : decide (3 < (l0.length : Int)) = true := decide_eq_true c7
            have c7b1 : decide (3 < l0.length) = true := decide_eq_true (by omega)
            clear c7
            obtain ⟨y133, hy133⟩ : ∃ y_ : List Int, y_ = (([rd l0 0, wrap64 (-(rd l0 1)), wrap64 (-(rd l0 2)), wrap64 (-(rd l0 3))] : List Int)) := ⟨_, rfl⟩
            replace H : (some (y133, true)) = some (r1, r2) := by first | (rw [hy133]; with_reducible exact H) | (have H2_ := (Option.bind_some _ _).symm.trans H; rw [hy133]; with_reducible exact H2_) | (have H2_ := (Option.bind_some _ _).symm.trans H; with_reducible exact H2_) | with_reducible exact H | (rw [hy133]; exact H) | exact H
            have Ny133 := Aside0.mk hy133
            clear hy133
            simp only [Option.some.injEq, Prod.mk.injEq] at H
            obtain ⟨rfl, rfl⟩ := H
            go_enter Try.func35, Try.ntmps35
            try go_wp2_with (first | ((with_reducible refine gate_callee (f := 52) rfl ?_); refine goesL_ (some 5) rfl rfl Try.func52 (by kernel_rfl) rfl #[.slice A0 l0.length c0] rfl Sqz.auM ?_; (with_reducible refine (impl_QuatValid.calls k _ _ l0 true _ ?side1 ?side2 A2.out).mono ?_); (case side1 => exact Sqz.mvC (HR0.out)); (case side2 => exact HC0.out); rintro e w8 ⟨rfl, hb⟩; refine ⟨_, rfl, ?_⟩; have n0_ := Aside0.mk (below_step (Sqz.auHB) hb); clear HB; have HB := n0_; clear n0_; (try clear hb); (try clear hb2); (try clear hk); (try clear hi)))
            have n0_ := Aside0.mk (below_drew1 HB.out)
            clear HB
            have HB := n0_
            clear n0_
            have p129 : 0 ≤ (0 : Int) := (by omega)
            have q129 : 0 < (l0.length : Int) := of_decide_eq_true (by first | (with_reducible assumption) | assumption)
            obtain ⟨ad129, e129, hx129_0⟩ := Kd.at_int HR0.out 0 p129 q129
            have hw129_0 := hx129_0
            (try rw [show ((0 : Int)).toNat = 0 from rfl] at hw129_0)
            (try rw [show 0 * 1 = 0 from rfl] at hw129_0)
            (try rw [Addr.add_zero'] at hw129_0)
            cases e129
            have qi129 : (0 < l0.length) = True := eq_true (by omega)
            (try rw [show ((0 : Int)).toNat = 0 from rfl] at hx129_0)
            (try rw [Addr.add_zero'] at hx129_0)
            replace hx129_0 := (HB.out.cell (World.block_lt_of_cell? w _ hx129_0)).trans hx129_0
            replace p129 := eq_true p129
            replace q129 := eq_true q129
            have p130 : 0 ≤ (1 : Int) := (by omega)
            have q130 : 1 < (l0.length : Int) := of_decide_eq_true (by first | (with_reducible assumption) | assumption)
            obtain ⟨ad130, e130, hx130_0⟩ := Kd.at_int HR0.out 1 p130 q130
            have hw130_0 := hx130_0
            (try rw [show ((1 : Int)).toNat = 1 from rfl] at hw130_0)
            (try rw [show 1 * 1 = 1 from rfl] at hw130_0)
            (try simp only [Nat.reduceMul, Nat.reduceEqDiff, Go.Addr.add, ↓reduceIte] at hw130_0)
            obtain rfl : ad129 = ad130 := (by injection e130)
            (try simp only [show (1 : Int).toNat = 1 from rfl, Nat.reduceMul, Nat.reduceEqDiff, Go.Addr.add, ↓reduceIte] at hx130_0)
            have qi130 : (1 < l0.length) = True := eq_true (by omega)
            (try rw [show ((1 : Int)).toNat = 1 from rfl] at hx130_0)
            replace hx130_0 := (HB.out.cell (World.block_lt_of_cell? w _ hx130_0)).trans hx130_0
            replace p130 := eq_true p130
            replace q130 := eq_true q130
            have p131 : 0 ≤ (2 : Int) := (by omega)
            have q131 : 2 < (l0.length : Int) := of_decide_eq_true (by first | (with_reducible assumption) | assumption)
            obtain ⟨ad131, e131, hx131_0⟩ := Kd.at_int HR0.out 2 p131 q131
            have hw131_0 := hx131_0
            (try rw [show ((2 : Int)).toNat = 2 from rfl] at hw131_0)
            (try rw [show 2 * 1 = 2 from rfl] at hw131_0)
            (try simp only [Nat.reduceMul, Nat.reduceEqDiff, Go.Addr.add, ↓reduceIte] at hw131_0)
            obtain rfl : ad129 = ad131 := (by injection e131)
            (try simp only [show (2 : Int).toNat = 2 from rfl, Nat.reduceMul, Nat.reduceEqDiff, Go.Addr.add, ↓reduceIte] at hx131_0)
            have qi131 : (2 < l0.length) = True := eq_true (by omega)
            (try rw [show ((2 : Int)).toNat = 2 from rfl] at hx131_0)
            replace hx131_0 := (HB.out.cell (World.block_lt_of_cell? w _ hx131_0)).trans hx131_0
            replace p131 := eq_true p131
            replace q131 := eq_true q131
            have p132 : 0 ≤ (3 : Int) := (by omega)
            have q132 : 3 < (l0.length : Int) := of_decide_eq_true (by first | (with_reducible assumption) | assumption)
            obtain ⟨ad132, e132, hx132_0⟩ := Kd.at_int HR0.out 3 p132 q132
            have hw132_0 := hx132_0
            (try rw [show ((3 : Int)).toNat = 3 from rfl] at hw132_0)
            (try rw [show 3 * 1 = 3 from rfl] at hw132_0)
            (try simp only [Nat.reduceMul, Nat.reduceEqDiff, Go.Addr.add, ↓reduceIte] at hw132_0)
            obtain rfl : ad129 = ad132 := (by injection e132)
            (try simp only [show (3 : Int).toNat = 3 from rfl, Nat.reduceMul, Nat.reduceEqDiff, Go.Addr.add, ↓reduceIte] at hx132_0)
            have qi132 : (3 < l0.length) = True := eq_true (by omega)
            (try rw [show ((3 : Int)).toNat = 3 from rfl] at hx132_0)
            replace hx132_0 := (HB.out.cell (World.block_lt_of_cell? w _ hx132_0)).trans hx132_0
            replace p132 := eq_true p132
            replace q132 := eq_true q132
            refine start_ (n := 18) (S := fun w' => w'.cell? ad129 = some (.int .i64 (rd l0 0)) ∧ w'.cell? ⟨ad129.block, ad129.off + 1, none⟩ = some (.int .i64 (rd l0 1)) ∧ w'.cell? ⟨ad129.block, ad129.off + 2, none⟩ = some (.int .i64 (rd l0 2)) ∧ w'.cell? ⟨ad129.block, ad129.off + 3, none⟩ = some (.int .i64 (rd l0 3))) (ds := []) #[false, false, false, false, false, false, false, false, false, false, false, false, false, false, false, false, false, false] (by kernel_rfl) rfl rfl ⟨((HB.out.cell (World.block_lt_of_cell? w _ hw129_0)).trans hw129_0), ((HB.out.cell (World.block_lt_of_cell? w _ hw130_0)).trans hw130_0), ((HB.out.cell (World.block_lt_of_cell? w _ hw131_0)).trans hw131_0), ((HB.out.cell (World.block_lt_of_cell? w _ hw132_0)).trans hw132_0)⟩ (fun hHeld => ?_); refine with_tabW impl_QuatConj.tab3 impl_QuatConj.bits3 (fun HT_ HW_ => ?_)
            generalize w8.drew = w9 at HB hx129_0 hx130_0 hx131_0 hx132_0 hHeld ⊢
            refine pure_ (i := 0) (N := some 7) (v := ?_) (a' := ?_) #[true, false, false, false, false, false, false, false, false, false, false, false, false, false, false, false, false, false] rfl rfl (any_of HT_.out (by kernel_rfl)) (fun _ _ _ h => h) (Or.inl ⟨by rfl, ?_⟩) ?_ ?_
            rotate_left
            · intro w'
              go_simp
              with_reducible rfl
            rotate_left
            · simp only [Act.put, List.setIfInBounds_toArray, List.set_cons_zero, List.set_cons_succ, i64_w, i32_w]
              rfl
            refine pure_ (i := 1) (N := some 8) (v := ?_) (a' := ?_) #[true, true, false, false, false, false, false, false, false, false, false, false, false, false, false, false, false, false] rfl rfl (any_of HT_.out (by kernel_rfl)) (fun _ _ _ h => h) (Or.inl ⟨by rfl, ?_⟩) ?_ ?_
            rotate_left
            · intro w'
              go_simp
              with_reducible rfl
            rotate_left
            · simp only [Act.put, List.setIfInBounds_toArray, List.set_cons_zero, List.set_cons_succ, i64_w, i32_w]
              rfl
            refine pure_ (i := 3) (N := some 10) (v := ?_) (a' := ?_) #[true, true, false, true, false, false, false, false, false, false, false, false, false, false, false, false, false, false] rfl rfl (any_of HT_.out (by kernel_rfl)) (fun _ _ _ h => h) (Or.inl ⟨by rfl, ?_⟩) ?_ ?_
            rotate_left
            · intro w'
              go_simp
              with_reducible rfl
            rotate_left
            · simp only [Act.put, List.setIfInBounds_toArray, List.set_cons_zero, List.set_cons_succ, i64_w, i32_w]
              rfl
            refine pure_ (i := 4) (N := some 11) (v := ?_) (a' := ?_) #[true, true, false, true, true, false, false, false, false, false, false, false, false, false, false, false, false, false] rfl rfl (any_of HT_.out (by kernel_rfl)) (fun _ _ _ h => h) (Or.inl ⟨by rfl, ?_⟩) ?_ ?_
            rotate_left
            · intro w'
              go_simp
              with_reducible rfl
            rotate_left
            · simp only [Act.put, List.setIfInBounds_toArray, List.set_cons_zero, List.set_cons_succ, i64_w, i32_w]
              rfl
            refine pure_ (i := 7) (N := some 14) (v := ?_) (a' := ?_) #[true, true, false, true, true, false, false, true, false, false, false, false, false, false, false, false, false, false] rfl rfl (any_of HT_.out (by kernel_rfl)) (fun _ _ _ h => h) (Or.inl ⟨by rfl, ?_⟩) ?_ ?_
            rotate_left
            · intro w'
              go_simp
              with_reducible rfl
            rotate_left
            · simp only [Act.put, List.setIfInBounds_toArray, List.set_cons_zero, List.set_cons_succ, i64_w, i32_w]
              rfl
            refine pure_ (i := 8) (N := some 15) (v := ?_) (a' := ?_) #[true, true, false, true, true, false, false, true, true, false, false, false, false, false, false, false, false, false] rfl rfl (any_of HT_.out (by kernel_rfl)) (fun _ _ _ h => h) (Or.inl ⟨by rfl, ?_⟩) ?_ ?_
            rotate_left
            · intro w'
              go_simp
              with_reducible rfl
            rotate_left
            · simp only [Act.put, List.setIfInBounds_toArray, List.set_cons_zero, List.set_cons_succ, i64_w, i32_w]
              rfl
            refine pure_ (i := 11) (N := some 18) (v := ?_) (a' := ?_) #[true, true, false, true, true, false, false, true, true, false, false, true, false, false, false, false, false, false] rfl rfl (any_of HT_.out (by kernel_rfl)) (fun _ _ _ h => h) (Or.inl ⟨by rfl, ?_⟩) ?_ ?_
            rotate_left
            · intro w'
              go_simp
              with_reducible rfl
            rotate_left
            · simp only [Act.put, List.setIfInBounds_toArray, List.set_cons_zero, List.set_cons_succ, i64_w, i32_w]
              rfl
            refine pure_ (i := 12) (N := some 19) (v := ?_) (a' := ?_) #[true, true, false, true, true, false, false, true, true, false, false, true, true, false, false, false, false, false] rfl rfl (any_of HT_.out (by kernel_rfl)) (fun _ _ _ h => h) (Or.inl ⟨by rfl, ?_⟩) ?_ ?_
            rotate_left
            · intro w'
              go_simp
              with_reducible rfl
            rotate_left
            · simp only [Act.put, List.setIfInBounds_toArray, List.set_cons_zero, List.set_cons_succ, i64_w, i32_w]
              rfl
            refine take_ (i := 2) (N := some 9) (v := ?_) (a' := ?_) #[true, true, true, true, true, false, false, true, true, false, false, true, true, false, false, false, false, false] rfl rfl (take_ofW HT_.out HW_.out (by kernel_rfl)) (fun _ _ _ h => h) (Or.inl ⟨by rfl, ?_⟩) hHeld ?_ ?_
            rotate_left
            · rintro w' ⟨s0, s1, s2, s3⟩
              go_simp
              with_reducible rfl
            rotate_left
            · simp only [Act.put, List.setIfInBounds_toArray, List.set_cons_zero, List.set_cons_succ, i64_w, i32_w]
              rfl
            refine take_ (i := 5) (N := some 12) (v := ?_) (a' := ?_) #[true, true, true, true, true, true, false, true, true, false, false, true, true, false, false, false, false, false] rfl rfl (take_ofW HT_.out HW_.out (by kernel_rfl)) (fun _ _ _ h => h) (Or.inl ⟨by rfl, ?_⟩) hHeld ?_ ?_
            rotate_left
            · rintro w' ⟨s0, s1, s2, s3⟩
              go_simp
              with_reducible rfl
            rotate_left
            · simp only [Act.put, List.setIfInBounds_toArray, List.set_cons_zero, List.set_cons_succ, i64_w, i32_w]
              rfl
            refine pure_ (i := 6) (N := some 13) (v := ?_) (a' := ?_) #[true, true, true, true, true, true, true, true, true, false, false, true, true, false, false, false, false, false] rfl rfl (any_of HT_.out (by kernel_rfl)) (fun _ _ _ h => h) (Or.inl ⟨by rfl, ?_⟩) ?_ ?_
            rotate_left
            · intro w'
              go_simp
              with_reducible rfl
            rotate_left
            · simp only [Act.put, List.setIfInBounds_toArray, List.set_cons_zero, List.set_cons_succ, i64_w, i32_w]
              rfl
            refine take_ (i := 9) (N := some 16) (v := ?_) (a' := ?_) #[true, true, true, true, true, true, true, true, true, true, false, true, true, false, false, false, false, false] rfl rfl (take_ofW HT_.out HW_.out (by kernel_rfl)) (fun _ _ _ h => h) (Or.inl ⟨by rfl, ?_⟩) hHeld ?_ ?_
            rotate_left
            · rintro w' ⟨s0, s1, s2, s3⟩
              go_simp
              with_reducible rfl
            rotate_left
            · simp only [Act.put, List.setIfInBounds_toArray, List.set_cons_zero, List.set_cons_succ, i64_w, i32_w]
              rfl
            refine pure_ (i := 10) (N := some 17) (v := ?_) (a' := ?_) #[true, true, true, true, true, true, true, true, true, true, true, true, true, false, false, false, false, false] rfl rfl (any_of HT_.out (by kernel_rfl)) (fun _ _ _ h => h) (Or.inl ⟨by rfl, ?_⟩) ?_ ?_
            rotate_left
            · intro w'
              go_simp
              with_reducible rfl
            rotate_left
            · simp only [Act.put, List.setIfInBounds_toArray, List.set_cons_zero, List.set_cons_succ, i64_w, i32_w]
              rfl
            refine take_ (i := 13) (N := some 20) (v := ?_) (a' := ?_) #[true, true, true, true, true, true, true, true, true, true, true, true, true, true, false, false, false, false] rfl rfl (take_ofW HT_.out HW_.out (by kernel_rfl)) (fun _ _ _ h => h) (Or.inl ⟨by rfl, ?_⟩) hHeld ?_ ?_
            rotate_left
            · rintro w' ⟨s0, s1, s2, s3⟩
              go_simp
              with_reducible rfl
            rotate_left
            · simp only [Act.put, List.setIfInBounds_toArray, List.set_cons_zero, List.set_cons_succ, i64_w, i32_w]
              rfl
            refine pure_ (i := 14) (N := some 21) (v := ?_) (a' := ?_) #[true, true, true, true, true, true, true, true, true, true, true, true, true, true, true, false, false, false] rfl rfl (any_of HT_.out (by kernel_rfl)) (fun _ _ _ h => h) (Or.inl ⟨by rfl, ?_⟩) ?_ ?_
            rotate_left
            · intro w'
              go_simp
              with_reducible rfl
            rotate_left
            · simp only [Act.put, List.setIfInBounds_toArray, List.set_cons_zero, List.set_cons_succ, i64_w, i32_w]
              rfl
            refine one_ (i := 15) (N := some 22) #[true, true, true, true, true, true, true, true, true, true, true, true, true, true, true, true, false, false] rfl rfl (one_of HT_.out (by kernel_rfl)) (by decide) (fun K hK => ?_)
            refine Kd.R_lit_step (Kd.int .i64) _ 3 ?hg (N := 22) ?hd (xs := ([rd l0 0, wrap64 (-(rd l0 1)), wrap64 (-(rd l0 2)), wrap64 (-(rd l0 3))] : List Int)) (inner := [.int .i64 (rd l0 0), .int .i64 (wrap64 (-(rd l0 1))), .int .i64 (wrap64 (-(rd l0 2))), .int .i64 (wrap64 (-(rd l0 3)))]) (ok := fun _ => True) (okp := fun _ => True) ?hr ?hp (fun _ hk => hk) trivial (Below.refl _ _) (Nat.le_refl _) (by simp) ?_; (case hd => rfl); (case hg => rfl); (case hr => first | (go_simp; done) | (go_simp; rfl)); (case hp => exact (Reps.one (show Kd.M (Kd.int .i64) _ _ _ (rd l0 0) [.int .i64 (rd l0 0)] from rfl) (Reps.one (show Kd.M (Kd.int .i64) _ _ _ (wrap64 (-(rd l0 1))) [.int .i64 (wrap64 (-(rd l0 1)))] from rfl) (Reps.one (show Kd.M (Kd.int .i64) _ _ _ (wrap64 (-(rd l0 2))) [.int .i64 (wrap64 (-(rd l0 2)))] from rfl) (Reps.one (show Kd.M (Kd.int .i64) _ _ _ (wrap64 (-(rd l0 3))) [.int .i64 (wrap64 (-(rd l0 3)))] from rfl) (Reps.none _ _))))))
            intro v134 w10 ho11 hb hg_ hnew_
            clear hg_ hnew_
            (first | rw [← Ny133.out] at ho11 | (simp only [Int.reduceToNat] at ho11; rw [← Ny133.out] at ho11))
            have n0_ := Aside0.mk (Kd.R_lower ho11 (below_size (Sqz.auHB)))
            have n1_ := Aside0.mk (below_step (Sqz.auHB) hb)
            clear HB
            have HO135 := n0_
            have HB := n1_
            clear n0_ n1_
            clear hb ho11
            refine hK.out _ _ ⟨((HB.out.cell (World.block_lt_of_cell? w _ hw129_0)).trans hw129_0), ((HB.out.cell (World.block_lt_of_cell? w _ hw130_0)).trans hw130_0), ((HB.out.cell (World.block_lt_of_cell? w _ hw131_0)).trans hw131_0), ((HB.out.cell (World.block_lt_of_cell? w _ hw132_0)).trans hw132_0)⟩ (fun hHeld => ?_)
            clear hK K
            refine norm_ (a' := ?_) ?_ ?_
            rotate_left
            · show Act.put _ (some 22) _ = _
              simp only [Act.put, List.setIfInBounds_toArray, List.set_cons_zero, List.set_cons_succ, i64_w, i32_w]
              rfl
            refine pure_ (i := 16) (N := some 2) (v := ?_) (a' := ?_) #[true, true, true, true, true, true, true, true, true, true, true, true, true, true, true, true, true, false] rfl rfl (any_of HT_.out (by kernel_rfl)) (fun _ _ _ h => h) (Or.inl ⟨by rfl, ?_⟩) ?_ ?_
            rotate_left
            · intro w'
              go_simp
              with_reducible rfl
            rotate_left
            · simp only [Act.put, List.setIfInBounds_toArray, List.set_cons_zero, List.set_cons_succ, i64_w, i32_w]
              rfl
            refine pure_ (i := 17) (N := some 3) (v := ?_) (a' := ?_) #[true, true, true, true, true, true, true, true, true, true, true, true, true, true, true, true, true, true] rfl rfl (any_of HT_.out (by kernel_rfl)) (fun _ _ _ h => h) (Or.inl ⟨by rfl, ?_⟩) ?_ ?_
            rotate_left
            · intro w'
              go_simp
              with_reducible rfl
            rotate_left
            · simp only [Act.put, List.setIfInBounds_toArray, List.set_cons_zero, List.set_cons_succ, i64_w, i32_w]
              rfl
            refine done_ (done_of HT_.out (by kernel_rfl)) ?_
            try go_wp2
            go_ret2
            exact ⟨_, Sqz.auR, (Sqz.mvR HO135.out), Sqz.auHB⟩
          · rw [if_neg c7] at H
            exact absurd H (by simp)
        · rw [if_neg c6] at H
          exact absurd H (by simp)
      · rw [if_neg c5] at H
        exact absurd H (by simp)
    · rw [if_neg c4] at H
      exact absurd H (by simp)
  · replace c3 := Bool.eq_false_iff.mpr c3
    subst c3
    have H1 : (some (([] : List Int), false)) = some (r1, r2) := by rw [if_neg (show ¬ (false = true) by decide)] at H; exact H
    clear H
    have H := H1
    clear H1
    simp only [Option.some.injEq, Prod.mk.injEq] at H
    obtain ⟨rfl, rfl⟩ := H
    go_enter Try.func35, Try.ntmps35
    go_wp2_with (first | ((with_reducible refine gate_callee (f := 52) rfl ?_); refine goesL_ (some 5) rfl rfl Try.func52 (by kernel_rfl) rfl #[.slice A0 l0.length c0] rfl Sqz.auM ?_; (with_reducible refine (impl_QuatValid.calls k _ _ l0 false _ ?side1 ?side2 A2.out).mono ?_); (case side1 => exact Sqz.mvC (HR0.out)); (case side2 => exact HC0.out); rintro e w12 ⟨rfl, hb⟩; refine ⟨_, rfl, ?_⟩; have n0_ := Aside0.mk (below_step (Sqz.auHB) hb); clear HB; have HB := n0_; clear n0_; (try clear hb); (try clear hb2); (try clear hk); (try clear hi)))
    go_ret2
    exact ⟨_, Sqz.auR, by first | exact Kd.R_nil _ _ _ _ _ | exact Kd.N_nil _ _ _ _ _ | exact Kd.V_nil _ _ _ _ _ | exact Kd.Q_nil _ _ _ _ _ | exact Kd.S_nil _ _ _ _ _, Sqz.auHB⟩

end Go.Proofs.Ytfhehcgefbknbaa.PFnQuatMul
