/- A function's Lean twin and its walk, written by a program of this session. -/
import Derived.Test.YtfhehcgefbknbaaTPFnTurnx0
import Derived.Test.YtfhehcgefbknbaaTPFnTurnx1
namespace Go.Proofs.Ytfhehcgefbknbaa.PFnTurn
open Go.RowKit Go.Proofs.YtfhehcgefbknbaaW.PrintWords Go.Proofs.YtfhehcgefbknbaaW.PrintLast Go.Proofs.YtfhehcgefbknbaaW.PrintMore
attribute [local go_sem] max2_int min2_int max_two min_two max_three min_three max_four min_four   -- for this text's walks alone
set_option linter.unusedVariables false
set_option linter.unusedSimpArgs false

/-! ### impl_QuatMul: function 21 -/
def impl_QuatMul.j0 : Nat → List Int → List Int → Bool → Option (List Int × Bool)
  | 0, _, _, _ => none
  | k + 1, x0, x1, x22 => if x22 = true then (some (([] : List Int), false)) else (if 0 < (x0.length : Int) then (if 1 < (x0.length : Int) then (if 2 < (x0.length : Int) then (if 3 < (x0.length : Int) then (if 0 < (x1.length : Int) then (if 1 < (x1.length : Int) then (if 2 < (x1.length : Int) then (if 3 < (x1.length : Int) then ((some (([wrap64 ((wrap64 ((wrap64 ((wrap64 ((rd x0 0) * (rd x1 0))) - (wrap64 ((rd x0 1) * (rd x1 1))))) - (wrap64 ((rd x0 2) * (rd x1 2))))) - (wrap64 ((rd x0 3) * (rd x1 3)))), wrap64 ((wrap64 ((wrap64 ((wrap64 ((rd x0 0) * (rd x1 1))) + (wrap64 ((rd x0 1) * (rd x1 0))))) + (wrap64 ((rd x0 2) * (rd x1 3))))) - (wrap64 ((rd x0 3) * (rd x1 2)))), wrap64 ((wrap64 ((wrap64 ((wrap64 ((rd x0 0) * (rd x1 2))) - (wrap64 ((rd x0 1) * (rd x1 3))))) + (wrap64 ((rd x0 2) * (rd x1 0))))) + (wrap64 ((rd x0 3) * (rd x1 1)))), wrap64 ((wrap64 ((wrap64 ((wrap64 ((rd x0 0) * (rd x1 3))) + (wrap64 ((rd x0 1) * (rd x1 2))))) - (wrap64 ((rd x0 2) * (rd x1 1))))) + (wrap64 ((rd x0 3) * (rd x1 0))))] : List Int) : List Int)).bind fun y176 => ((impl_QuatValid.f k y176).bind fun t179 => (if t179 = true then (some (y176, true)) else (some (([] : List Int), false))))) else (none)) else (none)) else (none)) else (none)) else (none)) else (none)) else (none)) else (none))
def impl_QuatMul.f (k : Nat) (l0 : List Int) (l1 : List Int) : Option (List Int × Bool) := (impl_QuatValid.f k l0).bind fun t166 => (if t166 = true then ((impl_QuatValid.f k l1).bind fun t167 => (impl_QuatMul.j0 k l0 l1 (!t167))) else (impl_QuatMul.j0 k l0 l1 true))
set_option maxHeartbeats 8000000 in
set_option maxRecDepth 100000 in
theorem impl_QuatMul.calls (k : Nat) (A0 : Option Addr) (c0 : Nat) (l0 : List Int) (A1 : Option Addr) (c1 : Nat) (l1 : List Int) (r1 : List Int) (r2 : Bool) (w : World) (hr0 : Kd.C (Kd.int .i64) w A0 l0.length l0) (hc0 : l0.length ≤ c0) (hr1 : Kd.C (Kd.int .i64) w A1 l1.length l1) (hc1 : l1.length ≤ c1) (h : impl_QuatMul.f k l0 l1 = some (r1, r2)) :
    Calls Try.prog 21 #[.slice A0 l0.length c0, .slice A1 l1.length c1] w fun e w' => ∃ v0_ : Value, e = .returned (.tuple #[v0_, .bool r2]) ∧ Kd.R (Kd.int .i64) 3 w' w.heap.size (fun _ => True) v0_ r1 ∧ Below w.heap.size w w' := by
  have HR0 := Aside0.mk hr0
  have HC0 := Aside0.mk hc0
  clear hr0 hc0
  have HR1 := Aside0.mk hr1
  have HC1 := Aside0.mk hc1
  clear hr1 hc1
  have HB := Aside0.mk (Below.refl w.heap.size w)
  have H : ((impl_QuatValid.f k l0).bind fun t166 => (if t166 = true then ((impl_QuatValid.f k l1).bind fun t167 => (impl_QuatMul.j0 k l0 l1 (!t167))) else (impl_QuatMul.j0 k l0 l1 true))) = some (r1, r2) := h
  clear h
  have HC3 := Aside0.mk H
  clear H
  go_enter Try.func21, Try.ntmps21
  go_upto_region 1 with (fail)
  repeat (go_quiet (fail); go_upto_region 1 with (fail))
  go_cut [22] (fun v22 wc => ∃ (kq : Nat) (x22_2 : Bool), v22 = .bool x22_2 ∧ Aside0 (impl_QuatMul.j0 kq l0 l1 x22_2 = some (r1, r2)) ∧ Aside0 (kq ≤ k) ∧ Aside0 (Below w.heap.size w wc))
  case first =>
    have H := HC3.out
    clear HC3
    replace H := Option.bind_eq_some_iff.mp H
    obtain ⟨t166, A40, H⟩ := H
    replace H : (if t166 = true then ((impl_QuatValid.f k l1).bind fun t167 => (impl_QuatMul.j0 k l0 l1 (!t167))) else (impl_QuatMul.j0 k l0 l1 true)) = some (r1, r2) := H
    have A4 := Aside0.mk A40
    clear A40
    by_cases c5 : t166 = true
    · subst c5
      have H1 : ((impl_QuatValid.f k l1).bind fun t167 => (impl_QuatMul.j0 k l0 l1 (!t167))) = some (r1, r2) := by rw [if_pos rfl] at H; exact H
      clear H
      have H := H1
      clear H1
      replace H := Option.bind_eq_some_iff.mp H
      obtain ⟨t167, A60, H⟩ := H
      replace H : (impl_QuatMul.j0 k l0 l1 (!t167)) = some (r1, r2) := H
      have A6 := Aside0.mk A60
      clear A60
      have H' := Aside0.mk H
      clear H
      go_wp2_with (first | (go_at_call 52; (with_reducible refine (impl_QuatValid.calls k _ _ l0 true _ ?side1 ?side2 A4.out).mono ?_); (case side1 => exact Sqz.mvC ((Kd.C_below HR0.out HB.out))); (case side2 => exact HC0.out); rintro e w7 ⟨rfl, hb⟩; have n0_ := Aside0.mk (below_step (Sqz.auHB) hb); clear HB; have HB := n0_; clear n0_; (try clear hb); (try clear hb2); (try clear hk); (try clear hi)) | (go_at_call 52; (with_reducible refine (impl_QuatValid.calls k _ _ l1 t167 _ ?side1 ?side2 A6.out).mono ?_); (case side1 => exact Sqz.mvC ((Kd.C_below HR1.out HB.out))); (case side2 => exact HC1.out); rintro e w8 ⟨rfl, hb⟩; have n0_ := Aside0.mk (below_step (Sqz.auHB) hb); clear HB; have HB := n0_; clear n0_; (try clear hb); (try clear hb2); (try clear hk); (try clear hi)))
      repeat (go_quiet (first | (go_at_call 52; (with_reducible refine (impl_QuatValid.calls k _ _ l0 true _ ?side1 ?side2 A4.out).mono ?_); (case side1 => exact Sqz.mvC ((Kd.C_below HR0.out HB.out))); (case side2 => exact HC0.out); rintro e w7 ⟨rfl, hb⟩; have n0_ := Aside0.mk (below_step (Sqz.auHB) hb); clear HB; have HB := n0_; clear n0_; (try clear hb); (try clear hb2); (try clear hk); (try clear hi)) | (go_at_call 52; (with_reducible refine (impl_QuatValid.calls k _ _ l1 t167 _ ?side1 ?side2 A6.out).mono ?_); (case side1 => exact Sqz.mvC ((Kd.C_below HR1.out HB.out))); (case side2 => exact HC1.out); rintro e w8 ⟨rfl, hb⟩; have n0_ := Aside0.mk (below_step (Sqz.auHB) hb); clear HB; have HB := n0_; clear n0_; (try clear hb); (try clear hb2); (try clear hk); (try clear hi))); try go_wp2_with (first | (go_at_call 52; (with_reducible refine (impl_QuatValid.calls k _ _ l0 true _ ?side1 ?side2 A4.out).mono ?_); (case side1 => exact Sqz.mvC ((Kd.C_below HR0.out HB.out))); (case side2 => exact HC0.out); rintro e w7 ⟨rfl, hb⟩; have n0_ := Aside0.mk (below_step (Sqz.auHB) hb); clear HB; have HB := n0_; clear n0_; (try clear hb); (try clear hb2); (try clear hk); (try clear hi)) | (go_at_call 52; (with_reducible refine (impl_QuatValid.calls k _ _ l1 t167 _ ?side1 ?side2 A6.out).mono ?_); (case side1 => exact Sqz.mvC ((Kd.C_below HR1.out HB.out))); (case side2 => exact HC1.out); rintro e w8 ⟨rfl, hb⟩; have n0_ := Aside0.mk (below_step (Sqz.auHB) hb); clear HB; have HB := n0_; clear n0_; (try clear hb); (try clear hb2); (try clear hk); (try clear hi))))
      go_meet
      case rel => exact ⟨_, (!t167), Sqz.auS, H', ⟨Sqz.auN⟩, ⟨Sqz.auHB⟩⟩
    · replace c5 := Bool.eq_false_iff.mpr c5
      subst c5
      have H1 : (impl_QuatMul.j0 k l0 l1 true) = some (r1, r2) := by rw [if_neg (show ¬ (false = true) by decide)] at H; exact H
      clear H
      have H := H1
      clear H1
      have H' := Aside0.mk H
      clear H
      go_wp2_with (first | (go_at_call 52; (with_reducible refine (impl_QuatValid.calls k _ _ l0 false _ ?side1 ?side2 A4.out).mono ?_); (case side1 => exact Sqz.mvC ((Kd.C_below HR0.out HB.out))); (case side2 => exact HC0.out); rintro e w9 ⟨rfl, hb⟩; have n0_ := Aside0.mk (below_step (Sqz.auHB) hb); clear HB; have HB := n0_; clear n0_; (try clear hb); (try clear hb2); (try clear hk); (try clear hi)))
      repeat (go_quiet (first | (go_at_call 52; (with_reducible refine (impl_QuatValid.calls k _ _ l0 false _ ?side1 ?side2 A4.out).mono ?_); (case side1 => exact Sqz.mvC ((Kd.C_below HR0.out HB.out))); (case side2 => exact HC0.out); rintro e w9 ⟨rfl, hb⟩; have n0_ := Aside0.mk (below_step (Sqz.auHB) hb); clear HB; have HB := n0_; clear n0_; (try clear hb); (try clear hb2); (try clear hk); (try clear hi))); try go_wp2_with (first | (go_at_call 52; (with_reducible refine (impl_QuatValid.calls k _ _ l0 false _ ?side1 ?side2 A4.out).mono ?_); (case side1 => exact Sqz.mvC ((Kd.C_below HR0.out HB.out))); (case side2 => exact HC0.out); rintro e w9 ⟨rfl, hb⟩; have n0_ := Aside0.mk (below_step (Sqz.auHB) hb); clear HB; have HB := n0_; clear n0_; (try clear hb); (try clear hb2); (try clear hk); (try clear hi))))
      go_meet
      case rel => exact ⟨_, (true), Sqz.auS, H', ⟨Sqz.auN⟩, ⟨Sqz.auHB⟩⟩
  case rest =>
    clear HC3
    try clear c1
    try clear c2
    try clear p2
    try clear c5
    obtain ⟨kq, x22_2, rfl, HA, HJ2, HB⟩ := hcut
    cases kq with
    | zero => exact absurd HA.out (by simp [impl_QuatMul.j0])
    | succ kj2 =>
      have H := HA.out
      clear HA
      simp only [impl_QuatMul.j0] at H
      by_cases c10 : x22_2 = true
      · subst c10
        have H1 : (some (([] : List Int), false)) = some (r1, r2) := by rw [if_pos rfl] at H; exact H
        clear H
        have H := H1
        clear H1
        simp only [Option.some.injEq, Prod.mk.injEq] at H
        obtain ⟨rfl, rfl⟩ := H
        go_wp2
        repeat (go_quiet (fail); try go_wp2)
        go_ret2
        exact ⟨_, Sqz.auR, by first | exact Kd.R_nil _ _ _ _ _ | exact Kd.N_nil _ _ _ _ _ | exact Kd.V_nil _ _ _ _ _ | exact Kd.Q_nil _ _ _ _ _ | exact Kd.S_nil _ _ _ _ _, Sqz.auHB⟩
      · replace c10 := Bool.eq_false_iff.mpr c10
        subst c10
        have H1 : (if 0 < (l0.length : Int) then (if 1 < (l0.length : Int) then (if 2 < (l0.length : Int) then (if 3 < (l0.length : Int) then (if 0 < (l1.length : Int) then (if 1 < (l1.length : Int) then (if 2 < (l1.length : Int) then (if 3 < (l1.length : Int) then ((some (([wrap64 ((wrap64 ((wrap64 ((wrap64 ((rd l0 0) * (rd l1 0))) - (wrap64 ((rd l0 1) * (rd l1 1))))) - (wrap64 ((rd l0 2) * (rd l1 2))))) - (wrap64 ((rd l0 3) * (rd l1 3)))), wrap64 ((wrap64 ((wrap64 ((wrap64 ((rd l0 0) * (rd l1 1))) + (wrap64 ((rd l0 1) * (rd l1 0))))) + (wrap64 ((rd l0 2) * (rd l1 3))))) - (wrap64 ((rd l0 3) * (rd l1 2)))), wrap64 ((wrap64 ((wrap64 ((wrap64 ((rd l0 0) * (rd l1 2))) - (wrap64 ((rd l0 1) * (rd l1 3))))) + (wrap64 ((rd l0 2) * (rd l1 0))))) + (wrap64 ((rd l0 3) * (rd l1 1)))), wrap64 ((wrap64 ((wrap64 ((wrap64 ((rd l0 0) * (rd l1 3))) + (wrap64 ((rd l0 1) * (rd l1 2))))) - (wrap64 ((rd l0 2) * (rd l1 1))))) + (wrap64 ((rd l0 3) * (rd l1 0))))] : List Int) : List Int)).bind fun y176 => ((impl_QuatValid.f kj2 y176).bind fun t179 => (if t179 = true then (some (y176, true)) else (some (([] : List Int), false))))) else (none)) else (none)) else (none)) else (none)) else (none)) else (none)) else (none)) else (none)) = some (r1, r2) := by rw [if_neg (show ¬ (false = true) by decide)] at H; exact H
        clear H
        have H := H1
        clear H1
        by_cases c11 : 0 < (l0.length : Int)
        · rw [if_pos c11] at H
          have c11b0 : decide (0 < (l0.length : Int)) = true := decide_eq_true c11
          have c11b1 : decide (0 < l0.length) = true := decide_eq_true (by omega)
          clear c11
          by_cases c12 : 1 < (l0.length : Int)
          · rw [if_pos c12] at H
            have c12b0 : decide (1 < (l0.length : Int)) = true := decide_eq_true c12
            have c12b1 : decide (1 < l0.length) = true := decide_eq_true (by omega)
            clear c12
            by_cases c13 : 2 < (l0.length : Int)
            · rw [if_pos c13] at H
              have c13b0 : decide (2 < (l0.length : Int)) = true := decide_eq_true c13
              have c13b1 : decide (2 < l0.length) = true := decide_eq_true (by omega)
              clear c13
              by_cases c14 : 3 < (l0.length : Int)
              · rw [if_pos c14] at H
                have c14b0 : decide (3 < (l0.length : Int)) = true := decide_eq_true c14
                have c14b1 : decide (3 < l0.length) = true := decide_eq_true (by omega)
                clear c14
                by_cases c15 : 0 < (l1.length : Int)
                · rw [if_pos c15] at H
                  have c15b0 : decide (0 < (l1.length : Int)) = true := decide_eq_true c15
                  have c15b1 : decide (0 < l1.length) = true := decide_eq_true (by omega)
                  clear c15
                  by_cases c16 : 1 < (l1.length : Int)
                  · rw [if_pos c16] at H
                    have c16b0 : decide (1 < (l1.length : Int)) = true := decide_eq_true c16
                    have c16b1 : decide (1 < l1.length) = true := decide_eq_true (by omega)
                    clear c16
                    by_cases c17 : 2 < (l1.length : Int)
                    · rw [if_pos c17] at H
                      have c17b0 : decide (2 < (l1.length : Int)) = true := decide_eq_true c17
                      have c17b1 : decide (2 < l1.length) = true := decide_eq_true (by omega)
                      clear c17
                      by_cases c18 : 3 < (l1.length : Int)
                      · rw [if_pos c18] at H
                        have c18b0 : decide (3 < (l1.length : Int)) = true := decide_eq_true c18
                        have c18b1 : decide (3 < l1.length) = true := decide_eq_true (by omega)
                        clear c18
                        obtain ⟨y176, hy176⟩ : ∃ y_ : List Int, y_ = (([wrap64 ((wrap64 ((wrap64 ((wrap64 ((rd l0 0) * (rd l1 0))) - (wrap64 ((rd l0 1) * (rd l1 1))))) - (wrap64 ((rd l0 2) * (rd l1 2))))) - (wrap64 ((rd l0 3) * (rd l1 3)))), wrap64 ((wrap64 ((wrap64 ((wrap64 ((rd l0 0) * (rd l1 1))) + (wrap64 ((rd l0 1) * (rd l1 0))))) + (wrap64 ((rd l0 2) * (rd l1 3))))) - (wrap64 ((rd l0 3) * (rd l1 2)))), wrap64 ((wrap64 ((wrap64 ((wrap64 ((rd l0 0) * (rd l1 2))) - (wrap64 ((rd l0 1) * (rd l1 3))))) + (wrap64 ((rd l0 2) * (rd l1 0))))) + (wrap64 ((rd l0 3) * (rd l1 1)))), wrap64 ((wrap64 ((wrap64 ((wrap64 ((rd l0 0) * (rd l1 3))) + (wrap64 ((rd l0 1) * (rd l1 2))))) - (wrap64 ((rd l0 2) * (rd l1 1))))) + (wrap64 ((rd l0 3) * (rd l1 0))))] : List Int)) := ⟨_, rfl⟩
                        replace H : ((impl_QuatValid.f kj2 y176).bind fun t179 => (if t179 = true then (some (y176, true)) else (some (([] : List Int), false)))) = some (r1, r2) := by first | (rw [hy176]; with_reducible exact H) | (have H2_ := (Option.bind_some _ _).symm.trans H; rw [hy176]; with_reducible exact H2_) | (have H2_ := (Option.bind_some _ _).symm.trans H; with_reducible exact H2_) | with_reducible exact H | (rw [hy176]; exact H) | exact H
                        have Ny176 := Aside0.mk hy176
                        clear hy176
                        replace H := Option.bind_eq_some_iff.mp H
                        obtain ⟨t179, A190, H⟩ := H
                        replace H : (if t179 = true then (some (y176, true)) else (some (([] : List Int), false))) = some (r1, r2) := H
                        have A19 := Aside0.mk A190
                        clear A190
                        by_cases c20 : t179 = true
                        · subst c20
                          have H1 : (some (y176, true)) = some (r1, r2) := by rw [if_pos rfl] at H; exact H
                          clear H
                          have H := H1
                          clear H1
                          simp only [Option.some.injEq, Prod.mk.injEq] at H
                          obtain ⟨rfl, rfl⟩ := H
                          have p168 : 0 ≤ (0 : Int) := (by omega)
                          have q168 : 0 < (l0.length : Int) := of_decide_eq_true (by first | (with_reducible assumption) | assumption)
                          obtain ⟨ad168, e168, hx168_0⟩ := Kd.at_int HR0.out 0 p168 q168
                          cases e168
                          have qi168 : (0 < l0.length) = True := eq_true (by omega)
                          (try rw [show ((0 : Int)).toNat = 0 from rfl] at hx168_0)
                          (try rw [Addr.add_zero'] at hx168_0)
                          replace hx168_0 := (HB.out.cell (World.block_lt_of_cell? w _ hx168_0)).trans hx168_0
                          replace p168 := eq_true p168
                          replace q168 := eq_true q168
                          have p169 : 0 ≤ (1 : Int) := (by omega)
                          have q169 : 1 < (l0.length : Int) := of_decide_eq_true (by first | (with_reducible assumption) | assumption)
                          obtain ⟨ad169, e169, hx169_0⟩ := Kd.at_int HR0.out 1 p169 q169
                          obtain rfl : ad168 = ad169 := (by injection e169)
                          (try simp only [show (1 : Int).toNat = 1 from rfl, Nat.reduceMul, Nat.reduceEqDiff, Go.Addr.add, ↓reduceIte] at hx169_0)
                          have qi169 : (1 < l0.length) = True := eq_true (by omega)
                          (try rw [show ((1 : Int)).toNat = 1 from rfl] at hx169_0)
                          replace hx169_0 := (HB.out.cell (World.block_lt_of_cell? w _ hx169_0)).trans hx169_0
                          replace p169 := eq_true p169
                          replace q169 := eq_true q169
                          have p170 : 0 ≤ (2 : Int) := (by omega)
                          have q170 : 2 < (l0.length : Int) := of_decide_eq_true (by first | (with_reducible assumption) | assumption)
                          obtain ⟨ad170, e170, hx170_0⟩ := Kd.at_int HR0.out 2 p170 q170
                          obtain rfl : ad168 = ad170 := (by injection e170)
                          (try simp only [show (2 : Int).toNat = 2 from rfl, Nat.reduceMul, Nat.reduceEqDiff, Go.Addr.add, ↓reduceIte] at hx170_0)
                          have qi170 : (2 < l0.length) = True := eq_true (by omega)
                          (try rw [show ((2 : Int)).toNat = 2 from rfl] at hx170_0)
                          replace hx170_0 := (HB.out.cell (World.block_lt_of_cell? w _ hx170_0)).trans hx170_0
                          replace p170 := eq_true p170
                          replace q170 := eq_true q170
                          have p171 : 0 ≤ (3 : Int) := (by omega)
                          have q171 : 3 < (l0.length : Int) := of_decide_eq_true (by first | (with_reducible assumption) | assumption)
                          obtain ⟨ad171, e171, hx171_0⟩ := Kd.at_int HR0.out 3 p171 q171
                          obtain rfl : ad168 = ad171 := (by injection e171)
                          (try simp only [show (3 : Int).toNat = 3 from rfl, Nat.reduceMul, Nat.reduceEqDiff, Go.Addr.add, ↓reduceIte] at hx171_0)
                          have qi171 : (3 < l0.length) = True := eq_true (by omega)
                          (try rw [show ((3 : Int)).toNat = 3 from rfl] at hx171_0)
                          replace hx171_0 := (HB.out.cell (World.block_lt_of_cell? w _ hx171_0)).trans hx171_0
                          replace p171 := eq_true p171
                          replace q171 := eq_true q171
                          have p172 : 0 ≤ (0 : Int) := (by omega)
                          have q172 : 0 < (l1.length : Int) := of_decide_eq_true (by first | (with_reducible assumption) | assumption)
                          obtain ⟨ad172, e172, hx172_0⟩ := Kd.at_int HR1.out 0 p172 q172
                          cases e172
                          have qi172 : (0 < l1.length) = True := eq_true (by omega)
                          (try rw [show ((0 : Int)).toNat = 0 from rfl] at hx172_0)
                          (try rw [Addr.add_zero'] at hx172_0)
                          replace hx172_0 := (HB.out.cell (World.block_lt_of_cell? w _ hx172_0)).trans hx172_0
                          replace p172 := eq_true p172
                          replace q172 := eq_true q172
                          have p173 : 0 ≤ (1 : Int) := (by omega)
                          have q173 : 1 < (l1.length : Int) := of_decide_eq_true (by first | (with_reducible assumption) | assumption)
                          obtain ⟨ad173, e173, hx173_0⟩ := Kd.at_int HR1.out 1 p173 q173
                          obtain rfl : ad172 = ad173 := (by injection e173)
                          (try simp only [show (1 : Int).toNat = 1 from rfl, Nat.reduceMul, Nat.reduceEqDiff, Go.Addr.add, ↓reduceIte] at hx173_0)
                          have qi173 : (1 < l1.length) = True := eq_true (by omega)
                          (try rw [show ((1 : Int)).toNat = 1 from rfl] at hx173_0)
                          replace hx173_0 := (HB.out.cell (World.block_lt_of_cell? w _ hx173_0)).trans hx173_0
                          replace p173 := eq_true p173
                          replace q173 := eq_true q173
                          have p174 : 0 ≤ (2 : Int) := (by omega)
                          have q174 : 2 < (l1.length : Int) := of_decide_eq_true (by first | (with_reducible assumption) | assumption)
                          obtain ⟨ad174, e174, hx174_0⟩ := Kd.at_int HR1.out 2 p174 q174
                          obtain rfl : ad172 = ad174 := (by injection e174)
                          (try simp only [show (2 : Int).toNat = 2 from rfl, Nat.reduceMul, Nat.reduceEqDiff, Go.Addr.add, ↓reduceIte] at hx174_0)
                          have qi174 : (2 < l1.length) = True := eq_true (by omega)
                          (try rw [show ((2 : Int)).toNat = 2 from rfl] at hx174_0)
                          replace hx174_0 := (HB.out.cell (World.block_lt_of_cell? w _ hx174_0)).trans hx174_0
                          replace p174 := eq_true p174
                          replace q174 := eq_true q174
                          have p175 : 0 ≤ (3 : Int) := (by omega)
                          have q175 : 3 < (l1.length : Int) := of_decide_eq_true (by first | (with_reducible assumption) | assumption)
                          obtain ⟨ad175, e175, hx175_0⟩ := Kd.at_int HR1.out 3 p175 q175
                          obtain rfl : ad172 = ad175 := (by injection e175)
                          (try simp only [show (3 : Int).toNat = 3 from rfl, Nat.reduceMul, Nat.reduceEqDiff, Go.Addr.add, ↓reduceIte] at hx175_0)
                          have qi175 : (3 < l1.length) = True := eq_true (by omega)
                          (try rw [show ((3 : Int)).toNat = 3 from rfl] at hx175_0)
                          replace hx175_0 := (HB.out.cell (World.block_lt_of_cell? w _ hx175_0)).trans hx175_0
                          replace p175 := eq_true p175
                          replace q175 := eq_true q175
                          go_wp2_with (first | ((with_reducible refine gate_dst (N := 107) rfl ?_); refine Kd.R_lit (Kd.int .i64) _ 3 ?hg (N := 107) ?hd (xs := ([wrap64 ((wrap64 ((wrap64 ((wrap64 ((rd l0 0) * (rd l1 0))) - (wrap64 ((rd l0 1) * (rd l1 1))))) - (wrap64 ((rd l0 2) * (rd l1 2))))) - (wrap64 ((rd l0 3) * (rd l1 3)))), wrap64 ((wrap64 ((wrap64 ((wrap64 ((rd l0 0) * (rd l1 1))) + (wrap64 ((rd l0 1) * (rd l1 0))))) + (wrap64 ((rd l0 2) * (rd l1 3))))) - (wrap64 ((rd l0 3) * (rd l1 2)))), wrap64 ((wrap64 ((wrap64 ((wrap64 ((rd l0 0) * (rd l1 2))) - (wrap64 ((rd l0 1) * (rd l1 3))))) + (wrap64 ((rd l0 2) * (rd l1 0))))) + (wrap64 ((rd l0 3) * (rd l1 1)))), wrap64 ((wrap64 ((wrap64 ((wrap64 ((rd l0 0) * (rd l1 3))) + (wrap64 ((rd l0 1) * (rd l1 2))))) - (wrap64 ((rd l0 2) * (rd l1 1))))) + (wrap64 ((rd l0 3) * (rd l1 0))))] : List Int)) (inner := [.int .i64 (wrap64 ((wrap64 ((wrap64 ((wrap64 ((rd l0 0) * (rd l1 0))) - (wrap64 ((rd l0 1) * (rd l1 1))))) - (wrap64 ((rd l0 2) * (rd l1 2))))) - (wrap64 ((rd l0 3) * (rd l1 3))))), .int .i64 (wrap64 ((wrap64 ((wrap64 ((wrap64 ((rd l0 0) * (rd l1 1))) + (wrap64 ((rd l0 1) * (rd l1 0))))) + (wrap64 ((rd l0 2) * (rd l1 3))))) - (wrap64 ((rd l0 3) * (rd l1 2))))), .int .i64 (wrap64 ((wrap64 ((wrap64 ((wrap64 ((rd l0 0) * (rd l1 2))) - (wrap64 ((rd l0 1) * (rd l1 3))))) + (wrap64 ((rd l0 2) * (rd l1 0))))) + (wrap64 ((rd l0 3) * (rd l1 1))))), .int .i64 (wrap64 ((wrap64 ((wrap64 ((wrap64 ((rd l0 0) * (rd l1 3))) + (wrap64 ((rd l0 1) * (rd l1 2))))) - (wrap64 ((rd l0 2) * (rd l1 1))))) + (wrap64 ((rd l0 3) * (rd l1 0)))))]) (ok := fun _ => True) (okp := fun _ => True) ?hr ?hp (fun _ hk => hk) trivial (Below.refl _ _) (Nat.le_refl _) (by simp) ?_; (case hd => rfl); (case hg => rfl); (case hr => first | (go_simp; done) | (go_simp; rfl)); (case hp => exact (Reps.one (show Kd.M (Kd.int .i64) _ _ _ (wrap64 ((wrap64 ((wrap64 ((wrap64 ((rd l0 0) * (rd l1 0))) - (wrap64 ((rd l0 1) * (rd l1 1))))) - (wrap64 ((rd l0 2) * (rd l1 2))))) - (wrap64 ((rd l0 3) * (rd l1 3))))) [.int .i64 (wrap64 ((wrap64 ((wrap64 ((wrap64 ((rd l0 0) * (rd l1 0))) - (wrap64 ((rd l0 1) * (rd l1 1))))) - (wrap64 ((rd l0 2) * (rd l1 2))))) - (wrap64 ((rd l0 3) * (rd l1 3)))))] from rfl) (Reps.one (show Kd.M (Kd.int .i64) _ _ _ (wrap64 ((wrap64 ((wrap64 ((wrap64 ((rd l0 0) * (rd l1 1))) + (wrap64 ((rd l0 1) * (rd l1 0))))) + (wrap64 ((rd l0 2) * (rd l1 3))))) - (wrap64 ((rd l0 3) * (rd l1 2))))) [.int .i64 (wrap64 ((wrap64 ((wrap64 ((wrap64 ((rd l0 0) * (rd l1 1))) + (wrap64 ((rd l0 1) * (rd l1 0))))) + (wrap64 ((rd l0 2) * (rd l1 3))))) - (wrap64 ((rd l0 3) * (rd l1 2)))))] from rfl) (Reps.one (show Kd.M (Kd.int .i64) _ _ _ (wrap64 ((wrap64 ((wrap64 ((wrap64 ((rd l0 0) * (rd l1 2))) - (wrap64 ((rd l0 1) * (rd l1 3))))) + (wrap64 ((rd l0 2) * (rd l1 0))))) + (wrap64 ((rd l0 3) * (rd l1 1))))) [.int .i64 (wrap64 ((wrap64 ((wrap64 ((wrap64 ((rd l0 0) * (rd l1 2))) - (wrap64 ((rd l0 1) * (rd l1 3))))) + (wrap64 ((rd l0 2) * (rd l1 0))))) + (wrap64 ((rd l0 3) * (rd l1 1)))))] from rfl) (Reps.one (show Kd.M (Kd.int .i64) _ _ _ (wrap64 ((wrap64 ((wrap64 ((wrap64 ((rd l0 0) * (rd l1 3))) + (wrap64 ((rd l0 1) * (rd l1 2))))) - (wrap64 ((rd l0 2) * (rd l1 1))))) + (wrap64 ((rd l0 3) * (rd l1 0))))) [.int .i64 (wrap64 ((wrap64 ((wrap64 ((wrap64 ((rd l0 0) * (rd l1 3))) + (wrap64 ((rd l0 1) * (rd l1 2))))) - (wrap64 ((rd l0 2) * (rd l1 1))))) + (wrap64 ((rd l0 3) * (rd l1 0)))))] from rfl) (Reps.none _ _)))))); intro v177 w21 ho22 hb hg_ hnew_; clear hg_ hnew_; (first | rw [← Ny176.out] at ho22 | (simp only [Int.reduceToNat] at ho22; rw [← Ny176.out] at ho22)); have n0_ := Aside0.mk (Kd.R_lower ho22 (below_size (Sqz.auHB))); have n1_ := Aside0.mk (below_step (Sqz.auHB) hb); clear HB; have HO178 := n0_; have HB := n1_; clear n0_ n1_; clear hb ho22; obtain ⟨Ao23, co23, eo23⟩ := Kd.R_slice HO178.out; subst eo23) | (go_at_call 52; (with_reducible refine (impl_QuatValid.calls kj2 _ _ y176 true _ ?side1 ?side2 A19.out).mono ?_); (case side1 => exact Sqz.mvC ((Kd.R_reads' HO178.out).2.2)); (case side2 => exact (Kd.R_reads' HO178.out).2.1); rintro e w24 ⟨rfl, hb⟩; have n0_ := Aside0.mk (Kd.R_below ((Sqz.mvR HO178.out)) hb); have n1_ := Aside0.mk (below_step (Sqz.auHB) hb); clear HO178; clear HB; have HO178 := n0_; have HB := n1_; clear n0_ n1_; (try clear hb); (try clear hb2); (try clear hk); (try clear hi)))
                          repeat (go_quiet (first | ((with_reducible refine gate_dst (N := 107) rfl ?_); refine Kd.R_lit (Kd.int .i64) _ 3 ?hg (N := 107) ?hd (xs := ([wrap64 ((wrap64 ((wrap64 ((wrap64 ((rd l0 0) * (rd l1 0))) - (wrap64 ((rd l0 1) * (rd l1 1))))) - (wrap64 ((rd l0 2) * (rd l1 2))))) - (wrap64 ((rd l0 3) * (rd l1 3)))), wrap64 ((wrap64 ((wrap64 ((wrap64 ((rd l0 0) * (rd l1 1))) + (wrap64 ((rd l0 1) * (rd l1 0))))) + (wrap64 ((rd l0 2) * (rd l1 3))))) - (wrap64 ((rd l0 3) * (rd l1 2)))), wrap64 ((wrap64 ((wrap64 ((wrap64 ((rd l0 0) * (rd l1 2))) - (wrap64 ((rd l0 1) * (rd l1 3))))) + (wrap64 ((rd l0 2) * (rd l1 0))))) + (wrap64 ((rd l0 3) * (rd l1 1)))), wrap64 ((wrap64 ((wrap64 ((wrap64 ((rd l0 0) * (rd l1 3))) + (wrap64 ((rd l0 1) * (rd l1 2))))) - (wrap64 ((rd l0 2) * (rd l1 1))))) + (wrap64 ((rd l0 3) * (rd l1 0))))] : List Int)) (inner := [.int .i64 (wrap64 ((wrap64 ((wrap64 ((wrap64 ((rd l0 0) * (rd l1 0))) - (wrap64 ((rd l0 1) * (rd l1 1))))) - (wrap64 ((rd l0 2) * (rd l1 2))))) - (wrap64 ((rd l0 3) * (rd l1 3))))), .int .i64 (wrap64 ((wrap64 ((wrap64 ((wrap64 ((rd l0 0) * (rd l1 1))) + (wrap64 ((rd l0 1) * (rd l1 0))))) + (wrap64 ((rd l0 2) * (rd l1 3))))) - (wrap64 ((rd l0 3) * (rd l1 2))))), .int .i64 (wrap64 ((wrap64 ((wrap64 ((wrap64 ((rd l0 0) * (rd l1 2))) - (wrap64 ((rd l0 1) * (rd l1 3))))) + (wrap64 ((rd l0 2) * (rd l1 0))))) + (wrap64 ((rd l0 3) * (rd l1 1))))), .int .i64 (wrap64 ((wrap64 ((wrap64 ((wrap64 ((rd l0 0) * (rd l1 3))) + (wrap64 ((rd l0 1) * (rd l1 2))))) - (wrap64 ((rd l0 2) * (rd l1 1))))) + (wrap64 ((rd l0 3) * (rd l1 0)))))]) (ok := fun _ => True) (okp := fun _ => True) ?hr ?hp (fun _ hk => hk) trivial (Below.refl _ _) (Nat.le_refl _) (by simp) ?_; (case hd => rfl); (case hg => rfl); (case hr => first | (go_simp; done) | (go_simp; rfl)); (case hp => exact (Reps.one (show Kd.M (Kd.int .i64) _ _ _ (wrap64 ((wrap64 ((wrap64 ((wrap64 ((rd l0 0) * (rd l1 0))) - (wrap64 ((rd l0 1) * (rd l1 1))))) - (wrap64 ((rd l0 2) * (rd l1 2))))) - (wrap64 ((rd l0 3) * (rd l1 3))))) [.int .i64 (wrap64 ((wrap64 ((wrap64 ((wrap64 ((rd l0 0) * (rd l1 0))) - (wrap64 ((rd l0 1) * (rd l1 1))))) - (wrap64 ((rd l0 2) * (rd l1 2))))) - (wrap64 ((rd l0 3) * (rd l1 3)))))] from rfl) (Reps.one (show Kd.M (Kd.int .i64) _ _ _ (wrap64 ((wrap64 ((wrap64 ((wrap64 ((rd l0 0) * (rd l1 1))) + (wrap64 ((rd l0 1) * (rd l1 0))))) + (wrap64 ((rd l0 2) * (rd l1 3))))) - (wrap64 ((rd l0 3) * (rd l1 2))))) [.int .i64 (wrap64 ((wrap64 ((wrap64 ((wrap64 ((rd l0 0) * (rd l1 1))) + (wrap64 ((rd l0 1) * (rd l1 0))))) + (wrap64 ((rd l0 2) * (rd l1 3))))) - (wrap64 ((rd l0 3) * (rd l1 2)))))] from rfl) (Reps.one (show Kd.M (Kd.int .i64) _ _ _ (wrap64 ((wrap64 ((wrap64 ((wrap64 ((rd l0 0) * (rd l1 2))) - (wrap64 ((rd l0 1) * (rd l1 3))))) + (wrap64 ((rd l0 2) * (rd l1 0))))) + (wrap64 ((rd l0 3) * (rd l1 1))))) [.int .i64 (wrap64 ((wrap64 ((wrap64 ((wrap64 ((rd l0 0) * (rd l1 2))) - (wrap64 ((rd l0 1) * (rd l1 3))))) + (wrap64 ((rd l0 2) * (rd l1 0))))) + (wrap64 ((rd l0 3) * (rd l1 1)))))] from rfl) (Reps.one (show Kd.M (Kd.int .i64) _ _ _ (wrap64 ((wrap64 ((wrap64 ((wrap64 ((rd l0 0) * (rd l1 3))) + (wrap64 ((rd l0 1) * (rd l1 2))))) - (wrap64 ((rd l0 2) * (rd l1 1))))) + (wrap64 ((rd l0 3) * (rd l1 0))))) [.int .i64 (wrap64 ((wrap64 ((wrap64 ((wrap64 ((rd l0 0) * (rd l1 3))) + (wrap64 ((rd l0 1) * (rd l1 2))))) - (wrap64 ((rd l0 2) * (rd l1 1))))) + (wrap64 ((rd l0 3) * (rd l1 0)))))] from rfl) (Reps.none _ _)))))); intro v177 w21 ho22 hb hg_ hnew_; clear hg_ hnew_; (first | rw [← Ny176.out] at ho22 | (simp only [Int.reduceToNat] at ho22; rw [← Ny176.out] at ho22)); have n0_ := Aside0.mk (Kd.R_lower ho22 (below_size (Sqz.auHB))); have n1_ := Aside0.mk (below_step (Sqz.auHB) hb); clear HB; have HO178 := n0_; have HB := n1_; clear n0_ n1_; clear hb ho22; obtain ⟨Ao23, co23, eo23⟩ := Kd.R_slice HO178.out; subst eo23) | (go_at_call 52; (with_reducible refine (impl_QuatValid.calls kj2 _ _ y176 true _ ?side1 ?side2 A19.out).mono ?_); (case side1 => exact Sqz.mvC ((Kd.R_reads' HO178.out).2.2)); (case side2 => exact (Kd.R_reads' HO178.out).2.1); rintro e w24 ⟨rfl, hb⟩; have n0_ := Aside0.mk (Kd.R_below ((Sqz.mvR HO178.out)) hb); have n1_ := Aside0.mk (below_step (Sqz.auHB) hb); clear HO178; clear HB; have HO178 := n0_; have HB := n1_; clear n0_ n1_; (try clear hb); (try clear hb2); (try clear hk); (try clear hi))); try go_wp2_with (first | ((with_reducible refine gate_dst (N := 107) rfl ?_); refine Kd.R_lit (Kd.int .i64) _ 3 ?hg (N := 107) ?hd (xs := ([wrap64 ((wrap64 ((wrap64 ((wrap64 ((rd l0 0) * (rd l1 0))) - (wrap64 ((rd l0 1) * (rd l1 1))))) - (wrap64 ((rd l0 2) * (rd l1 2))))) - (wrap64 ((rd l0 3) * (rd l1 3)))), wrap64 ((wrap64 ((wrap64 ((wrap64 ((rd l0 0) * (rd l1 1))) + (wrap64 ((rd l0 1) * (rd l1 0))))) + (wrap64 ((rd l0 2) * (rd l1 3))))) - (wrap64 ((rd l0 3) * (rd l1 2)))), wrap64 ((wrap64 ((wrap64 ((wrap64 ((rd l0 0) * (rd l1 2))) - (wrap64 ((rd l0 1) * (rd l1 3))))) + (wrap64 ((rd l0 2) * (rd l1 0))))) + (wrap64 ((rd l0 3) * (rd l1 1)))), wrap64 ((wrap64 ((wrap64 ((wrap64 ((rd l0 0) * (rd l1 3))) + (wrap64 ((rd l0 1) * (rd l1 2))))) - (wrap64 ((rd l0 2) * (rd l1 1))))) + (wrap64 ((rd l0 3) * (rd l1 0))))] : List Int)) (inner := [.int .i64 (wrap64 ((wrap64 ((wrap64 ((wrap64 ((rd l0 0) * (rd l1 0))) - (wrap64 ((rd l0 1) * (rd l1 1))))) - (wrap64 ((rd l0 2) * (rd l1 2))))) - (wrap64 ((rd l0 3) * (rd l1 3))))), .int .i64 (wrap64 ((wrap64 ((wrap64 ((wrap64 ((rd l0 0) * (rd l1 1))) + (wrap64 ((rd l0 1) * (rd l1 0))))) + (wrap64 ((rd l0 2) * (rd l1 3))))) - (wrap64 ((rd l0 3) * (rd l1 2))))), .int .i64 (wrap64 ((wrap64 ((wrap64 ((wrap64 ((rd l0 0) * (rd l1 2))) - (wrap64 ((rd l0 1) * (rd l1 3))))) + (wrap64 ((rd l0 2) * (rd l1 0))))) + (wrap64 ((rd l0 3) * (rd l1 1))))), .int .i64 (wrap64 ((wrap64 ((wrap64 ((wrap64 ((rd l0 0) * (rd l1 3))) + (wrap64 ((rd l0 1) * (rd l1 2))))) - (wrap64 ((rd l0 2) * (rd l1 1))))) + (wrap64 ((rd l0 3) * (rd l1 0)))))]) (ok := fun _ => True) (okp := fun _ => True) ?hr ?hp (fun _ hk => hk) trivial (Below.refl _ _) (Nat.le_refl _) (by simp) ?_; (case hd => rfl); (case hg => rfl); (case hr => first | (go_simp; done) | (go_simp; rfl)); (case hp => exact (Reps.one (show Kd.M (Kd.int .i64) _ _ _ (wrap64 ((wrap64 ((wrap64 ((wrap64 ((rd l0 0) * (rd l1 0))) - (wrap64 ((rd l0 1) * (rd l1 1))))) - (wrap64 ((rd l0 2) * (rd l1 2))))) - (wrap64 ((rd l0 3) * (rd l1 3))))) [.int .i64 (wrap64 ((wrap64 ((wrap64 ((wrap64 ((rd l0 0) * (rd l1 0))) - (wrap64 ((rd l0 1) * (rd l1 1))))) - (wrap64 ((rd l0 2) * (rd l1 2))))) - (wrap64 ((rd l0 3) * (rd l1 3)))))] from rfl) (Reps.one (show Kd.M (Kd.int .i64) _ _ _ (wrap64 ((wrap64 ((wrap64 ((wrap64 ((rd l0 0) * (rd l1 1))) + (wrap64 ((rd l0 1) * (rd l1 0))))) + (wrap64 ((rd l0 2) * (rd l1 3))))) - (wrap64 ((rd l0 3) * (rd l1 2))))) [.int .i64 (wrap64 ((wrap64 ((wrap64 ((wrap64 ((rd l0 0) * (rd l1 1))) + (wrap64 ((rd l0 1) * (rd l1 0))))) + (wrap64 ((rd l0 2) * (rd l1 3))))) - (wrap64 ((rd l0 3) * (rd l1 2)))))] from rfl) (Reps.one (show Kd.M (Kd.int .i64) _ _ _ (wrap64 ((wrap64 ((wrap64 ((wrap64 ((rd l0 0) * (rd l1 2))) - (wrap64 ((rd l0 1) * (rd l1 3))))) + (wrap64 ((rd l0 2) * (rd l1 0))))) + (wrap64 ((rd l0 3) * (rd l1 1))))) [.int .i64 (wrap64 ((wrap64 ((wrap64 ((wrap64 ((rd l0 0) * (rd l1 2))) - (wrap64 ((rd l0 1) * (rd l1 3))))) + (wrap64 ((rd l0 2) * (rd l1 0))))) + (wrap64 ((rd l0 3) * (rd l1 1)))))] from rfl) (Reps.one (show Kd.M (Kd.int .i64) _ _ _ (wrap64 ((wrap64 ((wrap64 ((wrap64 ((rd l0 0) * (rd l1 3))) + (wrap64 ((rd l0 1) * (rd l1 2))))) - (wrap64 ((rd l0 2) * (rd l1 1))))) + (wrap64 ((rd l0 3) * (rd l1 0))))) [.int .i64 (wrap64 ((wrap64 ((wrap64 ((wrap64 ((rd l0 0) * (rd l1 3))) + (wrap64 ((rd l0 1) * (rd l1 2))))) - (wrap64 ((rd l0 2) * (rd l1 1))))) + (wrap64 ((rd l0 3) * (rd l1 0)))))] from rfl) (Reps.none _ _)))))); intro v177 w21 ho22 hb hg_ hnew_; clear hg_ hnew_; (first | rw [← Ny176.out] at ho22 | (simp only [Int.reduceToNat] at ho22; rw [← Ny176.out] at ho22)); have n0_ := Aside0.mk (Kd.R_lower ho22 (below_size (Sqz.auHB))); have n1_ := Aside0.mk (below_step (Sqz.auHB) hb); clear HB; have HO178 := n0_; have HB := n1_; clear n0_ n1_; clear hb ho22; obtain ⟨Ao23, co23, eo23⟩ := Kd.R_slice HO178.out; subst eo23) | (go_at_call 52; (with_reducible refine (impl_QuatValid.calls kj2 _ _ y176 true _ ?side1 ?side2 A19.out).mono ?_); (case side1 => exact Sqz.mvC ((Kd.R_reads' HO178.out).2.2)); (case side2 => exact (Kd.R_reads' HO178.out).2.1); rintro e w24 ⟨rfl, hb⟩; have n0_ := Aside0.mk (Kd.R_below ((Sqz.mvR HO178.out)) hb); have n1_ := Aside0.mk (below_step (Sqz.auHB) hb); clear HO178; clear HB; have HO178 := n0_; have HB := n1_; clear n0_ n1_; (try clear hb); (try clear hb2); (try clear hk); (try clear hi))))
                          go_ret2
                          exact ⟨_, Sqz.auR, (Sqz.mvR HO178.out), Sqz.auHB⟩
                        · replace c20 := Bool.eq_false_iff.mpr c20
                          subst c20
                          have H1 : (some (([] : List Int), false)) = some (r1, r2) := by rw [if_neg (show ¬ (false = true) by decide)] at H; exact H
                          clear H
                          have H := H1
                          clear H1
                          simp only [Option.some.injEq, Prod.mk.injEq] at H
                          obtain ⟨rfl, rfl⟩ := H
                          have p168 : 0 ≤ (0 : Int) := (by omega)
                          have q168 : 0 < (l0.length : Int) := of_decide_eq_true (by first | (with_reducible assumption) | assumption)
                          obtain ⟨ad168, e168, hx168_0⟩ := Kd.at_int HR0.out 0 p168 q168
                          cases e168
                          have qi168 : (0 < l0.length) = True := eq_true (by omega)
                          (try rw [show ((0 : Int)).toNat = 0 from rfl] at hx168_0)
                          (try rw [Addr.add_zero'] at hx168_0)
                          replace hx168_0 := (HB.out.cell (World.block_lt_of_cell? w _ hx168_0)).trans hx168_0
                          replace p168 := eq_true p168
                          replace q168 := eq_true q168
                          have p169 : 0 ≤ (1 : Int) := (by omega)
                          have q169 : 1 < (l0.length : Int) := of_decide_eq_true (by first | (with_reducible assumption) | assumption)
                          obtain ⟨ad169, e169, hx169_0⟩ := Kd.at_int HR0.out 1 p169 q169
                          obtain rfl : ad168 = ad169 := (by injection e169)
                          (try simp only [show (1 : Int).toNat = 1 from rfl, Nat.reduceMul, Nat.reduceEqDiff, Go.Addr.add, ↓reduceIte] at hx169_0)
                          have qi169 : (1 < l0.length) = True := eq_true (by omega)
                          (try rw [show ((1 : Int)).toNat = 1 from rfl] at hx169_0)
                          replace hx169_0 := (HB.out.cell (World.block_lt_of_cell? w _ hx169_0)).trans hx169_0
                          replace p169 := eq_true p169
                          replace q169 := eq_true q169
                          have p170 : 0 ≤ (2 : Int) := (by omega)
                          have q170 : 2 < (l0.length : Int) := of_decide_eq_true (by first | (with_reducible assumption) | assumption)
                          obtain ⟨ad170, e170, hx170_0⟩ := Kd.at_int HR0.out 2 p170 q170
                          obtain rfl : ad168 = ad170 := (by injection e170)
                          (try simp only [show (2 : Int).toNat = 2 from rfl, Nat.reduceMul, Nat.reduceEqDiff, Go.Addr.add, ↓reduceIte] at hx170_0)
                          have qi170 : (2 < l0.length) = True := eq_true (by omega)
                          (try rw [show ((2 : Int)).toNat = 2 from rfl] at hx170_0)
                          replace hx170_0 := (HB.out.cell (World.block_lt_of_cell? w _ hx170_0)).trans hx170_0
                          replace p170 := eq_true p170
                          replace q170 := eq_true q170
                          have p171 : 0 ≤ (3 : Int) := (by omega)
                          have q171 : 3 < (l0.length : Int) := of_decide_eq_true (by first | (with_reducible assumption) | assumption)
                          obtain ⟨ad171, e171, hx171_0⟩ := Kd.at_int HR0.out 3 p171 q171
                          obtain rfl : ad168 = ad171 := (by injection e171)
                          (try simp only [show (3 : Int).toNat = 3 from rfl, Nat.reduceMul, Nat.reduceEqDiff, Go.Addr.add, ↓reduceIte] at hx171_0)
                          have qi171 : (3 < l0.length) = True := eq_true (by omega)
                          (try rw [show ((3 : Int)).toNat = 3 from rfl] at hx171_0)
                          replace hx171_0 := (HB.out.cell (World.block_lt_of_cell? w _ hx171_0)).trans hx171_0
                          replace p171 := eq_true p171
                          replace q171 := eq_true q171
                          have p172 : 0 ≤ (0 : Int) := (by omega)
                          have q172 : 0 < (l1.length : Int) := of_decide_eq_true (by first | (with_reducible assumption) | assumption)
                          obtain ⟨ad172, e172, hx172_0⟩ := Kd.at_int HR1.out 0 p172 q172
                          cases e172
                          have qi172 : (0 < l1.length) = True := eq_true (by omega)
                          (try rw [show ((0 : Int)).toNat = 0 from rfl] at hx172_0)
                          (try rw [Addr.add_zero'] at hx172_0)
                          replace hx172_0 := (HB.out.cell (World.block_lt_of_cell? w _ hx172_0)).trans hx172_0
                          replace p172 := eq_true p172
                          replace q172 := eq_true q172
                          have p173 : 0 ≤ (1 : Int) := (by omega)
                          have q173 : 1 < (l1.length : Int) := of_decide_eq_true (by first | (with_reducible assumption) | assumption)
                          obtain ⟨ad173, e173, hx173_0⟩ := Kd.at_int HR1.out 1 p173 q173
                          obtain rfl : ad172 = ad173 := (by injection e173)
                          (try simp only [show (1 : Int).toNat = 1 from rfl, Nat.reduceMul, Nat.reduceEqDiff, Go.Addr.add, ↓reduceIte] at hx173_0)
                          have qi173 : (1 < l1.length) = True := eq_true (by omega)
                          (try rw [show ((1 : Int)).toNat = 1 from rfl] at hx173_0)
                          replace hx173_0 := (HB.out.cell (World.block_lt_of_cell? w _ hx173_0)).trans hx173_0
                          replace p173 := eq_true p173
                          replace q173 := eq_true q173
                          have p174 : 0 ≤ (2 : Int) := (by omega)
                          have q174 : 2 < (l1.length : Int) := of_decide_eq_true (by first | (with_reducible assumption) | assumption)
                          obtain ⟨ad174, e174, hx174_0⟩ := Kd.at_int HR1.out 2 p174 q174
                          obtain rfl : ad172 = ad174 := (by injection e174)
                          (try simp only [show (2 : Int).toNat = 2 from rfl, Nat.reduceMul, Nat.reduceEqDiff, Go.Addr.add, ↓reduceIte] at hx174_0)
                          have qi174 : (2 < l1.length) = True := eq_true (by omega)
                          (try rw [show ((2 : Int)).toNat = 2 from rfl] at hx174_0)
                          replace hx174_0 := (HB.out.cell (World.block_lt_of_cell? w _ hx174_0)).trans hx174_0
                          replace p174 := eq_true p174
                          replace q174 := eq_true q174
                          have p175 : 0 ≤ (3 : Int) := (by omega)
                          have q175 : 3 < (l1.length : Int) := of_decide_eq_true (by first | (with_reducible assumption) | assumption)
                          obtain ⟨ad175, e175, hx175_0⟩ := Kd.at_int HR1.out 3 p175 q175
                          obtain rfl : ad172 = ad175 := (by injection e175)
                          (try simp only [show (3 : Int).toNat = 3 from rfl, Nat.reduceMul, Nat.reduceEqDiff, Go.Addr.add, ↓reduceIte] at hx175_0)
                          have qi175 : (3 < l1.length) = True := eq_true (by omega)
                          (try rw [show ((3 : Int)).toNat = 3 from rfl] at hx175_0)
                          replace hx175_0 := (HB.out.cell (World.block_lt_of_cell? w _ hx175_0)).trans hx175_0
                          replace p175 := eq_true p175
                          replace q175 := eq_true q175
                          go_wp2_with (first | ((with_reducible refine gate_dst (N := 107) rfl ?_); refine Kd.R_lit (Kd.int .i64) _ 3 ?hg (N := 107) ?hd (xs := ([wrap64 ((wrap64 ((wrap64 ((wrap64 ((rd l0 0) * (rd l1 0))) - (wrap64 ((rd l0 1) * (rd l1 1))))) - (wrap64 ((rd l0 2) * (rd l1 2))))) - (wrap64 ((rd l0 3) * (rd l1 3)))), wrap64 ((wrap64 ((wrap64 ((wrap64 ((rd l0 0) * (rd l1 1))) + (wrap64 ((rd l0 1) * (rd l1 0))))) + (wrap64 ((rd l0 2) * (rd l1 3))))) - (wrap64 ((rd l0 3) * (rd l1 2)))), wrap64 ((wrap64 ((wrap64 ((wrap64 ((rd l0 0) * (rd l1 2))) - (wrap64 ((rd l0 1) * (rd l1 3))))) + (wrap64 ((rd l0 2) * (rd l1 0))))) + (wrap64 ((rd l0 3) * (rd l1 1)))), wrap64 ((wrap64 ((wrap64 ((wrap64 ((rd l0 0) * (rd l1 3))) + (wrap64 ((rd l0 1) * (rd l1 2))))) - (wrap64 ((rd l0 2) * (rd l1 1))))) + (wrap64 ((rd l0 3) * (rd l1 0))))] : List Int)) (inner := [.int .i64 (wrap64 ((wrap64 ((wrap64 ((wrap64 ((rd l0 0) * (rd l1 0))) - (wrap64 ((rd l0 1) * (rd l1 1))))) - (wrap64 ((rd l0 2) * (rd l1 2))))) - (wrap64 ((rd l0 3) * (rd l1 3))))), .int .i64 (wrap64 ((wrap64 ((wrap64 ((wrap64 ((rd l0 0) * (rd l1 1))) + (wrap64 ((rd l0 1) * (rd l1 0))))) + (wrap64 ((rd l0 2) * (rd l1 3))))) - (wrap64 ((rd l0 3) * (rd l1 2))))), .int .i64 (wrap64 ((wrap64 ((wrap64 ((wrap64 ((rd l0 0) * (rd l1 2))) - (wrap64 ((rd l0 1) * (rd l1 3))))) + (wrap64 ((rd l0 2) * (rd l1 0))))) + (wrap64 ((rd l0 3) * (rd l1 1))))), .int .i64 (wrap64 ((wrap64 ((wrap64 ((wrap64 ((rd l0 0) * (rd l1 3))) + (wrap64 ((rd l0 1) * (rd l1 2))))) - (wrap64 ((rd l0 2) * (rd l1 1))))) + (wrap64 ((rd l0 3) * (rd l1 0)))))]) (ok := fun _ => True) (okp := fun _ => True) ?hr ?hp (fun _ hk => hk) trivial (Below.refl _ _) (Nat.le_refl _) (by simp) ?_; (case hd => rfl); (case hg => rfl); (case hr => first | (go_simp; done) | (go_simp; rfl)); (case hp => exact (Reps.one (show Kd.M (Kd.int .i64) _ _ _ (wrap64 ((wrap64 ((wrap64 ((wrap64 ((rd l0 0) * (rd l1 0))) - (wrap64 ((rd l0 1) * (rd l1 1))))) - (wrap64 ((rd l0 2) * (rd l1 2))))) - (wrap64 ((rd l0 3) * (rd l1 3))))) [.int .i64 (wrap64 ((wrap64 ((wrap64 ((wrap64 ((rd l0 0) * (rd l1 0))) - (wrap64 ((rd l0 1) * (rd l1 1))))) - (wrap64 ((rd l0 2) * (rd l1 2))))) - (wrap64 ((rd l0 3) * (rd l1 3)))))] from rfl) (Reps.one (show Kd.M (Kd.int .i64) _ _ _ (wrap64 ((wrap64 ((wrap64 ((wrap64 ((rd l0 0) * (rd l1 1))) + (wrap64 ((rd l0 1) * (rd l1 0))))) + (wrap64 ((rd l0 2) * (rd l1 3))))) - (wrap64 ((rd l0 3) * (rd l1 2))))) [.int .i64 (wrap64 ((wrap64 ((wrap64 ((wrap64 ((rd l0 0) * (rd l1 1))) + (wrap64 ((rd l0 1) * (rd l1 0))))) + (wrap64 ((rd l0 2) * (rd l1 3))))) - (wrap64 ((rd l0 3) * (rd l1 2)))))] from rfl) (Reps.one (show Kd.M (Kd.int .i64) _ _ _ (wrap64 ((wrap64 ((wrap64 ((wrap64 ((rd l0 0) * (rd l1 2))) - (wrap64 ((rd l0 1) * (rd l1 3))))) + (wrap64 ((rd l0 2) * (rd l1 0))))) + (wrap64 ((rd l0 3) * (rd l1 1))))) [.int .i64 (wrap64 ((wrap64 ((wrap64 ((wrap64 ((rd l0 0) * (rd l1 2))) - (wrap64 ((rd l0 1) * (rd l1 3))))) + (wrap64 ((rd l0 2) * (rd l1 0))))) + (wrap64 ((rd l0 3) * (rd l1 1)))))] from rfl) (Reps.one (show Kd.M (Kd.int .i64) _ _ _ (wrap64 ((wrap64 ((wrap64 ((wrap64 ((rd l0 0) * (rd l1 3))) + (wrap64 ((rd l0 1) * (rd l1 2))))) - (wrap64 ((rd l0 2) * (rd l1 1))))) + (wrap64 ((rd l0 3) * (rd l1 0))))) [.int .i64 (wrap64 ((wrap64 ((wrap64 ((wrap64 ((rd l0 0) * (rd l1 3))) + (wrap64 ((rd l0 1) * (rd l1 2))))) - (wrap64 ((rd l0 2) * (rd l1 1))))) + (wrap64 ((rd l0 3) * (rd l1 0)))))] from rfl) (Reps.none _ _)))))); intro v177 w25 ho26 hb hg_ hnew_; clear hg_ hnew_; (first | rw [← Ny176.out] at ho26 | (simp only [Int.reduceToNat] at ho26; rw [← Ny176.out] at ho26)); have n0_ := Aside0.mk (Kd.R_lower ho26 (below_size (Sqz.auHB))); have n1_ := Aside0.mk (below_step (Sqz.auHB) hb); clear HB; have HO178 := n0_; have HB := n1_; clear n0_ n1_; clear hb ho26; obtain ⟨Ao27, co27, eo27⟩ := Kd.R_slice HO178.out; subst eo27) | (go_at_call 52; (with_reducible refine (impl_QuatValid.calls kj2 _ _ y176 false _ ?side1 ?side2 A19.out).mono ?_); (case side1 => exact Sqz.mvC ((Kd.R_reads' HO178.out).2.2)); (case side2 => exact (Kd.R_reads' HO178.out).2.1); rintro e w28 ⟨rfl, hb⟩; have n0_ := Aside0.mk (Kd.R_below ((Sqz.mvR HO178.out)) hb); have n1_ := Aside0.mk (below_step (Sqz.auHB) hb); clear HO178; clear HB; have HO178 := n0_; have HB := n1_; clear n0_ n1_; (try clear hb); (try clear hb2); (try clear hk); (try clear hi)))
                          repeat (go_quiet (first | ((with_reducible refine gate_dst (N := 107) rfl ?_); refine Kd.R_lit (Kd.int .i64) _ 3 ?hg (N := 107) ?hd (xs := ([wrap64 ((wrap64 ((wrap64 ((wrap64 ((rd l0 0) * (rd l1 0))) - (wrap64 ((rd l0 1) * (rd l1 1))))) - (wrap64 ((rd l0 2) * (rd l1 2))))) - (wrap64 ((rd l0 3) * (rd l1 3)))), wrap64 ((wrap64 ((wrap64 ((wrap64 ((rd l0 0) * (rd l1 1))) + (wrap64 ((rd l0 1) * (rd l1 0))))) + (wrap64 ((rd l0 2) * (rd l1 3))))) - (wrap64 ((rd l0 3) * (rd l1 2)))), wrap64 ((wrap64 ((wrap64 ((wrap64 ((rd l0 0) * (rd l1 2))) - (wrap64 ((rd l0 1) * (rd l1 3))))) + (wrap64 ((rd l0 2) * (rd l1 0))))) + (wrap64 ((rd l0 3) * (rd l1 1)))), wrap64 ((wrap64 ((wrap64 ((wrap64 ((rd l0 0) * (rd l1 3))) + (wrap64 ((rd l0 1) * (rd l1 2))))) - (wrap64 ((rd l0 2) * (rd l1 1))))) + (wrap64 ((rd l0 3) * (rd l1 0))))] : List Int)) (inner := [.int .i64 (wrap64 ((wrap64 ((wrap64 ((wrap64 ((rd l0 0) * (rd l1 0))) - (wrap64 ((rd l0 1) * (rd l1 1))))) - (wrap64 ((rd l0 2) * (rd l1 2))))) - (wrap64 ((rd l0 3) * (rd l1 3))))), .int .i64 (wrap64 ((wrap64 ((wrap64 ((wrap64 ((rd l0 0) * (rd l1 1))) + (wrap64 ((rd l0 1) * (rd l1 0))))) + (wrap64 ((rd l0 2) * (rd l1 3))))) - (wrap64 ((rd l0 3) * (rd l1 2))))), .int .i64 (wrap64 ((wrap64 ((wrap64 ((wrap64 ((rd l0 0) * (rd l1 2))) - (wrap64 ((rd l0 1) * (rd l1 3))))) + (wrap64 ((rd l0 2) * (rd l1 0))))) + (wrap64 ((rd l0 3) * (rd l1 1))))), .int .i64 (wrap64 ((wrap64 ((wrap64 ((wrap64 ((rd l0 0) * (rd l1 3))) + (wrap64 ((rd l0 1) * (rd l1 2))))) - (wrap64 ((rd l0 2) * (rd l1 1))))) + (wrap64 ((rd l0 3) * (rd l1 0)))))]) (ok := fun _ => True) (okp := fun _ => True) ?hr ?hp (fun _ hk => hk) trivial (Below.refl _ _) (Nat.le_refl _) (by simp) ?_; (case hd => rfl); (case hg => rfl); (case hr => first | (go_simp; done) | (go_simp; rfl)); (case hp => exact (Reps.one (show Kd.M (Kd.int .i64) _ _ _ (wrap64 ((wrap64 ((wrap64 ((wrap64 ((rd l0 0) * (rd l1 0))) - (wrap64 ((rd l0 1) * (rd l1 1))))) - (wrap64 ((rd l0 2) * (rd l1 2))))) - (wrap64 ((rd l0 3) * (rd l1 3))))) [.int .i64 (wrap64 ((wrap64 ((wrap64 ((wrap64 ((rd l0 0) * (rd l1 0))) - (wrap64 ((rd l0 1) * (rd l1 1))))) - (wrap64 ((rd l0 2) * (rd l1 2))))) - (wrap64 ((rd l0 3) * (rd l1 3)))))] from rfl) (Reps.one (show Kd.M (Kd.int .i64) _ _ _ (wrap64 ((wrap64 ((wrap64 ((wrap64 ((rd l0 0) * (rd l1 1))) + (wrap64 ((rd l0 1) * (rd l1 0))))) + (wrap64 ((rd l0 2) * (rd l1 3))))) - (wrap64 ((rd l0 3) * (rd l1 2))))) [.int .i64 (wrap64 ((wrap64 ((wrap64 ((wrap64 ((rd l0 0) * (rd l1 1))) + (wrap64 ((rd l0 1) * (rd l1 0))))) + (wrap64 ((rd l0 2) * (rd l1 3))))) - (wrap64 ((rd l0 3) * (rd l1 2)))))] from rfl) (Reps.one (show Kd.M (Kd.int .i64) _ _ _ (wrap64 ((wrap64 ((wrap64 ((wrap64 ((rd l0 0) * (rd l1 2))) - (wrap64 ((rd l0 1) * (rd l1 3))))) + (wrap64 ((rd l0 2) * (rd l1 0))))) + (wrap64 ((rd l0 3) * (rd l1 1))))) [.int .i64 (wrap64 ((wrap64 ((wrap64 ((wrap64 ((rd l0 0) * (rd l1 2))) - (wrap64 ((rd l0 1) * (rd l1 3))))) + (wrap64 ((rd l0 2) * (rd l1 0))))) + (wrap64 ((rd l0 3) * (rd l1 1)))))] from rfl) (Reps.one (show Kd.M (Kd.int .i64) _ _ _ (wrap64 ((wrap64 ((wrap64 ((wrap64 ((rd l0 0) * (rd l1 3))) + (wrap64 ((rd l0 1) * (rd l1 2))))) - (wrap64 ((rd l0 2) * (rd l1 1))))) + (wrap64 ((rd l0 3) * (rd l1 0))))) [.int .i64 (wrap64 ((wrap64 ((wrap64 ((wrap64 ((rd l0 0) * (rd l1 3))) + (wrap64 ((rd l0 1) * (rd l1 2))))) - (wrap64 ((rd l0 2) * (rd l1 1))))) + (wrap64 ((rd l0 3) * (rd l1 0)))))] from rfl) (Reps.none _ _)))))); intro v177 w25 ho26 hb hg_ hnew_; clear hg_ hnew_; (first | rw [← Ny176.out] at ho26 | (simp only [Int.reduceToNat] at ho26; rw [← Ny176.out] at ho26)); have n0_ := Aside0.mk (Kd.R_lower ho26 (below_size (Sqz.auHB))); have n1_ := Aside0.mk (below_step (Sqz.auHB) hb); clear HB; have HO178 := n0_; have HB := n1_; clear n0_ n1_; clear hb ho26; obtain ⟨Ao27, co27, eo27⟩ := Kd.R_slice HO178.out; subst eo27) | (go_at_call 52; (with_reducible refine (impl_QuatValid.calls kj2 _ _ y176 false _ ?side1 ?side2 A19.out).mono ?_); (case side1 => exact Sqz.mvC ((Kd.R_reads' HO178.out).2.2)); (case side2 => exact (Kd.R_reads' HO178.out).2.1); rintro e w28 ⟨rfl, hb⟩; have n0_ := Aside0.mk (Kd.R_below ((Sqz.mvR HO178.out)) hb); have n1_ := Aside0.mk (below_step (Sqz.auHB) hb); clear HO178; clear HB; have HO178 := n0_; have HB := n1_; clear n0_ n1_; (try clear hb); (try clear hb2); (try clear hk); (try clear hi))); try go_wp2_with (first | ((with_reducible refine gate_dst (N := 107) rfl ?_); refine Kd.R_lit (Kd.int .i64) _ 3 ?hg (N := 107) ?hd (xs := ([wrap64 ((wrap64 ((wrap64 ((wrap64 ((rd l0 0) * (rd l1 0))) - (wrap64 ((rd l0 1) * (rd l1 1))))) - (wrap64 ((rd l0 2) * (rd l1 2))))) - (wrap64 ((rd l0 3) * (rd l1 3)))), wrap64 ((wrap64 ((wrap64 ((wrap64 ((rd l0 0) * (rd l1 1))) + (wrap64 ((rd l0 1) * (rd l1 0))))) + (wrap64 ((rd l0 2) * (rd l1 3))))) - (wrap64 ((rd l0 3) * (rd l1 2)))), wrap64 ((wrap64 ((wrap64 ((wrap64 ((rd l0 0) * (rd l1 2))) - (wrap64 ((rd l0 1) * (rd l1 3))))) + (wrap64 ((rd l0 2) * (rd l1 0))))) + (wrap64 ((rd l0 3) * (rd l1 1)))), wrap64 ((wrap64 ((wrap64 ((wrap64 ((rd l0 0) * (rd l1 3))) + (wrap64 ((rd l0 1) * (rd l1 2))))) - (wrap64 ((rd l0 2) * (rd l1 1))))) + (wrap64 ((rd l0 3) * (rd l1 0))))] : List Int)) (inner := [.int .i64 (wrap64 ((wrap64 ((wrap64 ((wrap64 ((rd l0 0) * (rd l1 0))) - (wrap64 ((rd l0 1) * (rd l1 1))))) - (wrap64 ((rd l0 2) * (rd l1 2))))) - (wrap64 ((rd l0 3) * (rd l1 3))))), .int .i64 (wrap64 ((wrap64 ((wrap64 ((wrap64 ((rd l0 0) * (rd l1 1))) + (wrap64 ((rd l0 1) * (rd l1 0))))) + (wrap64 ((rd l0 2) * (rd l1 3))))) - (wrap64 ((rd l0 3) * (rd l1 2))))), .int .i64 (wrap64 ((wrap64 ((wrap64 ((wrap64 ((rd l0 0) * (rd l1 2))) - (wrap64 ((rd l0 1) * (rd l1 3))))) + (wrap64 ((rd l0 2) * (rd l1 0))))) + (wrap64 ((rd l0 3) * (rd l1 1))))), .int .i64 (wrap64 ((wrap64 ((wrap64 ((wrap64 ((rd l0 0) * (rd l1 3))) + (wrap64 ((rd l0 1) * (rd l1 2))))) - (wrap64 ((rd l0 2) * (rd l1 1))))) + (wrap64 ((rd l0 3) * (rd l1 0)))))]) (ok := fun _ => True) (okp := fun _ => True) ?hr ?hp (fun _ hk => hk) trivial (Below.refl _ _) (Nat.le_refl _) (by simp) ?_; (case hd => rfl); (case hg => rfl); (case hr => first | (go_simp; done) | (go_simp; rfl)); (case hp => exact (Reps.one (show Kd.M (Kd.int .i64) _ _ _ (wrap64 ((wrap64 ((wrap64 ((wrap64 ((rd l0 0) * (rd l1 0))) - (wrap64 ((rd l0 1) * (rd l1 1))))) - (wrap64 ((rd l0 2) * (rd l1 2))))) - (wrap64 ((rd l0 3) * (rd l1 3))))) [.int .i64 (wrap64 ((wrap64 ((wrap64 ((wrap64 ((rd l0 0) * (rd l1 0))) - (wrap64 ((rd l0 1) * (rd l1 1))))) - (wrap64 ((rd l0 2) * (rd l1 2))))) - (wrap64 ((rd l0 3) * (rd l1 3)))))] from rfl) (Reps.one (show Kd.M (Kd.int .i64) _ _ _ (wrap64 ((wrap64 ((wrap64 ((wrap64 ((rd l0 0) * (rd l1 1))) + (wrap64 ((rd l0 1) * (rd l1 0))))) + (wrap64 ((rd l0 2) * (rd l1 3))))) - (wrap64 ((rd l0 3) * (rd l1 2))))) [.int .i64 (wrap64 ((wrap64 ((wrap64 ((wrap64 ((rd l0 0) * (rd l1 1))) + (wrap64 ((rd l0 1) * (rd l1 0))))) + (wrap64 ((rd l0 2) * (rd l1 3))))) - (wrap64 ((rd l0 3) * (rd l1 2)))))] from rfl) (Reps.one (show Kd.M (Kd.int .i64) _ _ _ (wrap64 ((wrap64 ((wrap64 ((wrap64 ((rd l0 0) * (rd l1 2))) - (wrap64 ((rd l0 1) * (rd l1 3))))) + (wrap64 ((rd l0 2) * (rd l1 0))))) + (wrap64 ((rd l0 3) * (rd l1 1))))) [.int .i64 (wrap64 ((wrap64 ((wrap64 ((wrap64 ((rd l0 0) * (rd l1 2))) - (wrap64 ((rd l0 1) * (rd l1 3))))) + (wrap64 ((rd l0 2) * (rd l1 0))))) + (wrap64 ((rd l0 3) * (rd l1 1)))))] from rfl) (Reps.one (show Kd.M (Kd.int .i64) _ _ _ (wrap64 ((wrap64 ((wrap64 ((wrap64 ((rd l0 0) * (rd l1 3))) + (wrap64 ((rd l0 1) * (rd l1 2))))) - (wrap64 ((rd l0 2) * (rd l1 1))))) + (wrap64 ((rd l0 3) * (rd l1 0))))) [.int .i64 (wrap64 ((wrap64 ((wrap64 ((wrap64 ((rd l0 0) * (rd l1 3))) + (wrap64 ((rd l0 1) * (rd l1 2))))) - (wrap64 ((rd l0 2) * (rd l1 1))))) + (wrap64 ((rd l0 3) * (rd l1 0)))))] from rfl) (Reps.none _ _)))))); intro v177 w25 ho26 hb hg_ hnew_; clear hg_ hnew_; (first | rw [← Ny176.out] at ho26 | (simp only [Int.reduceToNat] at ho26; rw [← Ny176.out] at ho26)); have n0_ := Aside0.mk (Kd.R_lower ho26 (below_size (Sqz.auHB))); have n1_ := Aside0.mk (below_step (Sqz.auHB) hb); clear HB; have HO178 := n0_; have HB := n1_; clear n0_ n1_; clear hb ho26; obtain ⟨Ao27, co27, eo27⟩ := Kd.R_slice HO178.out; subst eo27) | (go_at_call 52; (with_reducible refine (impl_QuatValid.calls kj2 _ _ y176 false _ ?side1 ?side2 A19.out).mono ?_); (case side1 => exact Sqz.mvC ((Kd.R_reads' HO178.out).2.2)); (case side2 => exact (Kd.R_reads' HO178.out).2.1); rintro e w28 ⟨rfl, hb⟩; have n0_ := Aside0.mk (Kd.R_below ((Sqz.mvR HO178.out)) hb); have n1_ := Aside0.mk (below_step (Sqz.auHB) hb); clear HO178; clear HB; have HO178 := n0_; have HB := n1_; clear n0_ n1_; (try clear hb); (try clear hb2); (try clear hk); (try clear hi))))
                          go_ret2
                          exact ⟨_, Sqz.auR, by first | exact Kd.R_nil _ _ _ _ _ | exact Kd.N_nil _ _ _ _ _ | exact Kd.V_nil _ _ _ _ _ | exact Kd.Q_nil _ _ _ _ _ | exact Kd.S_nil _ _ _ _ _, Sqz.auHB⟩
                      · rw [if_neg c18] at H
                        exact absurd H (by simp)
                    · rw [if_neg c17] at H
                      exact absurd H (by simp)
                  · rw [if_neg c16] at H
                    exact absurd H (by simp)
                · rw [if_neg c15] at H
                  exact absurd H (by simp)
              · rw [if_neg c14] at H
                exact absurd H (by simp)
            · rw [if_neg c13] at H
              exact absurd H (by simp)
          · rw [if_neg c12] at H
            exact absurd H (by simp)
        · rw [if_neg c11] at H
          exact absurd H (by simp)

/-! ### impl_vectorOk: function 63 -/
def impl_vectorOk.l0 : Nat → List Int → List Int → Int → List Int → Int → Int → Option (Bool)
  | 0, _, _, _, _, _, _ => none
  | k + 1, x0, x1, x2, x9, x10, x11 => if x11 < x10 then (if 0 ≤ x11 then (if x11 < (x9.length : Int) then (if (rd x9 x11) < (wrap64 (-x2)) then (some false) else (if (rd x9 x11) > x2 then (some false) else (impl_vectorOk.l0 k x0 x1 x2 x9 x10 (wrap64 (x11 + 1))))) else (none)) else (none)) else (some ((x1.length : Int) == (x0.length : Int)))
def impl_vectorOk.f (k : Nat) (l0 : List Int) (l1 : List Int) (a2 : Int) : Option (Bool) := impl_vectorOk.l0 k l0 l1 a2 l1 (l1.length : Int) 0
set_option maxHeartbeats 8000000 in
set_option maxRecDepth 100000 in
theorem impl_vectorOk.calls (k : Nat) (A0 : Option Addr) (c0 : Nat) (l0 : List Int) (A1 : Option Addr) (c1 : Nat) (l1 : List Int) (a2 : Int) (r : Bool) (w : World) (hr0 : Kd.C (Kd.int .i64) w A0 l0.length l0) (hc0 : l0.length ≤ c0) (hr1 : Kd.C (Kd.int .i64) w A1 l1.length l1) (hc1 : l1.length ≤ c1) (h : impl_vectorOk.f k l0 l1 a2 = some r) :
    Calls Try.prog 63 #[.slice A0 l0.length c0, .slice A1 l1.length c1, .int .i64 a2] w fun e w' => e = .returned (.bool r) ∧ Drawn0 w w' := by
  have HR0 := Aside0.mk hr0
  have HC0 := Aside0.mk hc0
  clear hr0 hc0
  have HR1 := Aside0.mk hr1
  have HC1 := Aside0.mk hc1
  clear hr1 hc1
  have H : (impl_vectorOk.l0 k l0 l1 a2 l1 (l1.length : Int) 0) = some r := h
  clear h
  have H' := Aside0.mk H
  clear H
  go_enter Try.func63, Try.ntmps63
  go_wp2
  go_loopg [11] k (fun kq v11 w' => ∃ (x11_1 : Int), v11 = .int .i64 x11_1 ∧ Aside0 (impl_vectorOk.l0 kq l0 l1 a2 l1 (l1.length : Int) x11_1 = some r) ∧ Aside0 (kq ≤ k) ∧ Drawn0 w w')
  case atStart => exact ⟨(0), Sqz.auS, H', ⟨Nat.le_refl _⟩, by repeat (first | exact Drawn0.refl _ | apply Drawn0.step)⟩
  case round =>
    clear H'
    try clear c1
    try clear p2
    obtain ⟨x11_1, rfl, HA, HK1, ⟨m1, rfl⟩⟩ := hrel
    cases gk with
    | zero => exact absurd HA.out (by simp [impl_vectorOk.l0])
    | succ k1 =>
      have H := HA.out
      clear HA
      simp only [impl_vectorOk.l0] at H
      by_cases c4 : x11_1 < (l1.length : Int)
      · rw [if_pos c4] at H
        have c4b0 : decide (x11_1 < (l1.length : Int)) = true := decide_eq_true c4
        clear c4
        by_cases c5 : 0 ≤ x11_1
        · rw [if_pos c5] at H
          have c5b0 : decide (0 ≤ x11_1) = true := decide_eq_true c5
          clear c5
          by_cases c6 : x11_1 < (l1.length : Int)
          · rw [if_pos c6] at H
            have c6b0 : decide (x11_1 < (l1.length : Int)) = true := decide_eq_true c6
            clear c6
            by_cases c7 : (rd l1 x11_1) < (wrap64 (-a2))
            · rw [if_pos c7] at H
              have c7b0 : decide ((rd l1 x11_1) < (wrap64 (-a2))) = true := decide_eq_true c7
              clear c7
              obtain rfl := Option.some.inj H
              have p180 : 0 ≤ (x11_1 : Int) := of_decide_eq_true (by first | (with_reducible assumption) | assumption)
              have q180 : x11_1 < (l1.length : Int) := of_decide_eq_true (by first | (with_reducible assumption) | assumption)
              obtain ⟨ad180, e180, hx180_0⟩ := Kd.at_int HR1.out x11_1 p180 q180
              cases e180
              replace p180 := eq_true p180
              replace q180 := eq_true q180
              go_wp2
              go_ret
              exact ⟨Sqz.auS, by repeat (first | exact Drawn0.refl _ | apply Drawn0.step)⟩
            · rw [if_neg c7] at H
              have c7b0 : decide ((rd l1 x11_1) < (wrap64 (-a2))) = false := decide_eq_false c7
              clear c7
              by_cases c8 : (rd l1 x11_1) > a2
              · rw [if_pos c8] at H
                have c8b0 : decide (a2 < (rd l1 x11_1)) = true := decide_eq_true c8
                clear c8
                obtain rfl := Option.some.inj H
                have p180 : 0 ≤ (x11_1 : Int) := of_decide_eq_true (by first | (with_reducible assumption) | assumption)
                have q180 : x11_1 < (l1.length : Int) := of_decide_eq_true (by first | (with_reducible assumption) | assumption)
                obtain ⟨ad180, e180, hx180_0⟩ := Kd.at_int HR1.out x11_1 p180 q180
                cases e180
                replace p180 := eq_true p180
                replace q180 := eq_true q180
                go_wp2
                go_ret
                exact ⟨Sqz.auS, by repeat (first | exact Drawn0.refl _ | apply Drawn0.step)⟩
              · rw [if_neg c8] at H
                have c8b0 : decide (a2 < (rd l1 x11_1)) = false := decide_eq_false c8
                clear c8
                have H' := Aside0.mk H
                clear H
                have p180 : 0 ≤ (x11_1 : Int) := of_decide_eq_true (by first | (with_reducible assumption) | assumption)
                have q180 : x11_1 < (l1.length : Int) := of_decide_eq_true (by first | (with_reducible assumption) | assumption)
                obtain ⟨ad180, e180, hx180_0⟩ := Kd.at_int HR1.out x11_1 p180 q180
                cases e180
                replace p180 := eq_true p180
                replace q180 := eq_true q180
                go_wp2
                go_roundg k1
                case measure => have := HK1.out; omega
                case rel => exact ⟨(wrap64 (x11_1 + 1)), Sqz.auS, H', ⟨by have := HK1.out; omega⟩, by repeat (first | exact Drawn0.refl _ | apply Drawn0.step)⟩
          · rw [if_neg c6] at H
            exact absurd H (by simp)
        · rw [if_neg c5] at H
          exact absurd H (by simp)
      · rw [if_neg c4] at H
        have c4b0 : decide (x11_1 < (l1.length : Int)) = false := decide_eq_false c4
        clear c4
        obtain rfl := Option.some.inj H
        go_wp2
        go_ret
        exact ⟨Sqz.auS, by repeat (first | exact Drawn0.refl _ | apply Drawn0.step)⟩

/-! ### slices_Clone_int_int: function 64 -/
section
open Locg
theorem cloneInfo : (Try.prog.info? 3).map (fun i => (i.zero, i.size, i.bytes)) = some (some (.int .i64 0), 1, 8) := by kernel_rfl
def slices_Clone_int_int.f (l0 : List Int) : Option (List Int) := if l0.length ≤ 17592186044416 then some l0 else none
set_option maxHeartbeats 4000000 in
set_option maxRecDepth 100000 in
theorem slices_Clone_int_int.calls (A0 : Option Addr) (c0 : Nat) (l0 : List Int) (r : List Int) (w : World) (hr0 : Kd.C (Kd.int .i64) w A0 l0.length l0) (hc0 : l0.length ≤ c0) (h : slices_Clone_int_int.f l0 = some r) :
    Calls Try.prog 64 #[.slice A0 l0.length c0] w fun e w' => ∃ v0_ : Value, e = .returned (v0_) ∧ Kd.R (Kd.int .i64) 3 w' w.heap.size (fun _ => True) v0_ r ∧ Below w.heap.size w w' := by
  unfold slices_Clone_int_int.f at h
  by_cases hl : l0.length ≤ 17592186044416
  · rw [if_pos hl] at h
    injection h with h
    subst h
    have hR : ReadsInt w .i64 A0 l0.length l0 := Kd.reads_of_C (enc := Value.int .i64) (d := (0 : Int)) (h1 := fun _ => rfl) hr0
    rcases A0 with _ | ad
    · obtain rfl : l0 = [] := by
        rcases Nat.eq_zero_or_pos l0.length with h0 | h0
        · exact List.eq_nil_of_length_eq_zero h0
        · obtain ⟨ad, he, _⟩ := hR.2.2 h0; cases he
      clear hR hr0 hl
      have he := fun W => Lib.run_eql_slice_nil (P := Try.prog) W 26 3 none (List.length ([] : List Int)) c0 0 0 Try.underlying26
      simp only [List.length_nil] at he ⊢
      go_enter Try.func64, Try.ntmps64
      go_wp2
      go_ret
      exact ⟨_, rfl, Kd.R_nil _ _ _ _ _, Below.refl _ _⟩
    · have he := fun W => Lib.run_eql_slice_nil (P := Try.prog) W 26 3 (some ad) l0.length c0 0 0 Try.underlying26
      have HR := Lib.hid hR
      have HL := Lib.hid hl
      clear hR hr0 hl
      go_enter Try.func64, Try.ntmps64
      go_wp2_with (at_builtin; refine print_append_row (w0 := w) w.heap.size rfl (.tmp 5) (.tmp 6) 26 3 .i64 8 rfl Try.underlying26 cloneInfo (by decide) (.slice (some ⟨w.heap.size, 0, none⟩) 0 0) [] l0 (some ad) l0.length c0 rfl rfl (own_lit w w.heap.size 3 .i64 [] (Nat.le_refl _) (by simp)) (HR.out.below (below_alloc (Below.refl _ _) _)) (below_alloc (Below.refl _ _) _) (by simp) (by have := HL.out; simp; omega) ?_; intro v1 w1 hown1 hB1 hg1 hat1; clear hat1; obtain ⟨A1, k1, rfl⟩ := own_slice hown1)
      go_ret
      exact ⟨_, rfl, Kd.R_of_own hown1 (fun _ _ => trivial), hB1⟩
  · rw [if_neg hl] at h; cases h

end

end Go.Proofs.Ytfhehcgefbknbaa.PFnTurn
