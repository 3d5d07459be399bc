/- A function's Lean twin and its walk, written by a program of this session. -/
import Derived.Test.YtacfcoilmdhgnaaGreatDoorTPFnExecuteValuex0
import Derived.Test.YtacfcoilmdhgnaaGreatDoorTPFnExecuteValuex1
import Derived.Test.YtacfcoilmdhgnaaGreatDoorTPFnExecuteValuex2
import Derived.Test.YtacfcoilmdhgnaaGreatDoorTPFnExecuteValuex3
namespace Go.Proofs.YtacfcoilmdhgnaaGreatDoor.PFnExecuteValue
open Go.RowKit Go.Proofs.YtacfcoilmdhgnaaGreatDoorW.PrintWords Go.Proofs.YtacfcoilmdhgnaaGreatDoorW.PrintLast Go.Proofs.YtacfcoilmdhgnaaGreatDoorW.PrintMore
attribute [local go_sem] max2_int min2_int max_two min_two max_three min_three max_four min_four   -- for this text's walks alone
set_option linter.unusedVariables false
set_option linter.unusedSimpArgs false

/-! ### impl_ZeroSearch: function 79 -/
mutual
def impl_ZeroSearch.l0 : Nat → List Int → List Int → Int → Int → Option (List Int × Bool)
 | 0, _, _, _, _ => none
 | k + 1, x0, x22, x23, x24 => if x24 < x23 then (if 0 ≤ x24 then (if x24 < (x22.length : Int) then (if (rd x22 x24) = 0 then (impl_ZeroSearch.j1 k x0 (rd x22 x24) x22 x23 x24 true) else ((impl_size.f (rd x22 x24)).bind fun t166 => (impl_ZeroSearch.j1 k x0 (rd x22 x24) x22 x23 x24 (decide (t166 > 30000))))) else (none)) else (none)) else ((impl_sharedPrime.f k x0).bind fun bt169 => (if bt169.2.2 = 0 then ((impl_product.f k x0).bind fun t172 => ((impl_size.f t172).bind fun t173 => (impl_ZeroSearch.j2 k x0 (decide (t173 > 30000))))) else (impl_ZeroSearch.j2 k x0 true)))
def impl_ZeroSearch.j1 : Nat → List Int → Int → List Int → Int → Int → Bool → Option (List Int × Bool)
 | 0, _, _, _, _, _, _ => none
 | k + 1, x0, x5, x22, x23, x24, x34 => if x34 = true then (some (([] : List Int), false)) else ((impl_coreOf.f k x5).bind fun bt167 => (if bt167.2 = 1 then (impl_ZeroSearch.l0 k x0 x22 x23 (wrap64 (x24 + 1))) else (some (([] : List Int), false))))
def impl_ZeroSearch.j2 : Nat → List Int → Bool → Option (List Int × Bool)
 | 0, _, _ => none
 | k + 1, x0, x56 => if x56 = true then (some (([] : List Int), false)) else (if 0 < (x0.length : Int) then (if 1 < (x0.length : Int) then (if 2 < (x0.length : Int) then (impl_ZeroSearch.l1 k (rd x0 0) (rd x0 1) (rd x0 2) 0) else (none)) else (none)) else (none))
def impl_ZeroSearch.l1 : Nat → Int → Int → Int → Int → Option (List Int × Bool)
 | 0, _, _, _, _ => none
 | k + 1, x11, x12, x13, x14 => (impl_size.f (wrap64 (x12 * x13))).bind fun t177 => (if (wrap64 (x14 * x14)) ≤ t177 then (impl_ZeroSearch.l2 k x11 x12 x13 x14 0) else (some (([] : List Int), false)))
def impl_ZeroSearch.l2 : Nat → Int → Int → Int → Int → Int → Option (List Int × Bool)
 | 0, _, _, _, _, _ => none
 | k + 1, x11, x12, x13, x14, x15 => (impl_size.f (wrap64 (x11 * x13))).bind fun t178 => (if (wrap64 (x15 * x15)) ≤ t178 then (if x13 = 0 then (none) else (if (Int.tmod (wrap64 ((wrap64 ((wrap64 ((wrap64 (-x11)) * x14)) * x14)) - (wrap64 ((wrap64 (x12 * x15)) * x15)))) x13) = 0 then ((impl_squareRoot.f k (wrap64 (Int.tdiv (wrap64 ((wrap64 ((wrap64 ((wrap64 (-x11)) * x14)) * x14)) - (wrap64 ((wrap64 (x12 * x15)) * x15)))) x13))).bind fun bt179 => (if bt179.2 = true then (if x14 = 0 then (if x15 = 0 then (if bt179.1 = 0 then (impl_ZeroSearch.l2 k x11 x12 x13 x14 (wrap64 (x15 + 1))) else (some ((([x14, x15, bt179.1] : List Int)), true))) else (some ((([x14, x15, bt179.1] : List Int)), true))) else (some ((([x14, x15, bt179.1] : List Int)), true))) else (impl_ZeroSearch.l2 k x11 x12 x13 x14 (wrap64 (x15 + 1))))) else (impl_ZeroSearch.l2 k x11 x12 x13 x14 (wrap64 (x15 + 1))))) else (impl_ZeroSearch.l1 k x11 x12 x13 (wrap64 (x14 + 1))))
end
def impl_ZeroSearch.f (k : Nat) (l0 : List Int) : Option (List Int × Bool) := if (l0.length : Int) = 3 then (impl_ZeroSearch.l0 k l0 l0 (l0.length : Int) 0) else (some (([] : List Int), false))
set_option maxHeartbeats 8000000 in
set_option maxRecDepth 100000 in
theorem impl_ZeroSearch.calls (k : Nat) (A0 : Option Addr) (c0 : Nat) (l0 : List Int) (r1 : List Int) (r2 : Bool) (w : World) (hr0 : Kd.C (Kd.int .i64) w A0 l0.length l0) (hc0 : l0.length ≤ c0) (h : impl_ZeroSearch.f k l0 = some (r1, r2)) :
  Calls Tryz.prog 79 #[.slice A0 l0.length c0] w fun e w' => ∃ v0_ : Value, e = .returned (.tuple #[v0_, .bool r2]) ∧ Kd.R (Kd.int .i64) 3 w' w.heap.size (fun _ => True) v0_ r1 ∧ Below w.heap.size w w' := by
 have HR0 := Aside0.mk hr0; have HC0 := Aside0.mk hc0; clear hr0 hc0; have HB := Aside0.mk (Below.refl w.heap.size w); have H : (if (l0.length : Int) = 3 then (impl_ZeroSearch.l0 k l0 l0 (l0.length : Int) 0) else (some (([] : List Int), false))) = some (r1, r2) := h; clear h
 by_cases c2 : (l0.length : Int) = 3
 ·rw [if_pos c2] at H; have c2b1 := bne_eq_false_iff_eq.mpr c2; clear c2; have H' := Aside0.mk H; clear H
  go_enter Tryz.func79, Tryz.ntmps79
  go_wp2
  go_loopg [24] k (fun kq v24 w' => ∃ (x24_1 : Int), v24 = .int .i64 x24_1 ∧ Aside0 (impl_ZeroSearch.l0 kq l0 l0 (l0.length : Int) x24_1 = some (r1, r2)) ∧ Aside0 (kq ≤ k) ∧ Aside0 (Below w.heap.size w w'))
  case atStart => exact ⟨(0), Sqz.auS, H', ⟨Nat.le_refl _⟩, ⟨Sqz.auHB⟩⟩
  case round =>
   clear H'
   try clear c2b1
   obtain ⟨x24_1, rfl, HA, HK1, HB⟩ := hrel; cases gk with
   | zero => exact absurd HA.out (by simp [impl_ZeroSearch.l0])
   | succ k1 =>
    have H := HA.out; clear HA; simp only [impl_ZeroSearch.l0] at H
    by_cases c3 : x24_1 < (l0.length : Int)
    ·rw [if_pos c3] at H; have c3b0 := decide_eq_true c3; clear c3
     by_cases c4 : 0 ≤ x24_1
     ·rw [if_pos c4] at H; have c4b0 := decide_eq_true c4; clear c4
      by_cases c5 : x24_1 < (l0.length : Int)
      ·rw [if_pos c5] at H; have c5b0 := decide_eq_true c5; clear c5; have HC6 := Aside0.mk H; clear H; have p165 : 0 ≤ (x24_1 : Int) := Sqz.od; have q165 : x24_1 < (l0.length : Int) := Sqz.od; obtain ⟨ad165, e165, hx165_0⟩ := Kd.at_int HR0.out x24_1 p165 q165; cases e165; replace hx165_0 := (HB.out.cell (World.block_lt_of_cell? w _ hx165_0)).trans hx165_0; replace p165 := eq_true p165; replace q165 := eq_true q165
       go_upto_region 6 with (fail)
       go_cut [34] (fun v34 wc => ∃ (kq : Nat) (x34_5 : Bool), v34 = .bool x34_5 ∧ Aside0 (impl_ZeroSearch.j1 kq l0 (rd l0 x24_1) l0 (l0.length : Int) x24_1 x34_5 = some (r1, r2)) ∧ Aside0 (kq ≤ k1) ∧ Aside0 (Below w.heap.size w wc))
       case first =>
        have H := HC6.out; clear HC6
        by_cases c7 : (rd l0 x24_1) = 0
        ·rw [if_pos c7] at H; have c7b0 := beq_iff_eq.mpr c7; clear c7
         have H' := Aside0.mk H; clear H; go_wp2
         go_meet
         case rel => exact ⟨_, (true), Sqz.auS, H', ⟨by have := HK1.out; first | omega | exact Nat.le_refl _⟩, ⟨Sqz.auHB⟩⟩
        ·rw [if_neg c7] at H; have c7b0 := beq_eq_false_iff_ne.mpr c7
         obtain ⟨t166, A8, H⟩ := Sqz.be H; have H' := Aside0.mk H; clear H
         go_wp2_with ((go_at_call 112; (with_reducible refine (impl_size.calls (rd l0 x24_1) t166 _ A8.out).mono ?_); rintro e w9 ⟨rfl, hb⟩; replace HB := Aside0.mk (below_step (Sqz.auHB) hb); (try clear hb)))
         go_meet
         case rel => exact ⟨_, (decide (t166 > 30000)), Sqz.auS, H', ⟨by have := HK1.out; first | omega | exact Nat.le_refl _⟩, ⟨Sqz.auHB⟩⟩
       case rest =>
        clear HC6
        try clear c3b0
        try clear c4b0
        try clear c5b0
        try clear hx165_0
        try clear p165
        try clear q165
        obtain ⟨kq, x34_5, rfl, HA, HJ5, HB⟩ := hcut; cases kq with
        | zero => exact absurd HA.out (by simp [impl_ZeroSearch.j1])
        | succ kj5 =>
         have H := HA.out; clear HA; simp only [impl_ZeroSearch.j1] at H
         by_cases c10 : x34_5 = true
         ·subst c10; have H1 : (some (([] : List Int), false)) = some (r1, r2) := by rw [if_pos rfl] at H; exact H
          clear H; have H := H1; clear H1; simp only [Option.some.injEq, Prod.mk.injEq] at H; obtain ⟨rfl, rfl⟩ := H; go_wp2
          go_ret2
          exact ⟨_, Sqz.auR, by first | exact Kd.R_nil _ _ _ _ _ | exact Kd.N_nil _ _ _ _ _ | exact Kd.V_nil _ _ _ _ _ | exact Kd.Q_nil _ _ _ _ _ | exact Kd.S_nil _ _ _ _ _, Sqz.auHB⟩
         ·replace c10 := Bool.eq_false_iff.mpr c10; subst c10; have H1 : ((impl_coreOf.f kj5 (rd l0 x24_1)).bind fun bt167 => (if bt167.2 = 1 then (impl_ZeroSearch.l0 kj5 l0 l0 (l0.length : Int) (wrap64 (x24_1 + 1))) else (some (([] : List Int), false)))) = some (r1, r2) := by rw [if_neg (show ¬ (false = true) by decide)] at H; exact H
          clear H; have H := H1; clear H1; replace H := Option.bind_eq_some_iff.mp H; obtain ⟨⟨t167, t168⟩, A110, H⟩ := H; replace H : (if t168 = 1 then (impl_ZeroSearch.l0 kj5 l0 l0 (l0.length : Int) (wrap64 (x24_1 + 1))) else (some (([] : List Int), false))) = some (r1, r2) := H; have A11 := Aside0.mk A110; clear A110
          by_cases c12 : t168 = 1
          ·rw [if_pos c12] at H; have c12b1 := bne_eq_false_iff_eq.mpr c12; clear c12; have H' := Aside0.mk H; clear H
           go_wp2_with ((go_at_call 61; (with_reducible refine (impl_coreOf.calls kj5 (rd l0 x24_1) t167 t168 _ A11.out).mono ?_); rintro e w13 ⟨rfl, hb⟩; replace HB := Aside0.mk (below_step (Sqz.auHB) hb); (try clear hb)))
           go_roundg kj5
           case measure => have := HK1.out; have := HJ5.out; omega
           case rel => exact ⟨(wrap64 (x24_1 + 1)), Sqz.auS, H', ⟨by have := HK1.out; have := HJ5.out; omega⟩, ⟨Sqz.auHB⟩⟩
          ·rw [if_neg c12] at H; have c12b1 := bne_iff_ne.mpr c12; simp only [Option.some.injEq, Prod.mk.injEq] at H; obtain ⟨rfl, rfl⟩ := H
           go_wp2_with ((go_at_call 61; (with_reducible refine (impl_coreOf.calls kj5 (rd l0 x24_1) t167 t168 _ A11.out).mono ?_); rintro e w14 ⟨rfl, hb⟩; replace HB := Aside0.mk (below_step (Sqz.auHB) hb); (try clear hb)))
           go_ret2
           exact ⟨_, Sqz.auR, by first | exact Kd.R_nil _ _ _ _ _ | exact Kd.N_nil _ _ _ _ _ | exact Kd.V_nil _ _ _ _ _ | exact Kd.Q_nil _ _ _ _ _ | exact Kd.S_nil _ _ _ _ _, Sqz.auHB⟩
      ·rw [if_neg c5] at H; exact absurd H (by simp)
     ·rw [if_neg c4] at H; exact absurd H (by simp)
    ·rw [if_neg c3] at H; have c3b0 := decide_eq_false c3; clear c3; replace H := Option.bind_eq_some_iff.mp H; obtain ⟨⟨t169, t170, t171⟩, A150, H⟩ := H; replace H : (if t171 = 0 then ((impl_product.f k1 l0).bind fun t172 => ((impl_size.f t172).bind fun t173 => (impl_ZeroSearch.j2 k1 l0 (decide (t173 > 30000))))) else (impl_ZeroSearch.j2 k1 l0 true)) = some (r1, r2) := H; have A15 := Aside0.mk A150; clear A150; have HC16 := Aside0.mk H; clear H
     go_upto_region 13 with ((go_at_call 135; (with_reducible refine (impl_sharedPrime.calls k1 _ _ l0 t169 t170 t171 _ ?side1 ?side2 A15.out).mono ?_); (case side1 => exact Sqz.mvC ((Kd.C_below HR0.out HB.out))); (case side2 => exact HC0.out); rintro e w17 ⟨rfl, hb⟩; replace HB := Aside0.mk (below_step (Sqz.auHB) hb); (try clear hb)))
     (try simp only [Act.put, List.setIfInBounds_toArray, List.set_cons_zero, List.set_cons_succ])
     go_cut [56] (fun v56 wc => ∃ (kq : Nat) (x56_15 : Bool), v56 = .bool x56_15 ∧ Aside0 (impl_ZeroSearch.j2 kq l0 x56_15 = some (r1, r2)) ∧ Aside0 (kq ≤ k1) ∧ Aside0 (Below w.heap.size w wc))
     case first =>
      have H := HC16.out; clear HC16
      by_cases c18 : t171 = 0
      ·rw [if_pos c18] at H; have c18b1 := bne_eq_false_iff_eq.mpr c18; clear c18
       obtain ⟨t172, A19, H⟩ := Sqz.be H; obtain ⟨t173, A20, H⟩ := Sqz.be H; have H' := Aside0.mk H; clear H
       go_wp2_with (first | (go_at_call 65; (with_reducible refine (impl_product.calls k1 _ _ l0 t172 _ ?side1 ?side2 A19.out).mono ?_); (case side1 => exact Sqz.mvC ((Kd.C_below HR0.out HB.out))); (case side2 => exact HC0.out); rintro e w' ⟨rfl, ⟨nd, rfl⟩⟩; (try first | exact ⟨rfl, _, World.drewN_drewN _ _ _⟩ | exact ⟨rfl, _, Eq.trans (World.drewN_drewN _ _ _) (congrArg (World.drewN _) (Nat.add_assoc _ _ _))⟩)) | (go_at_call 112; (with_reducible refine (impl_size.calls t172 t173 _ A20.out).mono ?_); rintro e w21 ⟨rfl, hb⟩; replace HB := Aside0.mk (below_step (Sqz.auHB) hb); (try clear hb)))
       go_meet
       case rel => exact ⟨_, (decide (t173 > 30000)), Sqz.auS, H', ⟨by have := HK1.out; first | omega | exact Nat.le_refl _⟩, ⟨Sqz.auHB⟩⟩
      ·rw [if_neg c18] at H; have c18b1 := bne_iff_ne.mpr c18
       have H' := Aside0.mk H; clear H; go_wp2
       go_meet
       case rel => exact ⟨_, (true), Sqz.auS, H', ⟨by have := HK1.out; first | omega | exact Nat.le_refl _⟩, ⟨Sqz.auHB⟩⟩
     case rest =>
      clear HC16
      try clear c3b0
      obtain ⟨kq, x56_15, rfl, HA, HJ15, HB⟩ := hcut; cases kq with
      | zero => exact absurd HA.out (by simp [impl_ZeroSearch.j2])
      | succ kj15 =>
       have H := HA.out; clear HA; simp only [impl_ZeroSearch.j2] at H
       by_cases c22 : x56_15 = true
       ·subst c22; have H1 : (some (([] : List Int), false)) = some (r1, r2) := by rw [if_pos rfl] at H; exact H
        clear H; have H := H1; clear H1; simp only [Option.some.injEq, Prod.mk.injEq] at H; obtain ⟨rfl, rfl⟩ := H; go_wp2
        go_ret2
        exact ⟨_, Sqz.auR, by first | exact Kd.R_nil _ _ _ _ _ | exact Kd.N_nil _ _ _ _ _ | exact Kd.V_nil _ _ _ _ _ | exact Kd.Q_nil _ _ _ _ _ | exact Kd.S_nil _ _ _ _ _, Sqz.auHB⟩
       ·replace c22 := Bool.eq_false_iff.mpr c22; subst c22; have H1 : (if 0 < (l0.length : Int) then (if 1 < (l0.length : Int) then (if 2 < (l0.length : Int) then (impl_ZeroSearch.l1 kj15 (rd l0 0) (rd l0 1) (rd l0 2) 0) else (none)) else (none)) else (none)) = some (r1, r2) := by rw [if_neg (show ¬ (false = true) by decide)] at H; exact H
        clear H; have H := H1; clear H1
        by_cases c23 : 0 < (l0.length : Int)
        ·rw [if_pos c23] at H; have c23b0 := decide_eq_true c23; clear c23
         by_cases c24 : 1 < (l0.length : Int)
         ·rw [if_pos c24] at H; have c24b0 := decide_eq_true c24; clear c24
          by_cases c25 : 2 < (l0.length : Int)
          ·rw [if_pos c25] at H; have c25b0 := decide_eq_true c25; clear c25; have H' := Aside0.mk H; clear H; have p174 : 0 ≤ (0 : Int) := (by omega); have q174 : 0 < (l0.length : Int) := Sqz.od; obtain ⟨ad174, e174, hx174_0⟩ := Kd.at_int HR0.out 0 p174 q174; cases e174; have qi174 : (0 < l0.length) = True := eq_true (by omega); (try rw [show ((0 : Int)).toNat = 0 from rfl] at hx174_0); (try rw [Addr.add_zero'] at hx174_0); replace hx174_0 := (HB.out.cell (World.block_lt_of_cell? w _ hx174_0)).trans hx174_0; replace p174 := eq_true p174; replace q174 := eq_true q174; have p175 : 0 ≤ (1 : Int) := (by omega); have q175 : 1 < (l0.length : Int) := Sqz.od; obtain ⟨ad175, e175, hx175_0⟩ := Kd.at_int HR0.out 1 p175 q175; obtain rfl : ad174 = ad175 := (by injection e175); (try simp only [show (1 : Int).toNat = 1 from rfl, Nat.reduceMul, Nat.reduceEqDiff, Go.Addr.add, ↓reduceIte] at hx175_0); (try rw [show ((1 : Int)).toNat = 1 from rfl] at hx175_0); replace hx175_0 := (HB.out.cell (World.block_lt_of_cell? w _ hx175_0)).trans hx175_0; replace p175 := eq_true p175; replace q175 := eq_true q175; have p176 : 0 ≤ (2 : Int) := (by omega); have q176 : 2 < (l0.length : Int) := Sqz.od; obtain ⟨ad176, e176, hx176_0⟩ := Kd.at_int HR0.out 2 p176 q176; obtain rfl : ad174 = ad176 := (by injection e176); (try simp only [show (2 : Int).toNat = 2 from rfl, Nat.reduceMul, Nat.reduceEqDiff, Go.Addr.add, ↓reduceIte] at hx176_0); (try rw [show ((2 : Int)).toNat = 2 from rfl] at hx176_0); replace hx176_0 := (HB.out.cell (World.block_lt_of_cell? w _ hx176_0)).trans hx176_0; replace p176 := eq_true p176; replace q176 := eq_true q176; go_wp2
           repeat (go_quiet (fail); try go_wp2)
           go_loopg [14] kj15 (fun kq v14 w' => ∃ (x14_3 : Int), v14 = .int .i64 x14_3 ∧ Aside0 (impl_ZeroSearch.l1 kq (rd l0 0) (rd l0 1) (rd l0 2) x14_3 = some (r1, r2)) ∧ Aside0 (kq ≤ kj15) ∧ Aside0 (Below w.heap.size w w'))
           case atStart => exact ⟨(0), Sqz.auS, H', ⟨Nat.le_refl _⟩, ⟨Sqz.auHB⟩⟩
           case round =>
            clear H'
            try clear c23b0
            try clear c24b0
            try clear c25b0
            try clear hx174_0
            try clear hx175_0
            try clear hx176_0
            try clear p174
            try clear p175
            try clear p176
            try clear q174
            try clear q175
            try clear q176
            obtain ⟨x14_3, rfl, HA, HK3, HB⟩ := hrel; cases gk with
            | zero => exact absurd HA.out (by simp [impl_ZeroSearch.l1])
            | succ k3 =>
             have H := HA.out; clear HA; simp only [impl_ZeroSearch.l1] at H; obtain ⟨t177, A26, H⟩ := Sqz.be H
             by_cases c27 : (wrap64 (x14_3 * x14_3)) ≤ t177
             ·rw [if_pos c27] at H; have c27b0 := decide_eq_true c27; clear c27; have H' := Aside0.mk H; clear H
              go_wp2_with ((go_at_call 112; (with_reducible refine (impl_size.calls (wrap64 ((rd l0 1) * (rd l0 2))) t177 _ A26.out).mono ?_); rintro e w28 ⟨rfl, hb⟩; replace HB := Aside0.mk (below_step (Sqz.auHB) hb); (try clear hb)))
              go_loopg [15] k3 (fun kq v15 w' => ∃ (x15_4 : Int), v15 = .int .i64 x15_4 ∧ Aside0 (impl_ZeroSearch.l2 kq (rd l0 0) (rd l0 1) (rd l0 2) x14_3 x15_4 = some (r1, r2)) ∧ Aside0 (kq ≤ k3) ∧ Aside0 (Below w.heap.size w w'))
              case atStart => exact ⟨(0), Sqz.auS, H', ⟨Nat.le_refl _⟩, ⟨Sqz.auHB⟩⟩
              case round =>
               clear H'
               try clear c27b0
               obtain ⟨x15_4, rfl, HA, HK4, HB⟩ := hrel; cases gk with
               | zero => exact absurd HA.out (by simp [impl_ZeroSearch.l2])
               | succ k4 =>
                have H := HA.out; clear HA; simp only [impl_ZeroSearch.l2] at H; obtain ⟨t178, A29, H⟩ := Sqz.be H
                by_cases c30 : (wrap64 (x15_4 * x15_4)) ≤ t178
                ·rw [if_pos c30] at H; have c30b0 := decide_eq_true c30; clear c30
                 by_cases c31 : (rd l0 2) = 0
                 ·rw [if_pos c31] at H; exact absurd H (by simp)
                 ·rw [if_neg c31] at H
                  by_cases c32 : (Int.tmod (wrap64 ((wrap64 ((wrap64 ((wrap64 (-(rd l0 0))) * x14_3)) * x14_3)) - (wrap64 ((wrap64 ((rd l0 1) * x15_4)) * x15_4)))) (rd l0 2)) = 0
                  ·rw [if_pos c32] at H; have c32b1 := bne_eq_false_iff_eq.mpr c32; clear c32; replace H := Option.bind_eq_some_iff.mp H; obtain ⟨⟨t179, t180⟩, A330, H⟩ := H; replace H : (if t180 = true then (if x14_3 = 0 then (if x15_4 = 0 then (if t179 = 0 then (impl_ZeroSearch.l2 k4 (rd l0 0) (rd l0 1) (rd l0 2) x14_3 (wrap64 (x15_4 + 1))) else (some ((([x14_3, x15_4, t179] : List Int)), true))) else (some ((([x14_3, x15_4, t179] : List Int)), true))) else (some ((([x14_3, x15_4, t179] : List Int)), true))) else (impl_ZeroSearch.l2 k4 (rd l0 0) (rd l0 1) (rd l0 2) x14_3 (wrap64 (x15_4 + 1)))) = some (r1, r2) := H; have A33 := Aside0.mk A330; clear A330
                   by_cases c34 : t180 = true
                   ·subst c34; have H1 : (if x14_3 = 0 then (if x15_4 = 0 then (if t179 = 0 then (impl_ZeroSearch.l2 k4 (rd l0 0) (rd l0 1) (rd l0 2) x14_3 (wrap64 (x15_4 + 1))) else (some ((([x14_3, x15_4, t179] : List Int)), true))) else (some ((([x14_3, x15_4, t179] : List Int)), true))) else (some ((([x14_3, x15_4, t179] : List Int)), true))) = some (r1, r2) := by rw [if_pos rfl] at H; exact H
                    clear H; have H := H1; clear H1
                    by_cases c35 : x14_3 = 0
                    ·rw [if_pos c35] at H; have c35b1 := bne_eq_false_iff_eq.mpr c35; clear c35
                     by_cases c36 : x15_4 = 0
                     ·rw [if_pos c36] at H; have c36b1 := bne_eq_false_iff_eq.mpr c36; clear c36
                      by_cases c37 : t179 = 0
                      ·rw [if_pos c37] at H; have c37b1 := bne_eq_false_iff_eq.mpr c37; clear c37; have H' := Aside0.mk H; clear H
                       go_wp2_with (first | (go_at_call 112; (with_reducible refine (impl_size.calls (wrap64 ((rd l0 0) * (rd l0 2))) t178 _ A29.out).mono ?_); rintro e w38 ⟨rfl, hb⟩; replace HB := Aside0.mk (below_step (Sqz.auHB) hb); (try clear hb)) | (go_at_call 110; (with_reducible refine (impl_squareRoot.calls k4 (wrap64 (Int.tdiv (wrap64 ((wrap64 ((wrap64 ((wrap64 (-(rd l0 0))) * x14_3)) * x14_3)) - (wrap64 ((wrap64 ((rd l0 1) * x15_4)) * x15_4)))) (rd l0 2))) t179 true _ A33.out).mono ?_); rintro e w' ⟨rfl, ⟨nd, rfl⟩⟩; (try first | exact ⟨rfl, _, World.drewN_drewN _ _ _⟩ | exact ⟨rfl, _, Eq.trans (World.drewN_drewN _ _ _) (congrArg (World.drewN _) (Nat.add_assoc _ _ _))⟩)))
                       go_roundg k4
                       case measure => have := HK1.out; have := HJ15.out; have := HK3.out; have := HK4.out; omega
                       case rel => exact ⟨(wrap64 (x15_4 + 1)), Sqz.auS, H', ⟨by have := HK1.out; have := HJ15.out; have := HK3.out; have := HK4.out; omega⟩, ⟨Sqz.auHB⟩⟩
                      ·rw [if_neg c37] at H; have c37b1 := bne_iff_ne.mpr c37; obtain ⟨y181, hyy⟩ : ∃ y_ : List Int, y_ = (([x14_3, x15_4, t179] : List Int)) := ⟨_, rfl⟩
                       replace H : (some (y181, true)) = some (r1, r2) := Sqz.auY
                       have Ny181 := Aside0.mk hyy; clear hyy; simp only [Option.some.injEq, Prod.mk.injEq] at H; obtain ⟨rfl, rfl⟩ := H
                       go_wp2_with (first | (go_at_call 112; (with_reducible refine (impl_size.calls (wrap64 ((rd l0 0) * (rd l0 2))) t178 _ A29.out).mono ?_); rintro e w39 ⟨rfl, hb⟩; replace HB := Aside0.mk (below_step (Sqz.auHB) hb); (try clear hb)) | (go_at_call 110; (with_reducible refine (impl_squareRoot.calls k4 (wrap64 (Int.tdiv (wrap64 ((wrap64 ((wrap64 ((wrap64 (-(rd l0 0))) * x14_3)) * x14_3)) - (wrap64 ((wrap64 ((rd l0 1) * x15_4)) * x15_4)))) (rd l0 2))) t179 true _ A33.out).mono ?_); rintro e w' ⟨rfl, ⟨nd, rfl⟩⟩; (try first | exact ⟨rfl, _, World.drewN_drewN _ _ _⟩ | exact ⟨rfl, _, Eq.trans (World.drewN_drewN _ _ _) (congrArg (World.drewN _) (Nat.add_assoc _ _ _))⟩)) | ((with_reducible refine gate_dst (N := 125) rfl ?_); refine Kd.R_lit (Kd.int .i64) _ 3 ?hg (N := 125) ?hd (xs := ([x14_3, x15_4, t179] : List Int)) (inner := [.int .i64 x14_3, .int .i64 x15_4, .int .i64 t179]) (ok := fun _ => True) (okp := fun _ => True) ?hr ?hp (fun _ hk => hk) trivial (Below.refl _ _) (Nat.le_refl _) (by simp) ?_; (case hd => rfl); (case hg => rfl); (case hr => first | (go_simp; done) | (go_simp; rfl)); (case hp => exact (Reps.one (show Kd.M (Kd.int .i64) _ _ _ x14_3 [.int .i64 x14_3] from rfl) (Reps.one (show Kd.M (Kd.int .i64) _ _ _ x15_4 [.int .i64 x15_4] from rfl) (Reps.one (show Kd.M (Kd.int .i64) _ _ _ t179 [.int .i64 t179] from rfl) (Reps.none _ _))))); intro v182 w40 ho41 hb hg_ hnew_; clear hg_ hnew_; (first | rw [← Ny181.out] at ho41 | (simp only [Int.reduceToNat] at ho41; rw [← Ny181.out] at ho41)); have HO183 := Aside0.mk (Kd.R_lower ho41 (below_size (Sqz.auHB))); replace HB := Aside0.mk (below_step (Sqz.auHB) hb); clear hb ho41))
                       go_ret2
                       exact ⟨_, Sqz.auR, (Sqz.mvR HO183.out), Sqz.auHB⟩
                     ·rw [if_neg c36] at H; have c36b1 := bne_iff_ne.mpr c36; obtain ⟨y184, hyy⟩ : ∃ y_ : List Int, y_ = (([x14_3, x15_4, t179] : List Int)) := ⟨_, rfl⟩
                      replace H : (some (y184, true)) = some (r1, r2) := Sqz.auY
                      have Ny184 := Aside0.mk hyy; clear hyy; simp only [Option.some.injEq, Prod.mk.injEq] at H; obtain ⟨rfl, rfl⟩ := H
                      go_wp2_with (first | (go_at_call 112; (with_reducible refine (impl_size.calls (wrap64 ((rd l0 0) * (rd l0 2))) t178 _ A29.out).mono ?_); rintro e w42 ⟨rfl, hb⟩; replace HB := Aside0.mk (below_step (Sqz.auHB) hb); (try clear hb)) | (go_at_call 110; (with_reducible refine (impl_squareRoot.calls k4 (wrap64 (Int.tdiv (wrap64 ((wrap64 ((wrap64 ((wrap64 (-(rd l0 0))) * x14_3)) * x14_3)) - (wrap64 ((wrap64 ((rd l0 1) * x15_4)) * x15_4)))) (rd l0 2))) t179 true _ A33.out).mono ?_); rintro e w' ⟨rfl, ⟨nd, rfl⟩⟩; (try first | exact ⟨rfl, _, World.drewN_drewN _ _ _⟩ | exact ⟨rfl, _, Eq.trans (World.drewN_drewN _ _ _) (congrArg (World.drewN _) (Nat.add_assoc _ _ _))⟩)) | ((with_reducible refine gate_dst (N := 125) rfl ?_); refine Kd.R_lit (Kd.int .i64) _ 3 ?hg (N := 125) ?hd (xs := ([x14_3, x15_4, t179] : List Int)) (inner := [.int .i64 x14_3, .int .i64 x15_4, .int .i64 t179]) (ok := fun _ => True) (okp := fun _ => True) ?hr ?hp (fun _ hk => hk) trivial (Below.refl _ _) (Nat.le_refl _) (by simp) ?_; (case hd => rfl); (case hg => rfl); (case hr => first | (go_simp; done) | (go_simp; rfl)); (case hp => exact (Reps.one (show Kd.M (Kd.int .i64) _ _ _ x14_3 [.int .i64 x14_3] from rfl) (Reps.one (show Kd.M (Kd.int .i64) _ _ _ x15_4 [.int .i64 x15_4] from rfl) (Reps.one (show Kd.M (Kd.int .i64) _ _ _ t179 [.int .i64 t179] from rfl) (Reps.none _ _))))); intro v185 w43 ho44 hb hg_ hnew_; clear hg_ hnew_; (first | rw [← Ny184.out] at ho44 | (simp only [Int.reduceToNat] at ho44; rw [← Ny184.out] at ho44)); have HO186 := Aside0.mk (Kd.R_lower ho44 (below_size (Sqz.auHB))); replace HB := Aside0.mk (below_step (Sqz.auHB) hb); clear hb ho44))
                      go_ret2
                      exact ⟨_, Sqz.auR, (Sqz.mvR HO186.out), Sqz.auHB⟩
                    ·rw [if_neg c35] at H; have c35b1 := bne_iff_ne.mpr c35; obtain ⟨y187, hyy⟩ : ∃ y_ : List Int, y_ = (([x14_3, x15_4, t179] : List Int)) := ⟨_, rfl⟩
                     replace H : (some (y187, true)) = some (r1, r2) := Sqz.auY
                     have Ny187 := Aside0.mk hyy; clear hyy; simp only [Option.some.injEq, Prod.mk.injEq] at H; obtain ⟨rfl, rfl⟩ := H
                     go_wp2_with (first | (go_at_call 112; (with_reducible refine (impl_size.calls (wrap64 ((rd l0 0) * (rd l0 2))) t178 _ A29.out).mono ?_); rintro e w45 ⟨rfl, hb⟩; replace HB := Aside0.mk (below_step (Sqz.auHB) hb); (try clear hb)) | (go_at_call 110; (with_reducible refine (impl_squareRoot.calls k4 (wrap64 (Int.tdiv (wrap64 ((wrap64 ((wrap64 ((wrap64 (-(rd l0 0))) * x14_3)) * x14_3)) - (wrap64 ((wrap64 ((rd l0 1) * x15_4)) * x15_4)))) (rd l0 2))) t179 true _ A33.out).mono ?_); rintro e w' ⟨rfl, ⟨nd, rfl⟩⟩; (try first | exact ⟨rfl, _, World.drewN_drewN _ _ _⟩ | exact ⟨rfl, _, Eq.trans (World.drewN_drewN _ _ _) (congrArg (World.drewN _) (Nat.add_assoc _ _ _))⟩)) | ((with_reducible refine gate_dst (N := 125) rfl ?_); refine Kd.R_lit (Kd.int .i64) _ 3 ?hg (N := 125) ?hd (xs := ([x14_3, x15_4, t179] : List Int)) (inner := [.int .i64 x14_3, .int .i64 x15_4, .int .i64 t179]) (ok := fun _ => True) (okp := fun _ => True) ?hr ?hp (fun _ hk => hk) trivial (Below.refl _ _) (Nat.le_refl _) (by simp) ?_; (case hd => rfl); (case hg => rfl); (case hr => first | (go_simp; done) | (go_simp; rfl)); (case hp => exact (Reps.one (show Kd.M (Kd.int .i64) _ _ _ x14_3 [.int .i64 x14_3] from rfl) (Reps.one (show Kd.M (Kd.int .i64) _ _ _ x15_4 [.int .i64 x15_4] from rfl) (Reps.one (show Kd.M (Kd.int .i64) _ _ _ t179 [.int .i64 t179] from rfl) (Reps.none _ _))))); intro v188 w46 ho47 hb hg_ hnew_; clear hg_ hnew_; (first | rw [← Ny187.out] at ho47 | (simp only [Int.reduceToNat] at ho47; rw [← Ny187.out] at ho47)); have HO189 := Aside0.mk (Kd.R_lower ho47 (below_size (Sqz.auHB))); replace HB := Aside0.mk (below_step (Sqz.auHB) hb); clear hb ho47))
                     go_ret2
                     exact ⟨_, Sqz.auR, (Sqz.mvR HO189.out), Sqz.auHB⟩
                   ·replace c34 := Bool.eq_false_iff.mpr c34; subst c34; have H1 : (impl_ZeroSearch.l2 k4 (rd l0 0) (rd l0 1) (rd l0 2) x14_3 (wrap64 (x15_4 + 1))) = some (r1, r2) := by rw [if_neg (show ¬ (false = true) by decide)] at H; exact H
                    clear H; have H := H1; clear H1; have H' := Aside0.mk H; clear H
                    go_wp2_with (first | (go_at_call 112; (with_reducible refine (impl_size.calls (wrap64 ((rd l0 0) * (rd l0 2))) t178 _ A29.out).mono ?_); rintro e w48 ⟨rfl, hb⟩; replace HB := Aside0.mk (below_step (Sqz.auHB) hb); (try clear hb)) | (go_at_call 110; (with_reducible refine (impl_squareRoot.calls k4 (wrap64 (Int.tdiv (wrap64 ((wrap64 ((wrap64 ((wrap64 (-(rd l0 0))) * x14_3)) * x14_3)) - (wrap64 ((wrap64 ((rd l0 1) * x15_4)) * x15_4)))) (rd l0 2))) t179 false _ A33.out).mono ?_); rintro e w' ⟨rfl, ⟨nd, rfl⟩⟩; (try first | exact ⟨rfl, _, World.drewN_drewN _ _ _⟩ | exact ⟨rfl, _, Eq.trans (World.drewN_drewN _ _ _) (congrArg (World.drewN _) (Nat.add_assoc _ _ _))⟩)))
                    go_roundg k4
                    case measure => have := HK1.out; have := HJ15.out; have := HK3.out; have := HK4.out; omega
                    case rel => exact ⟨(wrap64 (x15_4 + 1)), Sqz.auS, H', ⟨by have := HK1.out; have := HJ15.out; have := HK3.out; have := HK4.out; omega⟩, ⟨Sqz.auHB⟩⟩
                  ·rw [if_neg c32] at H; have c32b1 := bne_iff_ne.mpr c32; have H' := Aside0.mk H; clear H
                   go_wp2_with ((go_at_call 112; (with_reducible refine (impl_size.calls (wrap64 ((rd l0 0) * (rd l0 2))) t178 _ A29.out).mono ?_); rintro e w49 ⟨rfl, hb⟩; replace HB := Aside0.mk (below_step (Sqz.auHB) hb); (try clear hb)))
                   go_roundg k4
                   case measure => have := HK1.out; have := HJ15.out; have := HK3.out; have := HK4.out; omega
                   case rel => exact ⟨(wrap64 (x15_4 + 1)), Sqz.auS, H', ⟨by have := HK1.out; have := HJ15.out; have := HK3.out; have := HK4.out; omega⟩, ⟨Sqz.auHB⟩⟩
                ·rw [if_neg c30] at H; have c30b0 := decide_eq_false c30; clear c30; have H' := Aside0.mk H; clear H
                 go_wp2_with ((go_at_call 112; (with_reducible refine (impl_size.calls (wrap64 ((rd l0 0) * (rd l0 2))) t178 _ A29.out).mono ?_); rintro e w50 ⟨rfl, hb⟩; replace HB := Aside0.mk (below_step (Sqz.auHB) hb); (try clear hb)))
                 go_roundg k4
                 case measure => have := HK1.out; have := HJ15.out; have := HK3.out; have := HK4.out; omega
                 case rel => exact ⟨(wrap64 (x14_3 + 1)), Sqz.auS, H', ⟨by have := HK1.out; have := HJ15.out; have := HK3.out; have := HK4.out; omega⟩, ⟨Sqz.auHB⟩⟩
             ·rw [if_neg c27] at H; have c27b0 := decide_eq_false c27; clear c27; simp only [Option.some.injEq, Prod.mk.injEq] at H; obtain ⟨rfl, rfl⟩ := H
              go_wp2_with ((go_at_call 112; (with_reducible refine (impl_size.calls (wrap64 ((rd l0 1) * (rd l0 2))) t177 _ A26.out).mono ?_); rintro e w51 ⟨rfl, hb⟩; replace HB := Aside0.mk (below_step (Sqz.auHB) hb); (try clear hb)))
              go_ret2
              exact ⟨_, Sqz.auR, by first | exact Kd.R_nil _ _ _ _ _ | exact Kd.N_nil _ _ _ _ _ | exact Kd.V_nil _ _ _ _ _ | exact Kd.Q_nil _ _ _ _ _ | exact Kd.S_nil _ _ _ _ _, Sqz.auHB⟩
          ·rw [if_neg c25] at H; exact absurd H (by simp)
         ·rw [if_neg c24] at H; exact absurd H (by simp)
        ·rw [if_neg c23] at H; exact absurd H (by simp)
 ·rw [if_neg c2] at H; have c2b1 := bne_iff_ne.mpr c2; simp only [Option.some.injEq, Prod.mk.injEq] at H; obtain ⟨rfl, rfl⟩ := H
  go_enter Tryz.func79, Tryz.ntmps79
  go_wp2
  go_ret2
  exact ⟨_, Sqz.auR, by first | exact Kd.R_nil _ _ _ _ _ | exact Kd.N_nil _ _ _ _ _ | exact Kd.V_nil _ _ _ _ _ | exact Kd.Q_nil _ _ _ _ _ | exact Kd.S_nil _ _ _ _ _, Sqz.auHB⟩

end Go.Proofs.YtacfcoilmdhgnaaGreatDoor.PFnExecuteValue
