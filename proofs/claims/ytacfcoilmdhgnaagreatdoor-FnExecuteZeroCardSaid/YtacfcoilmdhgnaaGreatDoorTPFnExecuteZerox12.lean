/- A function's Lean twin and its walk, written by a program of this session. -/
import Derived.Test.YtacfcoilmdhgnaaGreatDoorTPFnExecuteZerox0
import Derived.Test.YtacfcoilmdhgnaaGreatDoorTPFnExecuteZerox8
import Derived.Test.YtacfcoilmdhgnaaGreatDoorTPFnExecuteZerox10
import Derived.Test.YtacfcoilmdhgnaaGreatDoorTPFnExecuteZerox11
namespace Go.Proofs.YtacfcoilmdhgnaaGreatDoor.PFnExecuteZero
open Go.RowKit Go.Proofs.YtacfcoilmdhgnaaGreatDoorW.PrintWords Go.Proofs.YtacfcoilmdhgnaaGreatDoorW.PrintLast Go.Proofs.YtacfcoilmdhgnaaGreatDoorW.PrintMore
attribute [local go_sem] max2_int min2_int max_two min_two max_three min_three max_four min_four   -- for this text's walks alone
set_option linter.unusedVariables false
set_option linter.unusedSimpArgs false

/-! ### spec_l5Search: function 138 -/
mutual
def spec_l5Search.l0 : Nat → Int → Int → Int → Int → Option (List Int × Bool)
 | 0, _, _, _, _ => none
 | k + 1, x4, x5, x6, x7 => (spec_l1Size.f (wrap64 (x5 * x6))).bind fun t350 => (if (wrap64 (x7 * x7)) ≤ t350 then (spec_l5Search.l1 k x4 x5 x6 x7 0) else (some ((([] : List Int)), false)))
def spec_l5Search.l1 : Nat → Int → Int → Int → Int → Int → Option (List Int × Bool)
 | 0, _, _, _, _, _ => none
 | k + 1, x4, x5, x6, x7, x8 => (spec_l1Size.f (wrap64 (x4 * x6))).bind fun t354 => (if (wrap64 (x8 * x8)) ≤ t354 then (if x6 = 0 then (none) else (if (Int.tmod (wrap64 ((wrap64 (-(wrap64 ((wrap64 (x4 * x7)) * x7)))) - (wrap64 ((wrap64 (x5 * x8)) * x8)))) x6) = 0 then (if (wrap64 (Int.tdiv (wrap64 ((wrap64 (-(wrap64 ((wrap64 (x4 * x7)) * x7)))) - (wrap64 ((wrap64 (x5 * x8)) * x8)))) x6)) < 0 then (spec_l5Search.j2 k x4 x5 x6 x7 x8 (wrap64 ((wrap64 (-(wrap64 ((wrap64 (x4 * x7)) * x7)))) - (wrap64 ((wrap64 (x5 * x8)) * x8)))) true) else (if x7 = 0 then (spec_l5Search.j2 k x4 x5 x6 x7 x8 (wrap64 ((wrap64 (-(wrap64 ((wrap64 (x4 * x7)) * x7)))) - (wrap64 ((wrap64 (x5 * x8)) * x8)))) (x8 == 0)) else (spec_l5Search.j2 k x4 x5 x6 x7 x8 (wrap64 ((wrap64 (-(wrap64 ((wrap64 (x4 * x7)) * x7)))) - (wrap64 ((wrap64 (x5 * x8)) * x8)))) false))) else (spec_l5Search.j2 k x4 x5 x6 x7 x8 (wrap64 ((wrap64 (-(wrap64 ((wrap64 (x4 * x7)) * x7)))) - (wrap64 ((wrap64 (x5 * x8)) * x8)))) true))) else (spec_l5Search.l0 k x4 x5 x6 (wrap64 (x7 + 1))))
def spec_l5Search.j2 : Nat → Int → Int → Int → Int → Int → Int → Bool → Option (List Int × Bool)
 | 0, _, _, _, _, _, _, _ => none
 | k + 1, x4, x5, x6, x7, x8, x9, x69 => if x69 = true then (spec_l5Search.l1 k x4 x5 x6 x7 (wrap64 (x8 + 1))) else (if x6 = 0 then (none) else ((spec_l5Root.f k (wrap64 (Int.tdiv x9 x6))).bind fun t355 => (if t355 ≥ 0 then (some ((([x7, x8, t355] : List Int)), true)) else (spec_l5Search.l1 k x4 x5 x6 x7 (wrap64 (x8 + 1))))))
end
def spec_l5Search.f (k : Nat) (l0 : List Int) : Option (List Int × Bool) := if 0 < (l0.length : Int) then (if 1 < (l0.length : Int) then (if 2 < (l0.length : Int) then (spec_l5Search.l0 k (rd l0 0) (rd l0 1) (rd l0 2) 0) else (none)) else (none)) else (none)
set_option maxHeartbeats 8000000 in
set_option maxRecDepth 100000 in
theorem spec_l5Search.calls (k : Nat) (A0 : Option Addr) (c0 : Nat) (l0 : List Int) (r1 : List Int) (r2 : Bool) (w : World) (hr0 : Kd.C (Kd.int .i64) w A0 l0.length l0) (hc0 : l0.length ≤ c0) (h : spec_l5Search.f k l0 = some (r1, r2)) :
  Calls Tryz.prog 138 #[.slice A0 l0.length c0] w fun e w' => ∃ v0_ : Value, e = .returned (.tuple #[v0_, .bool r2]) ∧ Kd.R (Kd.int .i64) 3 w' w.heap.size (fun _ => True) v0_ r1 ∧ Below w.heap.size w w' := by
 have HR0 := Aside0.mk hr0; have HC0 := Aside0.mk hc0; clear hr0 hc0; have HB := Aside0.mk (Below.refl w.heap.size w); have H : (if 0 < (l0.length : Int) then (if 1 < (l0.length : Int) then (if 2 < (l0.length : Int) then (spec_l5Search.l0 k (rd l0 0) (rd l0 1) (rd l0 2) 0) else (none)) else (none)) else (none)) = some (r1, r2) := h; clear h
 by_cases c2 : 0 < (l0.length : Int)
 ·rw [if_pos c2] at H; have c2b0 := decide_eq_true c2; have c2b1 : decide (0 < l0.length) = true := decide_eq_true (by omega); clear c2
  by_cases c3 : 1 < (l0.length : Int)
  ·rw [if_pos c3] at H; have c3b0 := decide_eq_true c3; have c3b1 : decide (1 < l0.length) = true := decide_eq_true (by omega); clear c3
   by_cases c4 : 2 < (l0.length : Int)
   ·rw [if_pos c4] at H; have c4b0 := decide_eq_true c4; have c4b1 : decide (2 < l0.length) = true := decide_eq_true (by omega); clear c4; have H' := Aside0.mk H; clear H; have p347 : 0 ≤ (0 : Int) := (by omega); have q347 : 0 < (l0.length : Int) := Sqz.od; obtain ⟨ad347, e347, hx347_0⟩ := Kd.at_int HR0.out 0 p347 q347; cases e347; have qi347 : (0 < l0.length) = True := eq_true (by omega); (try rw [show ((0 : Int)).toNat = 0 from rfl] at hx347_0); (try rw [Addr.add_zero'] at hx347_0); replace p347 := eq_true p347; replace q347 := eq_true q347; have p348 : 0 ≤ (1 : Int) := (by omega); have q348 : 1 < (l0.length : Int) := Sqz.od; obtain ⟨ad348, e348, hx348_0⟩ := Kd.at_int HR0.out 1 p348 q348; obtain rfl : ad347 = ad348 := (by injection e348); (try simp only [show (1 : Int).toNat = 1 from rfl, Nat.reduceMul, Nat.reduceEqDiff, Go.Addr.add, ↓reduceIte] at hx348_0); have qi348 : (1 < l0.length) = True := eq_true (by omega); (try rw [show ((1 : Int)).toNat = 1 from rfl] at hx348_0); replace p348 := eq_true p348; replace q348 := eq_true q348; have p349 : 0 ≤ (2 : Int) := (by omega); have q349 : 2 < (l0.length : Int) := Sqz.od; obtain ⟨ad349, e349, hx349_0⟩ := Kd.at_int HR0.out 2 p349 q349; obtain rfl : ad347 = ad349 := (by injection e349); (try simp only [show (2 : Int).toNat = 2 from rfl, Nat.reduceMul, Nat.reduceEqDiff, Go.Addr.add, ↓reduceIte] at hx349_0); have qi349 : (2 < l0.length) = True := eq_true (by omega); (try rw [show ((2 : Int)).toNat = 2 from rfl] at hx349_0); replace p349 := eq_true p349; replace q349 := eq_true q349
    go_enter Tryz.func138, Tryz.ntmps138
    go_wp2
    go_loopg [7] k (fun kq v7 w' => ∃ (x7_1 : Int), v7 = .int .i64 x7_1 ∧ Aside0 (spec_l5Search.l0 kq (rd l0 0) (rd l0 1) (rd l0 2) x7_1 = some (r1, r2)) ∧ Aside0 (kq ≤ k) ∧ Aside0 (Below w.heap.size w w'))
    case atStart => exact ⟨(0), Sqz.auS, H', ⟨Nat.le_refl _⟩, ⟨Sqz.auHB⟩⟩
    case round =>
     clear H'
     try clear c1
     try clear c2
     try clear c2b0
     try clear c2b1
     try clear p2
     try clear c3
     try clear c3b0
     try clear c3b1
     try clear p3
     try clear q3
     try clear hx3
     try clear qi3
     try clear c4
     try clear c4b0
     try clear c4b1
     try clear hx347_0
     try clear hx348_0
     try clear hx349_0
     try clear p347
     try clear p348
     try clear p349
     try clear q347
     try clear q348
     try clear q349
     obtain ⟨x7_1, rfl, HA, HK1, HB⟩ := hrel; cases gk with
     | zero => exact absurd HA.out (by simp [spec_l5Search.l0])
     | succ k1 =>
      have H := HA.out; clear HA; simp only [spec_l5Search.l0] at H; obtain ⟨t350, A5, H⟩ := Sqz.be H
      by_cases c6 : (wrap64 (x7_1 * x7_1)) ≤ t350
      ·rw [if_pos c6] at H; have c6b0 := decide_eq_true c6; clear c6; have H' := Aside0.mk H; clear H
       go_wp2_with (first | ((with_reducible refine gate_callee (f := 134) rfl ?_); refine goesL_ (some 26) rfl rfl Tryz.func134 (by kernel_rfl) rfl #[.int .i64 (wrap64 ((rd l0 1) * (rd l0 2)))] rfl Sqz.auM ?_; (with_reducible refine (spec_l1Size.calls (wrap64 ((rd l0 1) * (rd l0 2))) t350 _ A5.out).mono ?_); rintro e w7 ⟨rfl, hb⟩; refine ⟨_, rfl, ?_⟩; replace HB := Aside0.mk (below_step (Sqz.auHB) hb); (try clear hb)))
       go_loopg [8] k1 (fun kq v8 w' => ∃ (x8_2 : Int), v8 = .int .i64 x8_2 ∧ Aside0 (spec_l5Search.l1 kq (rd l0 0) (rd l0 1) (rd l0 2) x7_1 x8_2 = some (r1, r2)) ∧ Aside0 (kq ≤ k1) ∧ Aside0 (Below w.heap.size w w'))
       case atStart => exact ⟨(0), Sqz.auS, H', ⟨Nat.le_refl _⟩, ⟨Sqz.auHB⟩⟩
       case round =>
        clear H'
        try clear c1
        try clear c2
        try clear c2b0
        try clear c2b1
        try clear p2
        try clear c3
        try clear c3b0
        try clear c3b1
        try clear p3
        try clear q3
        try clear hx3
        try clear qi3
        try clear c4
        try clear c4b0
        try clear c4b1
        try clear c6
        try clear c6b0
        try clear p6
        try clear hx347_0
        try clear hx348_0
        try clear hx349_0
        try clear p2
        try clear p3
        try clear p347
        try clear p348
        try clear p349
        try clear q3
        try clear q347
        try clear q348
        try clear q349
        obtain ⟨x8_2, rfl, HA, HK2, HB⟩ := hrel; cases gk with
        | zero => exact absurd HA.out (by simp [spec_l5Search.l1])
        | succ k2 =>
         have H := HA.out; clear HA; simp only [spec_l5Search.l1] at H; obtain ⟨t354, A8, H⟩ := Sqz.be H
         by_cases c9 : (wrap64 (x8_2 * x8_2)) ≤ t354
         ·rw [if_pos c9] at H; have c9b0 := decide_eq_true c9; clear c9; have HC10 := Aside0.mk H; clear H
          go_upto_region 11 with (first | ((with_reducible refine gate_callee (f := 134) rfl ?_); refine goesL_ (some 36) rfl rfl Tryz.func134 (by kernel_rfl) rfl #[.int .i64 (wrap64 ((rd l0 0) * (rd l0 2)))] rfl Sqz.auM ?_; (with_reducible refine (spec_l1Size.calls (wrap64 ((rd l0 0) * (rd l0 2))) t354 _ A8.out).mono ?_); rintro e w11 ⟨rfl, hb⟩; refine ⟨_, rfl, ?_⟩; replace HB := Aside0.mk (below_step (Sqz.auHB) hb); (try clear hb)))
          (try simp only [Act.put, List.setIfInBounds_toArray, List.set_cons_zero, List.set_cons_succ])
          go_cut [69] (fun v69 wc => ∃ (kq : Nat) (x69_9 : Bool), v69 = .bool x69_9 ∧ Aside0 (spec_l5Search.j2 kq (rd l0 0) (rd l0 1) (rd l0 2) x7_1 x8_2 (wrap64 ((wrap64 (-(wrap64 ((wrap64 ((rd l0 0) * x7_1)) * x7_1)))) - (wrap64 ((wrap64 ((rd l0 1) * x8_2)) * x8_2)))) x69_9 = some (r1, r2)) ∧ Aside0 (kq ≤ k2) ∧ Aside0 (Below w.heap.size w wc))
          case first =>
           have H := HC10.out; clear HC10
           by_cases c12 : (rd l0 2) = 0
           ·rw [if_pos c12] at H; exact absurd H (by simp)
           ·rw [if_neg c12] at H; have c12b0 := beq_eq_false_iff_ne.mpr c12; have c12b1 := bne_iff_ne.mpr c12
            (first | rw [c12b0] | (simp only [i64_w, i32_w]; rw [c12b0]) | skip)
            by_cases c13 : (Int.tmod (wrap64 ((wrap64 (-(wrap64 ((wrap64 ((rd l0 0) * x7_1)) * x7_1)))) - (wrap64 ((wrap64 ((rd l0 1) * x8_2)) * x8_2)))) (rd l0 2)) = 0
            ·rw [if_pos c13] at H; have c13b0 := beq_iff_eq.mpr c13; have c13b1 := bne_eq_false_iff_eq.mpr c13; clear c13
             by_cases c14 : (wrap64 (Int.tdiv (wrap64 ((wrap64 (-(wrap64 ((wrap64 ((rd l0 0) * x7_1)) * x7_1)))) - (wrap64 ((wrap64 ((rd l0 1) * x8_2)) * x8_2)))) (rd l0 2))) < 0
             ·rw [if_pos c14] at H; have c14b0 := decide_eq_true c14; clear c14; have H' := Aside0.mk H; clear H; go_wp2
              go_meet
              case rel => exact ⟨_, (true), Sqz.auS, H', ⟨by have := HK1.out; have := HK2.out; first | omega | exact Nat.le_refl _⟩, ⟨Sqz.auHB⟩⟩
             ·rw [if_neg c14] at H; have c14b0 := decide_eq_false c14; clear c14
              by_cases c15 : x7_1 = 0
              ·rw [if_pos c15] at H; have c15b0 := beq_iff_eq.mpr c15; have c15b1 := bne_eq_false_iff_eq.mpr c15; clear c15; have H' := Aside0.mk H; clear H; go_wp2
               go_meet
               case rel => exact ⟨_, ((x8_2 == 0)), Sqz.auS, H', ⟨by have := HK1.out; have := HK2.out; first | omega | exact Nat.le_refl _⟩, ⟨Sqz.auHB⟩⟩
              ·rw [if_neg c15] at H; have c15b0 := beq_eq_false_iff_ne.mpr c15; have c15b1 := bne_iff_ne.mpr c15; have H' := Aside0.mk H; clear H; go_wp2
               go_meet
               case rel => exact ⟨_, (false), Sqz.auS, H', ⟨by have := HK1.out; have := HK2.out; first | omega | exact Nat.le_refl _⟩, ⟨Sqz.auHB⟩⟩
            ·rw [if_neg c13] at H; have c13b0 := beq_eq_false_iff_ne.mpr c13; have c13b1 := bne_iff_ne.mpr c13; have H' := Aside0.mk H; clear H; go_wp2
             go_meet
             case rel => exact ⟨_, (true), Sqz.auS, H', ⟨by have := HK1.out; have := HK2.out; first | omega | exact Nat.le_refl _⟩, ⟨Sqz.auHB⟩⟩
          case rest =>
           clear HC10
           try clear c1
           try clear c2
           try clear c2b0
           try clear c2b1
           try clear p2
           try clear c3
           try clear c3b0
           try clear c3b1
           try clear p3
           try clear q3
           try clear hx3
           try clear qi3
           try clear c4
           try clear c4b0
           try clear c4b1
           try clear c6
           try clear c6b0
           try clear p6
           try clear c9
           try clear c9b0
           try clear c12
           try clear c12b0
           try clear c12b1
           try clear c13
           try clear c13b0
           try clear c13b1
           try clear c14
           try clear c14b0
           try clear c15
           try clear c15b0
           try clear c15b1
           try clear hx347_0
           try clear hx348_0
           try clear hx349_0
           try clear p2
           try clear p3
           try clear p347
           try clear p348
           try clear p349
           try clear p6
           try clear q3
           try clear q347
           try clear q348
           try clear q349
           obtain ⟨kq, x69_9, rfl, HA, HJ9, HB⟩ := hcut; cases kq with
           | zero => exact absurd HA.out (by simp [spec_l5Search.j2])
           | succ kj9 =>
            have H := HA.out; clear HA; simp only [spec_l5Search.j2] at H
            by_cases c16 : x69_9 = true
            ·subst c16; have H1 : (spec_l5Search.l1 kj9 (rd l0 0) (rd l0 1) (rd l0 2) x7_1 (wrap64 (x8_2 + 1))) = some (r1, r2) := by rw [if_pos rfl] at H; exact H
             clear H; have H := H1; clear H1; have H' := Aside0.mk H; clear H; go_wp2
             go_roundg kj9
             case measure => have := HK1.out; have := HK2.out; have := HJ9.out; omega
             case rel => exact ⟨(wrap64 (x8_2 + 1)), Sqz.auS, H', ⟨by have := HK1.out; have := HK2.out; have := HJ9.out; omega⟩, ⟨Sqz.auHB⟩⟩
            ·replace c16 := Bool.eq_false_iff.mpr c16; subst c16; have H1 : (if (rd l0 2) = 0 then (none) else ((spec_l5Root.f kj9 (wrap64 (Int.tdiv (wrap64 ((wrap64 (-(wrap64 ((wrap64 ((rd l0 0) * x7_1)) * x7_1)))) - (wrap64 ((wrap64 ((rd l0 1) * x8_2)) * x8_2)))) (rd l0 2)))).bind fun t355 => (if t355 ≥ 0 then (some ((([x7_1, x8_2, t355] : List Int)), true)) else (spec_l5Search.l1 kj9 (rd l0 0) (rd l0 1) (rd l0 2) x7_1 (wrap64 (x8_2 + 1)))))) = some (r1, r2) := by rw [if_neg (show ¬ (false = true) by decide)] at H; exact H
             clear H; have H := H1; clear H1
             by_cases c17 : (rd l0 2) = 0
             ·rw [if_pos c17] at H; exact absurd H (by simp)
             ·rw [if_neg c17] at H; have c17b0 := beq_eq_false_iff_ne.mpr c17; have c17b1 := bne_iff_ne.mpr c17; obtain ⟨t355, A18, H⟩ := Sqz.be H
              by_cases c19 : t355 ≥ 0
              ·rw [if_pos c19] at H; have c19b0 : decide (0 ≤ t355) = true := decide_eq_true c19; clear c19; obtain ⟨y356, hyy⟩ : ∃ y_ : List Int, y_ = (([x7_1, x8_2, t355] : List Int)) := ⟨_, rfl⟩
               replace H : (some (y356, true)) = some (r1, r2) := Sqz.auY
               have Ny356 := Aside0.mk hyy; clear hyy; simp only [Option.some.injEq, Prod.mk.injEq] at H; obtain ⟨rfl, rfl⟩ := H
               go_wp2_with (first | ((with_reducible refine gate_callee (f := 57) rfl ?_); refine goesL_ (some 73) rfl rfl Tryz.func57 (by kernel_rfl) rfl #[.int .i64 (wrap64 (Int.tdiv (wrap64 ((wrap64 (-(wrap64 ((wrap64 ((rd l0 0) * x7_1)) * x7_1)))) - (wrap64 ((wrap64 ((rd l0 1) * x8_2)) * x8_2)))) (rd l0 2)))] rfl Sqz.auM ?_; (with_reducible refine (spec_l5Root.calls kj9 (wrap64 (Int.tdiv (wrap64 ((wrap64 (-(wrap64 ((wrap64 ((rd l0 0) * x7_1)) * x7_1)))) - (wrap64 ((wrap64 ((rd l0 1) * x8_2)) * x8_2)))) (rd l0 2))) t355 _ A18.out).mono ?_); rintro e w' ⟨rfl, ⟨nd, rfl⟩⟩; refine ⟨_, rfl, ?_⟩) | ((with_reducible refine gate_dst (N := 79) rfl ?_); refine Kd.R_lit (Kd.int .i64) _ 3 ?hg (N := 79) ?hd (xs := ([x7_1, x8_2, t355] : List Int)) (inner := [.int .i64 x7_1, .int .i64 x8_2, .int .i64 t355]) (ok := fun _ => True) (okp := fun _ => True) ?hr ?hp (fun _ hk => hk) trivial (Below.refl _ _) (Nat.le_refl _) (by simp) ?_; (case hd => rfl); (case hg => rfl); (case hr => first | (go_simp; done) | (go_simp; rfl)); (case hp => exact (Reps.one (show Kd.M (Kd.int .i64) _ _ _ x7_1 [.int .i64 x7_1] from rfl) (Reps.one (show Kd.M (Kd.int .i64) _ _ _ x8_2 [.int .i64 x8_2] from rfl) (Reps.one (show Kd.M (Kd.int .i64) _ _ _ t355 [.int .i64 t355] from rfl) (Reps.none _ _))))); intro v357 w20 ho21 hb hg_ hnew_; clear hg_ hnew_; (first | rw [← Ny356.out] at ho21 | (simp only [Int.reduceToNat] at ho21; rw [← Ny356.out] at ho21)); have HO358 := Aside0.mk (Kd.R_lower ho21 (below_size (Sqz.auHB))); replace HB := Aside0.mk (below_step (Sqz.auHB) hb); clear hb ho21))
               go_ret2
               exact ⟨_, Sqz.auR, (Sqz.mvR HO358.out), Sqz.auHB⟩
              ·rw [if_neg c19] at H; have c19b0 : decide (0 ≤ t355) = false := decide_eq_false c19; clear c19; have H' := Aside0.mk H; clear H
               go_wp2_with (first | ((with_reducible refine gate_callee (f := 57) rfl ?_); refine goesL_ (some 73) rfl rfl Tryz.func57 (by kernel_rfl) rfl #[.int .i64 (wrap64 (Int.tdiv (wrap64 ((wrap64 (-(wrap64 ((wrap64 ((rd l0 0) * x7_1)) * x7_1)))) - (wrap64 ((wrap64 ((rd l0 1) * x8_2)) * x8_2)))) (rd l0 2)))] rfl Sqz.auM ?_; (with_reducible refine (spec_l5Root.calls kj9 (wrap64 (Int.tdiv (wrap64 ((wrap64 (-(wrap64 ((wrap64 ((rd l0 0) * x7_1)) * x7_1)))) - (wrap64 ((wrap64 ((rd l0 1) * x8_2)) * x8_2)))) (rd l0 2))) t355 _ A18.out).mono ?_); rintro e w' ⟨rfl, ⟨nd, rfl⟩⟩; refine ⟨_, rfl, ?_⟩))
               go_roundg kj9
               case measure => have := HK1.out; have := HK2.out; have := HJ9.out; omega
               case rel => exact ⟨(wrap64 (x8_2 + 1)), Sqz.auS, H', ⟨by have := HK1.out; have := HK2.out; have := HJ9.out; omega⟩, ⟨Sqz.auHB⟩⟩
         ·rw [if_neg c9] at H; have c9b0 := decide_eq_false c9; clear c9; have H' := Aside0.mk H; clear H
          go_wp2_with (first | ((with_reducible refine gate_callee (f := 134) rfl ?_); refine goesL_ (some 36) rfl rfl Tryz.func134 (by kernel_rfl) rfl #[.int .i64 (wrap64 ((rd l0 0) * (rd l0 2)))] rfl Sqz.auM ?_; (with_reducible refine (spec_l1Size.calls (wrap64 ((rd l0 0) * (rd l0 2))) t354 _ A8.out).mono ?_); rintro e w22 ⟨rfl, hb⟩; refine ⟨_, rfl, ?_⟩; replace HB := Aside0.mk (below_step (Sqz.auHB) hb); (try clear hb)))
          go_roundg k2
          case measure => have := HK1.out; have := HK2.out; omega
          case rel => exact ⟨(wrap64 (x7_1 + 1)), Sqz.auS, H', ⟨by have := HK1.out; have := HK2.out; omega⟩, ⟨Sqz.auHB⟩⟩
      ·rw [if_neg c6] at H; have c6b0 := decide_eq_false c6; clear c6; obtain ⟨y351, hyy⟩ : ∃ y_ : List Int, y_ = (([] : List Int)) := ⟨_, rfl⟩
       replace H : (some (y351, false)) = some (r1, r2) := Sqz.auY
       have Ny351 := Aside0.mk hyy; clear hyy; simp only [Option.some.injEq, Prod.mk.injEq] at H; obtain ⟨rfl, rfl⟩ := H
       go_wp2_with (first | ((with_reducible refine gate_callee (f := 134) rfl ?_); refine goesL_ (some 26) rfl rfl Tryz.func134 (by kernel_rfl) rfl #[.int .i64 (wrap64 ((rd l0 1) * (rd l0 2)))] rfl Sqz.auM ?_; (with_reducible refine (spec_l1Size.calls (wrap64 ((rd l0 1) * (rd l0 2))) t350 _ A5.out).mono ?_); rintro e w23 ⟨rfl, hb⟩; refine ⟨_, rfl, ?_⟩; replace HB := Aside0.mk (below_step (Sqz.auHB) hb); (try clear hb)) | ((with_reducible refine gate_dst (N := 80) rfl ?_); refine Kd.R_lit (Kd.int .i64) _ 3 ?hg (N := 80) ?hd (xs := ([] : List Int)) (inner := []) (ok := fun _ => True) (okp := fun _ => True) ?hr ?hp (fun _ hk => hk) trivial (Below.refl _ _) (Nat.le_refl _) (by simp) ?_; (case hd => rfl); (case hg => rfl); (case hr => first | (go_simp; done) | (go_simp; rfl)); (case hp => exact (Reps.none _ _)); intro v352 w24 ho25 hb hg_ hnew_; clear hg_ hnew_; (first | rw [← Ny351.out] at ho25 | (simp only [Int.reduceToNat] at ho25; rw [← Ny351.out] at ho25)); have HO353 := Aside0.mk (Kd.R_lower ho25 (below_size (Sqz.auHB))); replace HB := Aside0.mk (below_step (Sqz.auHB) hb); clear hb ho25))
       go_ret2
       exact ⟨_, Sqz.auR, (Sqz.mvR HO353.out), Sqz.auHB⟩
   ·rw [if_neg c4] at H; exact absurd H (by simp)
  ·rw [if_neg c3] at H; exact absurd H (by simp)
 ·rw [if_neg c2] at H; exact absurd H (by simp)

/-! ### spec_l5Three: function 83 -/
def spec_l5Three.f (k : Nat) (l0 : List Int) : Option (List Int × Bool) := (spec_l5Normal.f k l0).bind fun bt359 => ((spec_l5Search.f k bt359.1).bind fun bt365 => (if bt365.2 = true then (if 0 < (bt359.2.length : Int) then (if 0 < (bt365.1.length : Int) then (if 1 < (bt359.2.length : Int) then (if 1 < (bt365.1.length : Int) then (if 2 < (bt359.2.length : Int) then (if 2 < (bt365.1.length : Int) then ((spec_l5Plain.f k (([wrap64 ((rd bt359.2 0) * (rd bt365.1 0)), wrap64 ((rd bt359.2 1) * (rd bt365.1 1)), wrap64 ((rd bt359.2 2) * (rd bt365.1 2))] : List Int))).bind fun t378 => (some (t378, true))) else (none)) else (none)) else (none)) else (none)) else (none)) else (none)) else (some ((([] : List Int)), false))))
def spec_l5Three.T5 : Bool × List (List Nat × List Nat) := (true, [([], []), ([0], [0]), ([1], [1]), ([], []), ([3], [3]), ([4], [4]), ([2, 5], [2, 5]), ([], []), ([7], [7]), ([8], [8]), ([], []), ([10], [10]), ([11], [11]), ([9, 12], [9, 12]), ([], []), ([14], [14]), ([15], [15]), ([], []), ([17], [17]), ([18], [18]), ([16, 19], [16, 19]), ([6, 13, 20], [6, 13, 20]), ([21], [21]), ([22, 22, 0, 1, 2, 3, 4, 5, 6, 7, 8, 9, 10, 11, 12, 13, 14, 15, 16, 17, 18, 19, 20, 21, 22], [22]), ([23, 0, 1, 2, 3, 4, 5, 6, 7, 8, 9, 10, 11, 12, 13, 14, 15, 16, 17, 18, 19, 20, 21, 22, 23], [])])
def spec_l5Three.B5 : List Nat := [0, 1, 3, 0, 8, 24, 63, 0, 128, 384, 0, 1024, 3072, 8064, 0, 16384, 49152, 0, 131072, 393216, 1032192, 2097151, 4194303, 8388607, 16777215]
theorem spec_l5Three.tab5 : rtab .any (opsOf Tryz.f83 5) = spec_l5Three.T5 := by kernel_rfl
theorem spec_l5Three.bits5 : waitsOk spec_l5Three.T5.2 spec_l5Three.B5 = true := by kernel_rfl
set_option maxHeartbeats 8000000 in
set_option maxRecDepth 100000 in
theorem spec_l5Three.calls (k : Nat) (A0 : Option Addr) (c0 : Nat) (l0 : List Int) (r1 : List Int) (r2 : Bool) (w : World) (hr0 : Kd.C (Kd.int .i64) w A0 l0.length l0) (hc0 : l0.length ≤ c0) (h : spec_l5Three.f k l0 = some (r1, r2)) :
  Calls Tryz.prog 83 #[.slice A0 l0.length c0] w fun e w' => ∃ v0_ : Value, e = .returned (.tuple #[v0_, .bool r2]) ∧ Kd.R (Kd.int .i64) 3 w' w.heap.size (fun _ => True) v0_ r1 ∧ Below w.heap.size w w' := by
 have HR0 := Aside0.mk hr0; have HC0 := Aside0.mk hc0; clear hr0 hc0; have HB := Aside0.mk (Below.refl w.heap.size w); have H : ((spec_l5Normal.f k l0).bind fun bt359 => ((spec_l5Search.f k bt359.1).bind fun bt365 => (if bt365.2 = true then (if 0 < (bt359.2.length : Int) then (if 0 < (bt365.1.length : Int) then (if 1 < (bt359.2.length : Int) then (if 1 < (bt365.1.length : Int) then (if 2 < (bt359.2.length : Int) then (if 2 < (bt365.1.length : Int) then ((spec_l5Plain.f k (([wrap64 ((rd bt359.2 0) * (rd bt365.1 0)), wrap64 ((rd bt359.2 1) * (rd bt365.1 1)), wrap64 ((rd bt359.2 2) * (rd bt365.1 2))] : List Int))).bind fun t378 => (some (t378, true))) else (none)) else (none)) else (none)) else (none)) else (none)) else (none)) else (some ((([] : List Int)), false))))) = some (r1, r2) := h; clear h; replace H := Option.bind_eq_some_iff.mp H; obtain ⟨⟨t359, t360⟩, A20, H⟩ := H; replace H : ((spec_l5Search.f k t359).bind fun bt365 => (if bt365.2 = true then (if 0 < (t360.length : Int) then (if 0 < (bt365.1.length : Int) then (if 1 < (t360.length : Int) then (if 1 < (bt365.1.length : Int) then (if 2 < (t360.length : Int) then (if 2 < (bt365.1.length : Int) then ((spec_l5Plain.f k (([wrap64 ((rd t360 0) * (rd bt365.1 0)), wrap64 ((rd t360 1) * (rd bt365.1 1)), wrap64 ((rd t360 2) * (rd bt365.1 2))] : List Int))).bind fun t378 => (some (t378, true))) else (none)) else (none)) else (none)) else (none)) else (none)) else (none)) else (some ((([] : List Int)), false)))) = some (r1, r2) := H; have A2 := Aside0.mk A20; clear A20; replace H := Option.bind_eq_some_iff.mp H; obtain ⟨⟨t365, t366⟩, A30, H⟩ := H; replace H : (if t366 = true then (if 0 < (t360.length : Int) then (if 0 < (t365.length : Int) then (if 1 < (t360.length : Int) then (if 1 < (t365.length : Int) then (if 2 < (t360.length : Int) then (if 2 < (t365.length : Int) then ((spec_l5Plain.f k (([wrap64 ((rd t360 0) * (rd t365 0)), wrap64 ((rd t360 1) * (rd t365 1)), wrap64 ((rd t360 2) * (rd t365 2))] : List Int))).bind fun t378 => (some (t378, true))) else (none)) else (none)) else (none)) else (none)) else (none)) else (none)) else (some ((([] : List Int)), false))) = some (r1, r2) := H; have A3 := Aside0.mk A30; clear A30
 by_cases c4 : t366 = true
 ·subst c4; have H1 : (if 0 < (t360.length : Int) then (if 0 < (t365.length : Int) then (if 1 < (t360.length : Int) then (if 1 < (t365.length : Int) then (if 2 < (t360.length : Int) then (if 2 < (t365.length : Int) then ((spec_l5Plain.f k (([wrap64 ((rd t360 0) * (rd t365 0)), wrap64 ((rd t360 1) * (rd t365 1)), wrap64 ((rd t360 2) * (rd t365 2))] : List Int))).bind fun t378 => (some (t378, true))) else (none)) else (none)) else (none)) else (none)) else (none)) else (none)) = some (r1, r2) := by rw [if_pos rfl] at H; exact H
  clear H; have H := H1; clear H1
  by_cases c5 : 0 < (t360.length : Int)
  ·rw [if_pos c5] at H; have c5b0 := decide_eq_true c5; have c5b1 : decide (0 < t360.length) = true := decide_eq_true (by omega); clear c5
   by_cases c6 : 0 < (t365.length : Int)
   ·rw [if_pos c6] at H; have c6b0 := decide_eq_true c6; have c6b1 : decide (0 < t365.length) = true := decide_eq_true (by omega); clear c6
    by_cases c7 : 1 < (t360.length : Int)
    ·rw [if_pos c7] at H; have c7b0 := decide_eq_true c7; have c7b1 : decide (1 < t360.length) = true := decide_eq_true (by omega); clear c7
     by_cases c8 : 1 < (t365.length : Int)
     ·rw [if_pos c8] at H; have c8b0 := decide_eq_true c8; have c8b1 : decide (1 < t365.length) = true := decide_eq_true (by omega); clear c8
      by_cases c9 : 2 < (t360.length : Int)
      ·rw [if_pos c9] at H; have c9b0 := decide_eq_true c9; have c9b1 : decide (2 < t360.length) = true := decide_eq_true (by omega); clear c9
       by_cases c10 : 2 < (t365.length : Int)
       ·rw [if_pos c10] at H; have c10b0 := decide_eq_true c10; have c10b1 : decide (2 < t365.length) = true := decide_eq_true (by omega); clear c10; obtain ⟨y375, hyy⟩ : ∃ y_ : List Int, y_ = (([wrap64 ((rd t360 0) * (rd t365 0)), wrap64 ((rd t360 1) * (rd t365 1)), wrap64 ((rd t360 2) * (rd t365 2))] : List Int)) := ⟨_, rfl⟩
        replace H : ((spec_l5Plain.f k y375).bind fun t378 => (some (t378, true))) = some (r1, r2) := Sqz.auY
        have Ny375 := Aside0.mk hyy; clear hyy; obtain ⟨t378, A11, H⟩ := Sqz.be H; simp only [Option.some.injEq, Prod.mk.injEq] at H; obtain ⟨rfl, rfl⟩ := H
        go_enter Tryz.func83, Tryz.ntmps83
        try go_wp2_with (first | ((with_reducible refine gate_callee (f := 137) rfl ?_); refine goesL_ (some 10) rfl rfl Tryz.func137 (by kernel_rfl) rfl #[.slice A0 l0.length c0] rfl Sqz.auM ?_; (with_reducible refine (spec_l5Normal.calls k _ _ l0 t359 t360 _ ?side1 ?side2 A2.out).mono ?_); (case side1 => exact Sqz.mvC (HR0.out)); (case side2 => exact HC0.out); rintro e w12 ⟨v361, v363, rfl, ho0, ho1, hb⟩; refine ⟨_, rfl, ?_⟩; have HO362 := Aside0.mk (Kd.R_lower ho0 (below_size (Sqz.auHB))); have HO364 := Aside0.mk (Kd.R_lower ho1 (below_size (Sqz.auHB))); replace HB := Aside0.mk (below_step (Sqz.auHB) hb); (try clear hb); (try clear ho0); (try clear ho1); obtain ⟨Ao13, co13, eo13⟩ := Kd.R_slice HO362.out; subst eo13) | ((with_reducible refine gate_callee (f := 138) rfl ?_); refine goesL_ (some 15) rfl rfl Tryz.func138 (by kernel_rfl) rfl #[.slice Ao13 t359.length co13] rfl Sqz.auM ?_; (with_reducible refine (spec_l5Search.calls k _ _ t359 t365 true _ ?side1 ?side2 A3.out).mono ?_); (case side1 => exact Sqz.mvC ((Kd.R_reads' HO362.out).2.2)); (case side2 => exact (Kd.R_reads' HO362.out).2.1); rintro e w14 ⟨v367, rfl, ho0, hb⟩; refine ⟨_, rfl, ?_⟩; have HO368 := Aside0.mk (Kd.R_lower (Kd.R_new' (Kd.R_new' ho0 (Kd.R_lt ((Sqz.mvR HO362.out)))) (Kd.R_lt ((Sqz.mvR HO364.out)))) (below_size (Sqz.auHB))); replace HO362 := Aside0.mk (Kd.R_elder' ((Sqz.mvR HO362.out)) (Kd.R_base ho0) hb); replace HO364 := Aside0.mk (Kd.R_elder' ((Sqz.mvR HO364.out)) (Kd.R_base ho0) hb); replace HB := Aside0.mk (below_step (Sqz.auHB) hb); (try clear hb); (try clear ho0)))
        have n0_ := Aside0.mk (Kd.R_drew HO362.out); have n1_ := Aside0.mk (Kd.R_drew HO364.out); have n2_ := Aside0.mk (Kd.R_drew HO368.out); have n3_ := Aside0.mk (below_drew1 HB.out); clear HO362; clear HO364; clear HO368; clear HB; have HO362 := n0_; have HO364 := n1_; have HO368 := n2_; have HB := n3_; clear n0_ n1_ n2_ n3_; obtain ⟨Ao16, co16, eo16⟩ := Kd.R_slice HO364.out
        (first | subst eo16 | (injection eo16 with f1_ f2_ f3_; have f4_ := f1_.symm; have f5_ := f3_.symm; clear f1_ f2_ f3_; subst f4_; subst f5_))
        have p369 : 0 ≤ (0 : Int) := (by omega); have q369 : 0 < (t360.length : Int) := Sqz.od; obtain ⟨ad369, e369, hx369_0⟩ := Kd.at_int (Kd.R_reads' HO364.out).2.2 0 p369 q369; cases e369; have qi369 : (0 < t360.length) = True := eq_true (by omega); (try rw [show ((0 : Int)).toNat = 0 from rfl] at hx369_0); (try rw [Addr.add_zero'] at hx369_0); replace p369 := eq_true p369; replace q369 := eq_true q369; obtain ⟨Ao17, co17, eo17⟩ := Kd.R_slice HO368.out
        (first | subst eo17 | (injection eo17 with f1_ f2_ f3_; have f4_ := f1_.symm; have f5_ := f3_.symm; clear f1_ f2_ f3_; subst f4_; subst f5_))
        have p370 : 0 ≤ (0 : Int) := (by omega); have q370 : 0 < (t365.length : Int) := Sqz.od; obtain ⟨ad370, e370, hx370_0⟩ := Kd.at_int (Kd.R_reads' HO368.out).2.2 0 p370 q370; cases e370; have qi370 : (0 < t365.length) = True := eq_true (by omega); (try rw [show ((0 : Int)).toNat = 0 from rfl] at hx370_0); (try rw [Addr.add_zero'] at hx370_0); replace p370 := eq_true p370; replace q370 := eq_true q370; have p371 : 0 ≤ (1 : Int) := (by omega); have q371 : 1 < (t360.length : Int) := Sqz.od; obtain ⟨ad371, e371, hx371_0⟩ := Kd.at_int (Kd.R_reads' HO364.out).2.2 1 p371 q371; obtain rfl : ad369 = ad371 := (by injection e371); (try simp only [show (1 : Int).toNat = 1 from rfl, Nat.reduceMul, Nat.reduceEqDiff, Go.Addr.add, ↓reduceIte] at hx371_0); have qi371 : (1 < t360.length) = True := eq_true (by omega); (try rw [show ((1 : Int)).toNat = 1 from rfl] at hx371_0); replace p371 := eq_true p371; replace q371 := eq_true q371; have p372 : 0 ≤ (1 : Int) := (by omega); have q372 : 1 < (t365.length : Int) := Sqz.od; obtain ⟨ad372, e372, hx372_0⟩ := Kd.at_int (Kd.R_reads' HO368.out).2.2 1 p372 q372; obtain rfl : ad370 = ad372 := (by injection e372); (try simp only [show (1 : Int).toNat = 1 from rfl, Nat.reduceMul, Nat.reduceEqDiff, Go.Addr.add, ↓reduceIte] at hx372_0); have qi372 : (1 < t365.length) = True := eq_true (by omega); (try rw [show ((1 : Int)).toNat = 1 from rfl] at hx372_0); replace p372 := eq_true p372; replace q372 := eq_true q372; have p373 : 0 ≤ (2 : Int) := (by omega); have q373 : 2 < (t360.length : Int) := Sqz.od; obtain ⟨ad373, e373, hx373_0⟩ := Kd.at_int (Kd.R_reads' HO364.out).2.2 2 p373 q373; obtain rfl : ad369 = ad373 := (by injection e373); (try simp only [show (2 : Int).toNat = 2 from rfl, Nat.reduceMul, Nat.reduceEqDiff, Go.Addr.add, ↓reduceIte] at hx373_0); have qi373 : (2 < t360.length) = True := eq_true (by omega); (try rw [show ((2 : Int)).toNat = 2 from rfl] at hx373_0); replace p373 := eq_true p373; replace q373 := eq_true q373; have p374 : 0 ≤ (2 : Int) := (by omega); have q374 : 2 < (t365.length : Int) := Sqz.od; obtain ⟨ad374, e374, hx374_0⟩ := Kd.at_int (Kd.R_reads' HO368.out).2.2 2 p374 q374; obtain rfl : ad370 = ad374 := (by injection e374); (try simp only [show (2 : Int).toNat = 2 from rfl, Nat.reduceMul, Nat.reduceEqDiff, Go.Addr.add, ↓reduceIte] at hx374_0); have qi374 : (2 < t365.length) = True := eq_true (by omega); (try rw [show ((2 : Int)).toNat = 2 from rfl] at hx374_0); replace p374 := eq_true p374; replace q374 := eq_true q374; refine start_ (n := 25) (S := fun w' => w'.cell? ad369 = some (.int .i64 (rd t360 0)) ∧ w'.cell? ad370 = some (.int .i64 (rd t365 0)) ∧ w'.cell? ⟨ad369.block, ad369.off + 1, none⟩ = some (.int .i64 (rd t360 1)) ∧ w'.cell? ⟨ad370.block, ad370.off + 1, none⟩ = some (.int .i64 (rd t365 1)) ∧ w'.cell? ⟨ad369.block, ad369.off + 2, none⟩ = some (.int .i64 (rd t360 2)) ∧ w'.cell? ⟨ad370.block, ad370.off + 2, none⟩ = some (.int .i64 (rd t365 2))) (ds := []) #[false, false, false, false, false, false, false, false, false, false, false, false, false, false, false, false, false, false, false, false, false, false, false, false, false] (by kernel_rfl) rfl rfl ⟨hx369_0, hx370_0, hx371_0, hx372_0, hx373_0, hx374_0⟩ (fun hHeld => ?_); refine with_tabW spec_l5Three.tab5 spec_l5Three.bits5 (fun HT_ HW_ => ?_); generalize w14.drew = w15 at HO362 HO364 HO368 HB hx369_0 hx370_0 hx371_0 hx372_0 hx373_0 hx374_0 hHeld ⊢; refine pure_ (i := 0) (N := some 21) (v := ?_) (a' := ?_) #[true, false, false, false, false, false, false, false, false, false, false, false, false, false, false, false, false, false, false, false, false, false, false, false, false] rfl rfl (any_of HT_.out (by kernel_rfl)) (fun _ _ _ h => h) (Or.inl ⟨by rfl, ?_⟩) ?_ ?_
        rotate_left
        ·intro w'; go_simp; with_reducible rfl
        rotate_left
        ·simp only [Act.put, List.setIfInBounds_toArray, List.set_cons_zero, List.set_cons_succ, i64_w, i32_w]; rfl
        refine Sqz.pu 1 (some 22) ?_; refine Sqz.pu 3 (some 24) ?_; refine Sqz.pu 4 (some 25) ?_; refine Sqz.pu 7 (some 28) ?_; refine Sqz.pu 8 (some 29) ?_; refine Sqz.pu 10 (some 31) ?_; refine Sqz.pu 11 (some 32) ?_; refine Sqz.pu 14 (some 35) ?_; refine Sqz.pu 15 (some 36) ?_; refine Sqz.pu 17 (some 38) ?_; refine Sqz.pu 18 (some 39) ?_; refine Sqz.ta6 2 (some 23) ?_; refine Sqz.ta6 5 (some 26) ?_; refine Sqz.pu 6 (some 27) ?_; refine Sqz.ta6 9 (some 30) ?_; refine Sqz.ta6 12 (some 33) ?_; refine Sqz.pu 13 (some 34) ?_; refine Sqz.ta6 16 (some 37) ?_; refine Sqz.ta6 19 (some 40) ?_; refine Sqz.pu 20 (some 41) ?_
        refine one_ (i := 21) (N := some 42) #[true, true, true, true, true, true, true, true, true, true, true, true, true, true, true, true, true, true, true, true, true, true, false, false, false] rfl rfl (one_of HT_.out (by kernel_rfl)) (by decide) (fun K hK => ?_); refine Kd.R_lit_step (Kd.int .i64) _ 3 ?hg (N := 42) ?hd (xs := ([wrap64 ((rd t360 0) * (rd t365 0)), wrap64 ((rd t360 1) * (rd t365 1)), wrap64 ((rd t360 2) * (rd t365 2))] : List Int)) (inner := [.int .i64 (wrap64 ((rd t360 0) * (rd t365 0))), .int .i64 (wrap64 ((rd t360 1) * (rd t365 1))), .int .i64 (wrap64 ((rd t360 2) * (rd t365 2)))]) (ok := fun _ => True) (okp := fun _ => True) ?hr ?hp (fun _ hk => hk) trivial (Below.refl _ _) (Nat.le_refl _) (by simp) ?_; (case hd => rfl); (case hg => rfl); (case hr => first | (go_simp; done) | (go_simp; rfl)); (case hp => exact (Reps.one (show Kd.M (Kd.int .i64) _ _ _ (wrap64 ((rd t360 0) * (rd t365 0))) [.int .i64 (wrap64 ((rd t360 0) * (rd t365 0)))] from rfl) (Reps.one (show Kd.M (Kd.int .i64) _ _ _ (wrap64 ((rd t360 1) * (rd t365 1))) [.int .i64 (wrap64 ((rd t360 1) * (rd t365 1)))] from rfl) (Reps.one (show Kd.M (Kd.int .i64) _ _ _ (wrap64 ((rd t360 2) * (rd t365 2))) [.int .i64 (wrap64 ((rd t360 2) * (rd t365 2)))] from rfl) (Reps.none _ _))))); intro v376 w18 ho19 hb hg_ hnew_; have HS0_ := (hb.cell (World.block_lt_of_cell? _ _ (hHeld.1))).trans (hHeld.1); have HS1_ := (hb.cell (World.block_lt_of_cell? _ _ (hHeld.2.1))).trans (hHeld.2.1); have HS2_ := (hb.cell (World.block_lt_of_cell? _ _ (hHeld.2.2.1))).trans (hHeld.2.2.1); have HS3_ := (hb.cell (World.block_lt_of_cell? _ _ (hHeld.2.2.2.1))).trans (hHeld.2.2.2.1); have HS4_ := (hb.cell (World.block_lt_of_cell? _ _ (hHeld.2.2.2.2.1))).trans (hHeld.2.2.2.2.1); have HS5_ := (hb.cell (World.block_lt_of_cell? _ _ (hHeld.2.2.2.2.2))).trans (hHeld.2.2.2.2.2); clear hg_ hnew_
        (first | rw [← Ny375.out] at ho19 | (simp only [Int.reduceToNat] at ho19; rw [← Ny375.out] at ho19))
        have n0_ := Aside0.mk (Kd.R_elder' ((Sqz.mvR HO362.out)) (Kd.R_base ho19) hb); have n1_ := Aside0.mk (Kd.R_elder' ((Sqz.mvR HO364.out)) (Kd.R_base ho19) hb); have n2_ := Aside0.mk (Kd.R_elder' ((Sqz.mvR HO368.out)) (Kd.R_base ho19) hb); have n3_ := Aside0.mk (Kd.R_lower (Kd.R_new' (Kd.R_new' (Kd.R_new' ho19 (Kd.R_lt ((Sqz.mvR HO362.out)))) (Kd.R_lt ((Sqz.mvR HO364.out)))) (Kd.R_lt ((Sqz.mvR HO368.out)))) (below_size (Sqz.auHB))); have n4_ := Aside0.mk (below_step (Sqz.auHB) hb); clear HO362; clear HO364; clear HO368; clear HB; have HO362 := n0_; have HO364 := n1_; have HO368 := n2_; have HO377 := n3_; have HB := n4_; clear n0_ n1_ n2_ n3_ n4_; clear hb ho19; obtain ⟨Ao20, co20, eo20⟩ := Kd.R_slice HO377.out
        (first | subst eo20 | (injection eo20 with f1_ f2_ f3_; have f4_ := f1_.symm; have f5_ := f3_.symm; clear f1_ f2_ f3_; subst f4_; subst f5_))
        refine hK.out _ _ ⟨HS0_, HS1_, HS2_, HS3_, HS4_, HS5_⟩ (fun hHeld => ?_); clear hK K; refine norm_ (a' := ?_) ?_ ?_; rotate_left
        ·show Act.put _ (some 42) _ = _
         simp only [Act.put, List.setIfInBounds_toArray, List.set_cons_zero, List.set_cons_succ, i64_w, i32_w]; rfl
        refine one_ (i := 22) (N := some 43) #[true, true, true, true, true, true, true, true, true, true, true, true, true, true, true, true, true, true, true, true, true, true, true, false, false] rfl rfl (one_of HT_.out (by kernel_rfl)) (by decide) (fun K hK => ?_); refine goes_ Tryz.func82 (by kernel_rfl) rfl #[.slice Ao20 y375.length co20] (by rfl) rfl rfl Sqz.auM ?_
        with_reducible refine (spec_l5Plain.calls k _ _ y375 t378 _ ?side1 ?side2 A11.out).mono ?_
        (case side1 => exact Sqz.mvC ((Kd.R_reads' HO377.out).2.2))
        (case side2 => exact (Kd.R_reads' HO377.out).2.1)
        rintro e w21 ⟨v379, rfl, ho0, hb⟩; have HS0_ := (hb.cell (World.block_lt_of_cell? _ _ (hHeld.1))).trans (hHeld.1); have HS1_ := (hb.cell (World.block_lt_of_cell? _ _ (hHeld.2.1))).trans (hHeld.2.1); have HS2_ := (hb.cell (World.block_lt_of_cell? _ _ (hHeld.2.2.1))).trans (hHeld.2.2.1); have HS3_ := (hb.cell (World.block_lt_of_cell? _ _ (hHeld.2.2.2.1))).trans (hHeld.2.2.2.1); have HS4_ := (hb.cell (World.block_lt_of_cell? _ _ (hHeld.2.2.2.2.1))).trans (hHeld.2.2.2.2.1); have HS5_ := (hb.cell (World.block_lt_of_cell? _ _ (hHeld.2.2.2.2.2))).trans (hHeld.2.2.2.2.2); refine ⟨_, rfl, ?_⟩; have n0_ := Aside0.mk (Kd.R_elder' ((Sqz.mvR HO362.out)) (Kd.R_base ho0) hb); have n1_ := Aside0.mk (Kd.R_elder' ((Sqz.mvR HO364.out)) (Kd.R_base ho0) hb); have n2_ := Aside0.mk (Kd.R_elder' ((Sqz.mvR HO368.out)) (Kd.R_base ho0) hb); have n3_ := Aside0.mk (Kd.R_elder' ((Sqz.mvR HO377.out)) (Kd.R_base ho0) hb); have n4_ := Aside0.mk (Kd.R_lower (Kd.R_new' (Kd.R_new' (Kd.R_new' (Kd.R_new' ho0 (Kd.R_lt ((Sqz.mvR HO362.out)))) (Kd.R_lt ((Sqz.mvR HO364.out)))) (Kd.R_lt ((Sqz.mvR HO368.out)))) (Kd.R_lt ((Sqz.mvR HO377.out)))) (below_size (Sqz.auHB))); have n5_ := Aside0.mk (below_step (Sqz.auHB) hb); clear HO362; clear HO364; clear HO368; clear HO377; clear HB; have HO362 := n0_; have HO364 := n1_; have HO368 := n2_; have HO377 := n3_; have HO380 := n4_; have HB := n5_; clear n0_ n1_ n2_ n3_ n4_ n5_; (try clear hb); (try clear hb2); (try clear hk); (try clear hi); (try clear ho0); refine hK.out _ _ ⟨HS0_, HS1_, HS2_, HS3_, HS4_, HS5_⟩ (fun hHeld => ?_); clear hK K; refine norm_ (a' := ?_) ?_ ?_; rotate_left
        ·show Act.put _ (some 43) _ = _
         simp only [Act.put, List.setIfInBounds_toArray, List.set_cons_zero, List.set_cons_succ, i64_w, i32_w]; rfl
        refine Sqz.pu 23 (some 2) ?_; refine Sqz.pu 24 (some 3) ?_
        refine done_ (done_of HT_.out (by kernel_rfl)) ?_
        try go_wp2
        go_ret2
        exact ⟨_, Sqz.auR, (Sqz.mvR (Kd.R_mono HO380.out (fun _ hk => trivial))), Sqz.auHB⟩
       ·rw [if_neg c10] at H; exact absurd H (by simp)
      ·rw [if_neg c9] at H; exact absurd H (by simp)
     ·rw [if_neg c8] at H; exact absurd H (by simp)
    ·rw [if_neg c7] at H; exact absurd H (by simp)
   ·rw [if_neg c6] at H; exact absurd H (by simp)
  ·rw [if_neg c5] at H; exact absurd H (by simp)
 ·replace c4 := Bool.eq_false_iff.mpr c4; subst c4; have H1 : (some ((([] : List Int)), false)) = some (r1, r2) := by rw [if_neg (show ¬ (false = true) by decide)] at H; exact H
  clear H; have H := H1; clear H1; obtain ⟨y381, hyy⟩ : ∃ y_ : List Int, y_ = (([] : List Int)) := ⟨_, rfl⟩
  replace H : (some (y381, false)) = some (r1, r2) := Sqz.auY
  have Ny381 := Aside0.mk hyy; clear hyy; simp only [Option.some.injEq, Prod.mk.injEq] at H; obtain ⟨rfl, rfl⟩ := H
  go_enter Tryz.func83, Tryz.ntmps83
  go_wp2_with (first | ((with_reducible refine gate_callee (f := 137) rfl ?_); refine goesL_ (some 10) rfl rfl Tryz.func137 (by kernel_rfl) rfl #[.slice A0 l0.length c0] rfl Sqz.auM ?_; (with_reducible refine (spec_l5Normal.calls k _ _ l0 t359 t360 _ ?side1 ?side2 A2.out).mono ?_); (case side1 => exact Sqz.mvC (HR0.out)); (case side2 => exact HC0.out); rintro e w22 ⟨v361, v363, rfl, ho0, ho1, hb⟩; refine ⟨_, rfl, ?_⟩; have HO362 := Aside0.mk (Kd.R_lower ho0 (below_size (Sqz.auHB))); have HO364 := Aside0.mk (Kd.R_lower ho1 (below_size (Sqz.auHB))); replace HB := Aside0.mk (below_step (Sqz.auHB) hb); (try clear hb); (try clear ho0); (try clear ho1); obtain ⟨Ao23, co23, eo23⟩ := Kd.R_slice HO362.out; subst eo23) | ((with_reducible refine gate_callee (f := 138) rfl ?_); refine goesL_ (some 15) rfl rfl Tryz.func138 (by kernel_rfl) rfl #[.slice Ao23 t359.length co23] rfl Sqz.auM ?_; (with_reducible refine (spec_l5Search.calls k _ _ t359 t365 false _ ?side1 ?side2 A3.out).mono ?_); (case side1 => exact Sqz.mvC ((Kd.R_reads' HO362.out).2.2)); (case side2 => exact (Kd.R_reads' HO362.out).2.1); rintro e w24 ⟨v367, rfl, ho0, hb⟩; refine ⟨_, rfl, ?_⟩; have HO368 := Aside0.mk (Kd.R_lower (Kd.R_new' (Kd.R_new' ho0 (Kd.R_lt ((Sqz.mvR HO362.out)))) (Kd.R_lt ((Sqz.mvR HO364.out)))) (below_size (Sqz.auHB))); replace HO362 := Aside0.mk (Kd.R_elder' ((Sqz.mvR HO362.out)) (Kd.R_base ho0) hb); replace HO364 := Aside0.mk (Kd.R_elder' ((Sqz.mvR HO364.out)) (Kd.R_base ho0) hb); replace HB := Aside0.mk (below_step (Sqz.auHB) hb); (try clear hb); (try clear ho0)) | ((with_reducible refine gate_dst (N := 20) rfl ?_); refine Kd.R_lit (Kd.int .i64) _ 3 ?hg (N := 20) ?hd (xs := ([] : List Int)) (inner := []) (ok := fun _ => True) (okp := fun _ => True) ?hr ?hp (fun _ hk => hk) trivial (Below.refl _ _) (Nat.le_refl _) (by simp) ?_; (case hd => rfl); (case hg => rfl); (case hr => first | (go_simp; done) | (go_simp; rfl)); (case hp => exact (Reps.none _ _)); intro v382 w25 ho26 hb hg_ hnew_; clear hg_ hnew_; (first | rw [← Ny381.out] at ho26 | (simp only [Int.reduceToNat] at ho26; rw [← Ny381.out] at ho26)); have HO383 := Aside0.mk (Kd.R_lower (Kd.R_new' (Kd.R_new' (Kd.R_new' ho26 (Kd.R_lt ((Sqz.mvR HO362.out)))) (Kd.R_lt ((Sqz.mvR HO364.out)))) (Kd.R_lt ((Sqz.mvR HO368.out)))) (below_size (Sqz.auHB))); replace HO362 := Aside0.mk (Kd.R_elder' ((Sqz.mvR HO362.out)) (Kd.R_base ho26) hb); replace HO364 := Aside0.mk (Kd.R_elder' ((Sqz.mvR HO364.out)) (Kd.R_base ho26) hb); replace HO368 := Aside0.mk (Kd.R_elder' ((Sqz.mvR HO368.out)) (Kd.R_base ho26) hb); replace HB := Aside0.mk (below_step (Sqz.auHB) hb); clear hb ho26))
  go_ret2
  exact ⟨_, Sqz.auR, (Sqz.mvR (Kd.R_mono HO383.out (fun _ hk => trivial))), Sqz.auHB⟩

end Go.Proofs.YtacfcoilmdhgnaaGreatDoor.PFnExecuteZero
