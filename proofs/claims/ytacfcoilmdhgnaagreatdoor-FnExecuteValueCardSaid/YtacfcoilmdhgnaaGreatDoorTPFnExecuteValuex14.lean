/- A function's Lean twin and its walk, written by a program of this session. -/
import Derived.Test.YtacfcoilmdhgnaaGreatDoorTPFnExecuteValuex0
import Derived.Test.YtacfcoilmdhgnaaGreatDoorTPFnExecuteValuex10
import Derived.Test.YtacfcoilmdhgnaaGreatDoorTPFnExecuteValuex12
import Derived.Test.YtacfcoilmdhgnaaGreatDoorTPFnExecuteValuex13
namespace Go.Proofs.YtacfcoilmdhgnaaGreatDoor.PFnExecuteValue
open Go.RowKit Go.Proofs.YtacfcoilmdhgnaaGreatDoorW.PrintWords Go.Proofs.YtacfcoilmdhgnaaGreatDoorW.PrintLast Go.Proofs.YtacfcoilmdhgnaaGreatDoorW.PrintMore
attribute [local go_sem] max2_int min2_int max_two min_two max_three min_three max_four min_four   -- for this text's walks alone
set_option linter.unusedVariables false
set_option linter.unusedSimpArgs false

/-! ### spec_l5Search: function 138 -/
mutual
def spec_l5Search.l0 : Nat → Int → Int → Int → Int → Option (List Int × Bool)
 | 0, _, _, _, _ => none
 | k + 1, x4, x5, x6, x7 => (spec_l1Size.f (wrap64 (x5 * x6))).bind fun t412 => (if (wrap64 (x7 * x7)) ≤ t412 then (spec_l5Search.l1 k x4 x5 x6 x7 0) else (some ((([] : List Int)), false)))
def spec_l5Search.l1 : Nat → Int → Int → Int → Int → Int → Option (List Int × Bool)
 | 0, _, _, _, _, _ => none
 | k + 1, x4, x5, x6, x7, x8 => (spec_l1Size.f (wrap64 (x4 * x6))).bind fun t416 => (if (wrap64 (x8 * x8)) ≤ t416 then (if x6 = 0 then (none) else (if (Int.tmod (wrap64 ((wrap64 (-(wrap64 ((wrap64 (x4 * x7)) * x7)))) - (wrap64 ((wrap64 (x5 * x8)) * x8)))) x6) = 0 then (if (wrap64 (Int.tdiv (wrap64 ((wrap64 (-(wrap64 ((wrap64 (x4 * x7)) * x7)))) - (wrap64 ((wrap64 (x5 * x8)) * x8)))) x6)) < 0 then (spec_l5Search.j2 k x4 x5 x6 x7 x8 (wrap64 ((wrap64 (-(wrap64 ((wrap64 (x4 * x7)) * x7)))) - (wrap64 ((wrap64 (x5 * x8)) * x8)))) true) else (if x7 = 0 then (spec_l5Search.j2 k x4 x5 x6 x7 x8 (wrap64 ((wrap64 (-(wrap64 ((wrap64 (x4 * x7)) * x7)))) - (wrap64 ((wrap64 (x5 * x8)) * x8)))) (x8 == 0)) else (spec_l5Search.j2 k x4 x5 x6 x7 x8 (wrap64 ((wrap64 (-(wrap64 ((wrap64 (x4 * x7)) * x7)))) - (wrap64 ((wrap64 (x5 * x8)) * x8)))) false))) else (spec_l5Search.j2 k x4 x5 x6 x7 x8 (wrap64 ((wrap64 (-(wrap64 ((wrap64 (x4 * x7)) * x7)))) - (wrap64 ((wrap64 (x5 * x8)) * x8)))) true))) else (spec_l5Search.l0 k x4 x5 x6 (wrap64 (x7 + 1))))
def spec_l5Search.j2 : Nat → Int → Int → Int → Int → Int → Int → Bool → Option (List Int × Bool)
 | 0, _, _, _, _, _, _, _ => none
 | k + 1, x4, x5, x6, x7, x8, x9, x69 => if x69 = true then (spec_l5Search.l1 k x4 x5 x6 x7 (wrap64 (x8 + 1))) else (if x6 = 0 then (none) else ((spec_l5Root.f k (wrap64 (Int.tdiv x9 x6))).bind fun t417 => (if t417 ≥ 0 then (some ((([x7, x8, t417] : List Int)), true)) else (spec_l5Search.l1 k x4 x5 x6 x7 (wrap64 (x8 + 1))))))
end
def spec_l5Search.f (k : Nat) (l0 : List Int) : Option (List Int × Bool) := if 0 < (l0.length : Int) then (if 1 < (l0.length : Int) then (if 2 < (l0.length : Int) then (spec_l5Search.l0 k (rd l0 0) (rd l0 1) (rd l0 2) 0) else (none)) else (none)) else (none)
set_option maxHeartbeats 8000000 in
set_option maxRecDepth 100000 in
theorem spec_l5Search.calls (k : Nat) (A0 : Option Addr) (c0 : Nat) (l0 : List Int) (r1 : List Int) (r2 : Bool) (w : World) (hr0 : Kd.C (Kd.int .i64) w A0 l0.length l0) (hc0 : l0.length ≤ c0) (h : spec_l5Search.f k l0 = some (r1, r2)) :
  Calls Tryz.prog 138 #[.slice A0 l0.length c0] w fun e w' => ∃ v0_ : Value, e = .returned (.tuple #[v0_, .bool r2]) ∧ Kd.R (Kd.int .i64) 3 w' w.heap.size (fun _ => True) v0_ r1 ∧ Below w.heap.size w w' := by
 have HR0 := Aside0.mk hr0; have HC0 := Aside0.mk hc0; clear hr0 hc0; have HB := Aside0.mk (Below.refl w.heap.size w); have H : (if 0 < (l0.length : Int) then (if 1 < (l0.length : Int) then (if 2 < (l0.length : Int) then (spec_l5Search.l0 k (rd l0 0) (rd l0 1) (rd l0 2) 0) else (none)) else (none)) else (none)) = some (r1, r2) := h; clear h
 by_cases c2 : 0 < (l0.length : Int)
 ·rw [if_pos c2] at H; have c2b0 := decide_eq_true c2; clear c2
  by_cases c3 : 1 < (l0.length : Int)
  ·rw [if_pos c3] at H; have c3b0 := decide_eq_true c3; clear c3
   by_cases c4 : 2 < (l0.length : Int)
   ·rw [if_pos c4] at H; have c4b0 := decide_eq_true c4; clear c4; have H' := Aside0.mk H; clear H; have p409 : 0 ≤ (0 : Int) := (by omega); have q409 : 0 < (l0.length : Int) := Sqz.od; obtain ⟨ad409, e409, hx409_0⟩ := Kd.at_int HR0.out 0 p409 q409; cases e409; have qi409 : (0 < l0.length) = True := eq_true (by omega); (try rw [show ((0 : Int)).toNat = 0 from rfl] at hx409_0); (try rw [Addr.add_zero'] at hx409_0); replace p409 := eq_true p409; replace q409 := eq_true q409; have p410 : 0 ≤ (1 : Int) := (by omega); have q410 : 1 < (l0.length : Int) := Sqz.od; obtain ⟨ad410, e410, hx410_0⟩ := Kd.at_int HR0.out 1 p410 q410; obtain rfl : ad409 = ad410 := (by injection e410); (try simp only [show (1 : Int).toNat = 1 from rfl, Nat.reduceMul, Nat.reduceEqDiff, Go.Addr.add, ↓reduceIte] at hx410_0); (try rw [show ((1 : Int)).toNat = 1 from rfl] at hx410_0); replace p410 := eq_true p410; replace q410 := eq_true q410; have p411 : 0 ≤ (2 : Int) := (by omega); have q411 : 2 < (l0.length : Int) := Sqz.od; obtain ⟨ad411, e411, hx411_0⟩ := Kd.at_int HR0.out 2 p411 q411; obtain rfl : ad409 = ad411 := (by injection e411); (try simp only [show (2 : Int).toNat = 2 from rfl, Nat.reduceMul, Nat.reduceEqDiff, Go.Addr.add, ↓reduceIte] at hx411_0); (try rw [show ((2 : Int)).toNat = 2 from rfl] at hx411_0); replace p411 := eq_true p411; replace q411 := eq_true q411
    go_enter Tryz.func138, Tryz.ntmps138
    go_wp2
    go_loopg [7] k (fun kq v7 w' => ∃ (x7_1 : Int), v7 = .int .i64 x7_1 ∧ Aside0 (spec_l5Search.l0 kq (rd l0 0) (rd l0 1) (rd l0 2) x7_1 = some (r1, r2)) ∧ Aside0 (kq ≤ k) ∧ Aside0 (Below w.heap.size w w'))
    case atStart => exact ⟨(0), Sqz.auS, H', ⟨Nat.le_refl _⟩, ⟨Sqz.auHB⟩⟩
    case round =>
     clear H'
     try clear c2b0
     try clear c3b0
     try clear c4b0
     try clear hx409_0
     try clear hx410_0
     try clear hx411_0
     try clear p409
     try clear p410
     try clear p411
     try clear q409
     try clear q410
     try clear q411
     obtain ⟨x7_1, rfl, HA, HK1, HB⟩ := hrel; cases gk with
     | zero => exact absurd HA.out (by simp [spec_l5Search.l0])
     | succ k1 =>
      have H := HA.out; clear HA; simp only [spec_l5Search.l0] at H; obtain ⟨t412, A5, H⟩ := Sqz.be H
      by_cases c6 : (wrap64 (x7_1 * x7_1)) ≤ t412
      ·rw [if_pos c6] at H; have c6b0 := decide_eq_true c6; clear c6; have H' := Aside0.mk H; clear H
       go_wp2_with (((with_reducible refine gate_callee (f := 134) rfl ?_); refine goesL_ (some 26) rfl rfl Tryz.func134 (by kernel_rfl) rfl #[.int .i64 (wrap64 ((rd l0 1) * (rd l0 2)))] rfl Sqz.auM ?_; (with_reducible refine (spec_l1Size.calls (wrap64 ((rd l0 1) * (rd l0 2))) t412 _ A5.out).mono ?_); rintro e w7 ⟨rfl, hb⟩; refine ⟨_, rfl, ?_⟩; replace HB := Aside0.mk (below_step (Sqz.auHB) hb); (try clear hb)))
       go_loopg [8] k1 (fun kq v8 w' => ∃ (x8_2 : Int), v8 = .int .i64 x8_2 ∧ Aside0 (spec_l5Search.l1 kq (rd l0 0) (rd l0 1) (rd l0 2) x7_1 x8_2 = some (r1, r2)) ∧ Aside0 (kq ≤ k1) ∧ Aside0 (Below w.heap.size w w'))
       case atStart => exact ⟨(0), Sqz.auS, H', ⟨Nat.le_refl _⟩, ⟨Sqz.auHB⟩⟩
       case round =>
        clear H'
        try clear c6b0
        obtain ⟨x8_2, rfl, HA, HK2, HB⟩ := hrel; cases gk with
        | zero => exact absurd HA.out (by simp [spec_l5Search.l1])
        | succ k2 =>
         have H := HA.out; clear HA; simp only [spec_l5Search.l1] at H; obtain ⟨t416, A8, H⟩ := Sqz.be H
         by_cases c9 : (wrap64 (x8_2 * x8_2)) ≤ t416
         ·rw [if_pos c9] at H; have c9b0 := decide_eq_true c9; clear c9; have HC10 := Aside0.mk H; clear H
          go_upto_region 11 with (((with_reducible refine gate_callee (f := 134) rfl ?_); refine goesL_ (some 36) rfl rfl Tryz.func134 (by kernel_rfl) rfl #[.int .i64 (wrap64 ((rd l0 0) * (rd l0 2)))] rfl Sqz.auM ?_; (with_reducible refine (spec_l1Size.calls (wrap64 ((rd l0 0) * (rd l0 2))) t416 _ A8.out).mono ?_); rintro e w11 ⟨rfl, hb⟩; refine ⟨_, rfl, ?_⟩; replace HB := Aside0.mk (below_step (Sqz.auHB) hb); (try clear hb)))
          (try simp only [Act.put, List.setIfInBounds_toArray, List.set_cons_zero, List.set_cons_succ])
          go_cut [69] (fun v69 wc => ∃ (kq : Nat) (x69_9 : Bool), v69 = .bool x69_9 ∧ Aside0 (spec_l5Search.j2 kq (rd l0 0) (rd l0 1) (rd l0 2) x7_1 x8_2 (wrap64 ((wrap64 (-(wrap64 ((wrap64 ((rd l0 0) * x7_1)) * x7_1)))) - (wrap64 ((wrap64 ((rd l0 1) * x8_2)) * x8_2)))) x69_9 = some (r1, r2)) ∧ Aside0 (kq ≤ k2) ∧ Aside0 (Below w.heap.size w wc))
          case first =>
           have H := HC10.out; clear HC10
           by_cases c12 : (rd l0 2) = 0
           ·rw [if_pos c12] at H; exact absurd H (by simp)
           ·rw [if_neg c12] at H
            by_cases c13 : (Int.tmod (wrap64 ((wrap64 (-(wrap64 ((wrap64 ((rd l0 0) * x7_1)) * x7_1)))) - (wrap64 ((wrap64 ((rd l0 1) * x8_2)) * x8_2)))) (rd l0 2)) = 0
            ·rw [if_pos c13] at H; have c13b1 := bne_eq_false_iff_eq.mpr c13; clear c13
             by_cases c14 : (wrap64 (Int.tdiv (wrap64 ((wrap64 (-(wrap64 ((wrap64 ((rd l0 0) * x7_1)) * x7_1)))) - (wrap64 ((wrap64 ((rd l0 1) * x8_2)) * x8_2)))) (rd l0 2))) < 0
             ·rw [if_pos c14] at H; have c14b0 := decide_eq_true c14; clear c14; have H' := Aside0.mk H; clear H; go_wp2
              go_meet
              case rel => exact ⟨_, (true), Sqz.auS, H', ⟨by have := HK1.out; have := HK2.out; first | omega | exact Nat.le_refl _⟩, ⟨Sqz.auHB⟩⟩
             ·rw [if_neg c14] at H; have c14b0 := decide_eq_false c14; clear c14
              by_cases c15 : x7_1 = 0
              ·rw [if_pos c15] at H; have c15b0 := beq_iff_eq.mpr c15; clear c15; have H' := Aside0.mk H; clear H; go_wp2
               go_meet
               case rel => exact ⟨_, ((x8_2 == 0)), Sqz.auS, H', ⟨by have := HK1.out; have := HK2.out; first | omega | exact Nat.le_refl _⟩, ⟨Sqz.auHB⟩⟩
              ·rw [if_neg c15] at H; have c15b0 := beq_eq_false_iff_ne.mpr c15; have H' := Aside0.mk H; clear H; go_wp2
               go_meet
               case rel => exact ⟨_, (false), Sqz.auS, H', ⟨by have := HK1.out; have := HK2.out; first | omega | exact Nat.le_refl _⟩, ⟨Sqz.auHB⟩⟩
            ·rw [if_neg c13] at H; have c13b1 := bne_iff_ne.mpr c13; have H' := Aside0.mk H; clear H; go_wp2
             go_meet
             case rel => exact ⟨_, (true), Sqz.auS, H', ⟨by have := HK1.out; have := HK2.out; first | omega | exact Nat.le_refl _⟩, ⟨Sqz.auHB⟩⟩
          case rest =>
           clear HC10
           try clear c9b0
           obtain ⟨kq, x69_9, rfl, HA, HJ9, HB⟩ := hcut; cases kq with
           | zero => exact absurd HA.out (by simp [spec_l5Search.j2])
           | succ kj9 =>
            have H := HA.out; clear HA; simp only [spec_l5Search.j2] at H
            by_cases c16 : x69_9 = true
            ·subst c16; have H1 : (spec_l5Search.l1 kj9 (rd l0 0) (rd l0 1) (rd l0 2) x7_1 (wrap64 (x8_2 + 1))) = some (r1, r2) := by rw [if_pos rfl] at H; exact H
             clear H; have H := H1; clear H1; have H' := Aside0.mk H; clear H; go_wp2
             go_roundg kj9
             case measure => have := HK1.out; have := HK2.out; have := HJ9.out; omega
             case rel => exact ⟨(wrap64 (x8_2 + 1)), Sqz.auS, H', ⟨by have := HK1.out; have := HK2.out; have := HJ9.out; omega⟩, ⟨Sqz.auHB⟩⟩
            ·replace c16 := Bool.eq_false_iff.mpr c16; subst c16; have H1 : (if (rd l0 2) = 0 then (none) else ((spec_l5Root.f kj9 (wrap64 (Int.tdiv (wrap64 ((wrap64 (-(wrap64 ((wrap64 ((rd l0 0) * x7_1)) * x7_1)))) - (wrap64 ((wrap64 ((rd l0 1) * x8_2)) * x8_2)))) (rd l0 2)))).bind fun t417 => (if t417 ≥ 0 then (some ((([x7_1, x8_2, t417] : List Int)), true)) else (spec_l5Search.l1 kj9 (rd l0 0) (rd l0 1) (rd l0 2) x7_1 (wrap64 (x8_2 + 1)))))) = some (r1, r2) := by rw [if_neg (show ¬ (false = true) by decide)] at H; exact H
             clear H; have H := H1; clear H1
             by_cases c17 : (rd l0 2) = 0
             ·rw [if_pos c17] at H; exact absurd H (by simp)
             ·rw [if_neg c17] at H; obtain ⟨t417, A18, H⟩ := Sqz.be H
              by_cases c19 : t417 ≥ 0
              ·rw [if_pos c19] at H; have c19b0 : decide (0 ≤ t417) = true := decide_eq_true c19; clear c19; obtain ⟨y418, hyy⟩ : ∃ y_ : List Int, y_ = (([x7_1, x8_2, t417] : List Int)) := ⟨_, rfl⟩
               replace H : (some (y418, true)) = some (r1, r2) := Sqz.auY
               have Ny418 := Aside0.mk hyy; clear hyy; simp only [Option.some.injEq, Prod.mk.injEq] at H; obtain ⟨rfl, rfl⟩ := H
               go_wp2_with (first | ((with_reducible refine gate_callee (f := 57) rfl ?_); refine goesL_ (some 73) rfl rfl Tryz.func57 (by kernel_rfl) rfl #[.int .i64 (wrap64 (Int.tdiv (wrap64 ((wrap64 (-(wrap64 ((wrap64 ((rd l0 0) * x7_1)) * x7_1)))) - (wrap64 ((wrap64 ((rd l0 1) * x8_2)) * x8_2)))) (rd l0 2)))] rfl Sqz.auM ?_; (with_reducible refine (spec_l5Root.calls kj9 (wrap64 (Int.tdiv (wrap64 ((wrap64 (-(wrap64 ((wrap64 ((rd l0 0) * x7_1)) * x7_1)))) - (wrap64 ((wrap64 ((rd l0 1) * x8_2)) * x8_2)))) (rd l0 2))) t417 _ A18.out).mono ?_); rintro e w' ⟨rfl, ⟨nd, rfl⟩⟩; refine ⟨_, rfl, ?_⟩) | ((with_reducible refine gate_dst (N := 79) rfl ?_); refine Kd.R_lit (Kd.int .i64) _ 3 ?hg (N := 79) ?hd (xs := ([x7_1, x8_2, t417] : List Int)) (inner := [.int .i64 x7_1, .int .i64 x8_2, .int .i64 t417]) (ok := fun _ => True) (okp := fun _ => True) ?hr ?hp (fun _ hk => hk) trivial (Below.refl _ _) (Nat.le_refl _) (by simp) ?_; (case hd => rfl); (case hg => rfl); (case hr => first | (go_simp; done) | (go_simp; rfl)); (case hp => exact (Reps.one (show Kd.M (Kd.int .i64) _ _ _ x7_1 [.int .i64 x7_1] from rfl) (Reps.one (show Kd.M (Kd.int .i64) _ _ _ x8_2 [.int .i64 x8_2] from rfl) (Reps.one (show Kd.M (Kd.int .i64) _ _ _ t417 [.int .i64 t417] from rfl) (Reps.none _ _))))); intro v419 w20 ho21 hb hg_ hnew_; clear hg_ hnew_; (first | rw [← Ny418.out] at ho21 | (simp only [Int.reduceToNat] at ho21; rw [← Ny418.out] at ho21)); have HO420 := Aside0.mk (Kd.R_lower ho21 (below_size (Sqz.auHB))); replace HB := Aside0.mk (below_step (Sqz.auHB) hb); clear hb ho21))
               go_ret2
               exact ⟨_, Sqz.auR, (Sqz.mvR HO420.out), Sqz.auHB⟩
              ·rw [if_neg c19] at H; have c19b0 : decide (0 ≤ t417) = false := decide_eq_false c19; clear c19; have H' := Aside0.mk H; clear H
               go_wp2_with (((with_reducible refine gate_callee (f := 57) rfl ?_); refine goesL_ (some 73) rfl rfl Tryz.func57 (by kernel_rfl) rfl #[.int .i64 (wrap64 (Int.tdiv (wrap64 ((wrap64 (-(wrap64 ((wrap64 ((rd l0 0) * x7_1)) * x7_1)))) - (wrap64 ((wrap64 ((rd l0 1) * x8_2)) * x8_2)))) (rd l0 2)))] rfl Sqz.auM ?_; (with_reducible refine (spec_l5Root.calls kj9 (wrap64 (Int.tdiv (wrap64 ((wrap64 (-(wrap64 ((wrap64 ((rd l0 0) * x7_1)) * x7_1)))) - (wrap64 ((wrap64 ((rd l0 1) * x8_2)) * x8_2)))) (rd l0 2))) t417 _ A18.out).mono ?_); rintro e w' ⟨rfl, ⟨nd, rfl⟩⟩; refine ⟨_, rfl, ?_⟩))
               go_roundg kj9
               case measure => have := HK1.out; have := HK2.out; have := HJ9.out; omega
               case rel => exact ⟨(wrap64 (x8_2 + 1)), Sqz.auS, H', ⟨by have := HK1.out; have := HK2.out; have := HJ9.out; omega⟩, ⟨Sqz.auHB⟩⟩
         ·rw [if_neg c9] at H; have c9b0 := decide_eq_false c9; clear c9; have H' := Aside0.mk H; clear H
          go_wp2_with (((with_reducible refine gate_callee (f := 134) rfl ?_); refine goesL_ (some 36) rfl rfl Tryz.func134 (by kernel_rfl) rfl #[.int .i64 (wrap64 ((rd l0 0) * (rd l0 2)))] rfl Sqz.auM ?_; (with_reducible refine (spec_l1Size.calls (wrap64 ((rd l0 0) * (rd l0 2))) t416 _ A8.out).mono ?_); rintro e w22 ⟨rfl, hb⟩; refine ⟨_, rfl, ?_⟩; replace HB := Aside0.mk (below_step (Sqz.auHB) hb); (try clear hb)))
          go_roundg k2
          case measure => have := HK1.out; have := HK2.out; omega
          case rel => exact ⟨(wrap64 (x7_1 + 1)), Sqz.auS, H', ⟨by have := HK1.out; have := HK2.out; omega⟩, ⟨Sqz.auHB⟩⟩
      ·rw [if_neg c6] at H; have c6b0 := decide_eq_false c6; clear c6; obtain ⟨y413, hyy⟩ : ∃ y_ : List Int, y_ = (([] : List Int)) := ⟨_, rfl⟩
       replace H : (some (y413, false)) = some (r1, r2) := Sqz.auY
       have Ny413 := Aside0.mk hyy; clear hyy; simp only [Option.some.injEq, Prod.mk.injEq] at H; obtain ⟨rfl, rfl⟩ := H
       go_wp2_with (first | ((with_reducible refine gate_callee (f := 134) rfl ?_); refine goesL_ (some 26) rfl rfl Tryz.func134 (by kernel_rfl) rfl #[.int .i64 (wrap64 ((rd l0 1) * (rd l0 2)))] rfl Sqz.auM ?_; (with_reducible refine (spec_l1Size.calls (wrap64 ((rd l0 1) * (rd l0 2))) t412 _ A5.out).mono ?_); rintro e w23 ⟨rfl, hb⟩; refine ⟨_, rfl, ?_⟩; replace HB := Aside0.mk (below_step (Sqz.auHB) hb); (try clear hb)) | ((with_reducible refine gate_dst (N := 80) rfl ?_); refine Kd.R_lit (Kd.int .i64) _ 3 ?hg (N := 80) ?hd (xs := ([] : List Int)) (inner := []) (ok := fun _ => True) (okp := fun _ => True) ?hr ?hp (fun _ hk => hk) trivial (Below.refl _ _) (Nat.le_refl _) (by simp) ?_; (case hd => rfl); (case hg => rfl); (case hr => first | (go_simp; done) | (go_simp; rfl)); (case hp => exact (Reps.none _ _)); intro v414 w24 ho25 hb hg_ hnew_; clear hg_ hnew_; (first | rw [← Ny413.out] at ho25 | (simp only [Int.reduceToNat] at ho25; rw [← Ny413.out] at ho25)); have HO415 := Aside0.mk (Kd.R_lower ho25 (below_size (Sqz.auHB))); replace HB := Aside0.mk (below_step (Sqz.auHB) hb); clear hb ho25))
       go_ret2
       exact ⟨_, Sqz.auR, (Sqz.mvR HO415.out), Sqz.auHB⟩
   ·rw [if_neg c4] at H; exact absurd H (by simp)
  ·rw [if_neg c3] at H; exact absurd H (by simp)
 ·rw [if_neg c2] at H; exact absurd H (by simp)

/-! ### spec_l5Three: function 83 -/
def spec_l5Three.f (k : Nat) (l0 : List Int) : Option (List Int × Bool) := (spec_l5Normal.f k l0).bind fun bt421 => ((spec_l5Search.f k bt421.1).bind fun bt427 => (if bt427.2 = true then (if 0 < (bt421.2.length : Int) then (if 0 < (bt427.1.length : Int) then (if 1 < (bt421.2.length : Int) then (if 1 < (bt427.1.length : Int) then (if 2 < (bt421.2.length : Int) then (if 2 < (bt427.1.length : Int) then ((spec_l5Plain.f k (([wrap64 ((rd bt421.2 0) * (rd bt427.1 0)), wrap64 ((rd bt421.2 1) * (rd bt427.1 1)), wrap64 ((rd bt421.2 2) * (rd bt427.1 2))] : List Int))).bind fun t440 => (some (t440, true))) else (none)) else (none)) else (none)) else (none)) else (none)) else (none)) else (some ((([] : List Int)), false))))
def spec_l5Three.T5 : Bool × List (List Nat × List Nat) := (true, [([], []), ([0], [0]), ([1], [1]), ([], []), ([3], [3]), ([4], [4]), ([2, 5], [2, 5]), ([], []), ([7], [7]), ([8], [8]), ([], []), ([10], [10]), ([11], [11]), ([9, 12], [9, 12]), ([], []), ([14], [14]), ([15], [15]), ([], []), ([17], [17]), ([18], [18]), ([16, 19], [16, 19]), ([6, 13, 20], [6, 13, 20]), ([21], [21]), ([22, 22, 0, 1, 2, 3, 4, 5, 6, 7, 8, 9, 10, 11, 12, 13, 14, 15, 16, 17, 18, 19, 20, 21, 22], [22]), ([23, 0, 1, 2, 3, 4, 5, 6, 7, 8, 9, 10, 11, 12, 13, 14, 15, 16, 17, 18, 19, 20, 21, 22, 23], [])])
def spec_l5Three.B5 : List Nat := [0, 1, 3, 0, 8, 24, 63, 0, 128, 384, 0, 1024, 3072, 8064, 0, 16384, 49152, 0, 131072, 393216, 1032192, 2097151, 4194303, 8388607, 16777215]
theorem spec_l5Three.tab5 : rtab .any (opsOf Tryz.f83 5) = spec_l5Three.T5 := by kernel_rfl
theorem spec_l5Three.bits5 : waitsOk spec_l5Three.T5.2 spec_l5Three.B5 = true := by kernel_rfl
set_option maxHeartbeats 8000000 in
set_option maxRecDepth 100000 in
theorem spec_l5Three.calls (k : Nat) (A0 : Option Addr) (c0 : Nat) (l0 : List Int) (r1 : List Int) (r2 : Bool) (w : World) (hr0 : Kd.C (Kd.int .i64) w A0 l0.length l0) (hc0 : l0.length ≤ c0) (h : spec_l5Three.f k l0 = some (r1, r2)) :
  Calls Tryz.prog 83 #[.slice A0 l0.length c0] w fun e w' => ∃ v0_ : Value, e = .returned (.tuple #[v0_, .bool r2]) ∧ Kd.R (Kd.int .i64) 3 w' w.heap.size (fun _ => True) v0_ r1 ∧ Below w.heap.size w w' := by
 have HR0 := Aside0.mk hr0; have HC0 := Aside0.mk hc0; clear hr0 hc0; have HB := Aside0.mk (Below.refl w.heap.size w); have H : ((spec_l5Normal.f k l0).bind fun bt421 => ((spec_l5Search.f k bt421.1).bind fun bt427 => (if bt427.2 = true then (if 0 < (bt421.2.length : Int) then (if 0 < (bt427.1.length : Int) then (if 1 < (bt421.2.length : Int) then (if 1 < (bt427.1.length : Int) then (if 2 < (bt421.2.length : Int) then (if 2 < (bt427.1.length : Int) then ((spec_l5Plain.f k (([wrap64 ((rd bt421.2 0) * (rd bt427.1 0)), wrap64 ((rd bt421.2 1) * (rd bt427.1 1)), wrap64 ((rd bt421.2 2) * (rd bt427.1 2))] : List Int))).bind fun t440 => (some (t440, true))) else (none)) else (none)) else (none)) else (none)) else (none)) else (none)) else (some ((([] : List Int)), false))))) = some (r1, r2) := h; clear h; replace H := Option.bind_eq_some_iff.mp H; obtain ⟨⟨t421, t422⟩, A20, H⟩ := H; replace H : ((spec_l5Search.f k t421).bind fun bt427 => (if bt427.2 = true then (if 0 < (t422.length : Int) then (if 0 < (bt427.1.length : Int) then (if 1 < (t422.length : Int) then (if 1 < (bt427.1.length : Int) then (if 2 < (t422.length : Int) then (if 2 < (bt427.1.length : Int) then ((spec_l5Plain.f k (([wrap64 ((rd t422 0) * (rd bt427.1 0)), wrap64 ((rd t422 1) * (rd bt427.1 1)), wrap64 ((rd t422 2) * (rd bt427.1 2))] : List Int))).bind fun t440 => (some (t440, true))) else (none)) else (none)) else (none)) else (none)) else (none)) else (none)) else (some ((([] : List Int)), false)))) = some (r1, r2) := H; have A2 := Aside0.mk A20; clear A20; replace H := Option.bind_eq_some_iff.mp H; obtain ⟨⟨t427, t428⟩, A30, H⟩ := H; replace H : (if t428 = true then (if 0 < (t422.length : Int) then (if 0 < (t427.length : Int) then (if 1 < (t422.length : Int) then (if 1 < (t427.length : Int) then (if 2 < (t422.length : Int) then (if 2 < (t427.length : Int) then ((spec_l5Plain.f k (([wrap64 ((rd t422 0) * (rd t427 0)), wrap64 ((rd t422 1) * (rd t427 1)), wrap64 ((rd t422 2) * (rd t427 2))] : List Int))).bind fun t440 => (some (t440, true))) else (none)) else (none)) else (none)) else (none)) else (none)) else (none)) else (some ((([] : List Int)), false))) = some (r1, r2) := H; have A3 := Aside0.mk A30; clear A30
 by_cases c4 : t428 = true
 ·subst c4; have H1 : (if 0 < (t422.length : Int) then (if 0 < (t427.length : Int) then (if 1 < (t422.length : Int) then (if 1 < (t427.length : Int) then (if 2 < (t422.length : Int) then (if 2 < (t427.length : Int) then ((spec_l5Plain.f k (([wrap64 ((rd t422 0) * (rd t427 0)), wrap64 ((rd t422 1) * (rd t427 1)), wrap64 ((rd t422 2) * (rd t427 2))] : List Int))).bind fun t440 => (some (t440, true))) else (none)) else (none)) else (none)) else (none)) else (none)) else (none)) = some (r1, r2) := by rw [if_pos rfl] at H; exact H
  clear H; have H := H1; clear H1
  by_cases c5 : 0 < (t422.length : Int)
  ·rw [if_pos c5] at H; have c5b0 := decide_eq_true c5; clear c5
   by_cases c6 : 0 < (t427.length : Int)
   ·rw [if_pos c6] at H; have c6b0 := decide_eq_true c6; clear c6
    by_cases c7 : 1 < (t422.length : Int)
    ·rw [if_pos c7] at H; have c7b0 := decide_eq_true c7; clear c7
     by_cases c8 : 1 < (t427.length : Int)
     ·rw [if_pos c8] at H; have c8b0 := decide_eq_true c8; clear c8
      by_cases c9 : 2 < (t422.length : Int)
      ·rw [if_pos c9] at H; have c9b0 := decide_eq_true c9; clear c9
       by_cases c10 : 2 < (t427.length : Int)
       ·rw [if_pos c10] at H; have c10b0 := decide_eq_true c10; clear c10; obtain ⟨y437, hyy⟩ : ∃ y_ : List Int, y_ = (([wrap64 ((rd t422 0) * (rd t427 0)), wrap64 ((rd t422 1) * (rd t427 1)), wrap64 ((rd t422 2) * (rd t427 2))] : List Int)) := ⟨_, rfl⟩
        replace H : ((spec_l5Plain.f k y437).bind fun t440 => (some (t440, true))) = some (r1, r2) := Sqz.auY
        have Ny437 := Aside0.mk hyy; clear hyy; obtain ⟨t440, A11, H⟩ := Sqz.be H; simp only [Option.some.injEq, Prod.mk.injEq] at H; obtain ⟨rfl, rfl⟩ := H
        go_enter Tryz.func83, Tryz.ntmps83
        try go_wp2_with (first | ((with_reducible refine gate_callee (f := 137) rfl ?_); refine goesL_ (some 10) rfl rfl Tryz.func137 (by kernel_rfl) rfl #[.slice A0 l0.length c0] rfl Sqz.auM ?_; (with_reducible refine (spec_l5Normal.calls k _ _ l0 t421 t422 _ ?side1 ?side2 A2.out).mono ?_); (case side1 => exact Sqz.mvC (HR0.out)); (case side2 => exact HC0.out); rintro e w12 ⟨v423, v425, rfl, ho0, ho1, hb⟩; refine ⟨_, rfl, ?_⟩; have HO424 := Aside0.mk (Kd.R_lower ho0 (below_size (Sqz.auHB))); have HO426 := Aside0.mk (Kd.R_lower ho1 (below_size (Sqz.auHB))); replace HB := Aside0.mk (below_step (Sqz.auHB) hb); (try clear hb); (try clear ho0); (try clear ho1); obtain ⟨Ao13, co13, eo13⟩ := Kd.R_slice HO424.out; subst eo13) | ((with_reducible refine gate_callee (f := 138) rfl ?_); refine goesL_ (some 15) rfl rfl Tryz.func138 (by kernel_rfl) rfl #[.slice Ao13 t421.length co13] rfl Sqz.auM ?_; (with_reducible refine (spec_l5Search.calls k _ _ t421 t427 true _ ?side1 ?side2 A3.out).mono ?_); (case side1 => exact Sqz.mvC ((Kd.R_reads' HO424.out).2.2)); (case side2 => exact (Kd.R_reads' HO424.out).2.1); rintro e w14 ⟨v429, rfl, ho0, hb⟩; refine ⟨_, rfl, ?_⟩; have HO430 := Aside0.mk (Kd.R_lower (Kd.R_new' (Kd.R_new' ho0 (Kd.R_lt ((Sqz.mvR HO424.out)))) (Kd.R_lt ((Sqz.mvR HO426.out)))) (below_size (Sqz.auHB))); replace HO424 := Aside0.mk (Kd.R_elder' ((Sqz.mvR HO424.out)) (Kd.R_base ho0) hb); replace HO426 := Aside0.mk (Kd.R_elder' ((Sqz.mvR HO426.out)) (Kd.R_base ho0) hb); replace HB := Aside0.mk (below_step (Sqz.auHB) hb); (try clear hb); (try clear ho0)))
        have n0_ := Aside0.mk (Kd.R_drew HO424.out); have n1_ := Aside0.mk (Kd.R_drew HO426.out); have n2_ := Aside0.mk (Kd.R_drew HO430.out); have n3_ := Aside0.mk (below_drew1 HB.out); clear HO424; clear HO426; clear HO430; clear HB; have HO424 := n0_; have HO426 := n1_; have HO430 := n2_; have HB := n3_; clear n0_ n1_ n2_ n3_; obtain ⟨Ao16, co16, eo16⟩ := Kd.R_slice HO426.out
        (first | subst eo16 | (injection eo16 with f1_ f2_ f3_; have f4_ := f1_.symm; have f5_ := f3_.symm; clear f1_ f2_ f3_; subst f4_; subst f5_))
        have p431 : 0 ≤ (0 : Int) := (by omega); have q431 : 0 < (t422.length : Int) := Sqz.od; obtain ⟨ad431, e431, hx431_0⟩ := Kd.at_int (Kd.R_reads' HO426.out).2.2 0 p431 q431; cases e431; have qi431 : (0 < t422.length) = True := eq_true (by omega); (try rw [show ((0 : Int)).toNat = 0 from rfl] at hx431_0); (try rw [Addr.add_zero'] at hx431_0); replace p431 := eq_true p431; replace q431 := eq_true q431; obtain ⟨Ao17, co17, eo17⟩ := Kd.R_slice HO430.out
        (first | subst eo17 | (injection eo17 with f1_ f2_ f3_; have f4_ := f1_.symm; have f5_ := f3_.symm; clear f1_ f2_ f3_; subst f4_; subst f5_))
        have p432 : 0 ≤ (0 : Int) := (by omega); have q432 : 0 < (t427.length : Int) := Sqz.od; obtain ⟨ad432, e432, hx432_0⟩ := Kd.at_int (Kd.R_reads' HO430.out).2.2 0 p432 q432; cases e432; have qi432 : (0 < t427.length) = True := eq_true (by omega); (try rw [show ((0 : Int)).toNat = 0 from rfl] at hx432_0); (try rw [Addr.add_zero'] at hx432_0); replace p432 := eq_true p432; replace q432 := eq_true q432; have p433 : 0 ≤ (1 : Int) := (by omega); have q433 : 1 < (t422.length : Int) := Sqz.od; obtain ⟨ad433, e433, hx433_0⟩ := Kd.at_int (Kd.R_reads' HO426.out).2.2 1 p433 q433; obtain rfl : ad431 = ad433 := (by injection e433); (try simp only [show (1 : Int).toNat = 1 from rfl, Nat.reduceMul, Nat.reduceEqDiff, Go.Addr.add, ↓reduceIte] at hx433_0); (try rw [show ((1 : Int)).toNat = 1 from rfl] at hx433_0); replace p433 := eq_true p433; replace q433 := eq_true q433; have p434 : 0 ≤ (1 : Int) := (by omega); have q434 : 1 < (t427.length : Int) := Sqz.od; obtain ⟨ad434, e434, hx434_0⟩ := Kd.at_int (Kd.R_reads' HO430.out).2.2 1 p434 q434; obtain rfl : ad432 = ad434 := (by injection e434); (try simp only [show (1 : Int).toNat = 1 from rfl, Nat.reduceMul, Nat.reduceEqDiff, Go.Addr.add, ↓reduceIte] at hx434_0); (try rw [show ((1 : Int)).toNat = 1 from rfl] at hx434_0); replace p434 := eq_true p434; replace q434 := eq_true q434; have p435 : 0 ≤ (2 : Int) := (by omega); have q435 : 2 < (t422.length : Int) := Sqz.od; obtain ⟨ad435, e435, hx435_0⟩ := Kd.at_int (Kd.R_reads' HO426.out).2.2 2 p435 q435; obtain rfl : ad431 = ad435 := (by injection e435); (try simp only [show (2 : Int).toNat = 2 from rfl, Nat.reduceMul, Nat.reduceEqDiff, Go.Addr.add, ↓reduceIte] at hx435_0); (try rw [show ((2 : Int)).toNat = 2 from rfl] at hx435_0); replace p435 := eq_true p435; replace q435 := eq_true q435; have p436 : 0 ≤ (2 : Int) := (by omega); have q436 : 2 < (t427.length : Int) := Sqz.od; obtain ⟨ad436, e436, hx436_0⟩ := Kd.at_int (Kd.R_reads' HO430.out).2.2 2 p436 q436; obtain rfl : ad432 = ad436 := (by injection e436); (try simp only [show (2 : Int).toNat = 2 from rfl, Nat.reduceMul, Nat.reduceEqDiff, Go.Addr.add, ↓reduceIte] at hx436_0); (try rw [show ((2 : Int)).toNat = 2 from rfl] at hx436_0); replace p436 := eq_true p436; replace q436 := eq_true q436; refine start_ (n := 25) (S := fun w' => w'.cell? ad431 = some (.int .i64 (rd t422 0)) ∧ w'.cell? ad432 = some (.int .i64 (rd t427 0)) ∧ w'.cell? ⟨ad431.block, ad431.off + 1, none⟩ = some (.int .i64 (rd t422 1)) ∧ w'.cell? ⟨ad432.block, ad432.off + 1, none⟩ = some (.int .i64 (rd t427 1)) ∧ w'.cell? ⟨ad431.block, ad431.off + 2, none⟩ = some (.int .i64 (rd t422 2)) ∧ w'.cell? ⟨ad432.block, ad432.off + 2, none⟩ = some (.int .i64 (rd t427 2))) (ds := []) #[false, false, false, false, false, false, false, false, false, false, false, false, false, false, false, false, false, false, false, false, false, false, false, false, false] (by kernel_rfl) rfl rfl ⟨hx431_0, hx432_0, hx433_0, hx434_0, hx435_0, hx436_0⟩ (fun hHeld => ?_); refine with_tabW spec_l5Three.tab5 spec_l5Three.bits5 (fun HT_ HW_ => ?_); generalize w14.drew = w15 at HO424 HO426 HO430 HB hx431_0 hx432_0 hx433_0 hx434_0 hx435_0 hx436_0 hHeld ⊢; refine pure_ (i := 0) (N := some 21) (v := ?_) (a' := ?_) #[true, false, false, false, false, false, false, false, false, false, false, false, false, false, false, false, false, false, false, false, false, false, false, false, false] rfl rfl (any_of HT_.out (by kernel_rfl)) (fun _ _ _ h => h) (Or.inl ⟨by rfl, ?_⟩) ?_ ?_
        rotate_left
        ·intro w'; go_simp; with_reducible rfl
        rotate_left
        ·simp only [Act.put, List.setIfInBounds_toArray, List.set_cons_zero, List.set_cons_succ, i64_w, i32_w]; rfl
        refine Sqz.pu 1 (some 22) ?_; refine Sqz.pu 3 (some 24) ?_; refine Sqz.pu 4 (some 25) ?_; refine Sqz.pu 7 (some 28) ?_; refine Sqz.pu 8 (some 29) ?_; refine Sqz.pu 10 (some 31) ?_; refine Sqz.pu 11 (some 32) ?_; refine Sqz.pu 14 (some 35) ?_; refine Sqz.pu 15 (some 36) ?_; refine Sqz.pu 17 (some 38) ?_; refine Sqz.pu 18 (some 39) ?_; refine Sqz.ta6 2 (some 23) ?_; refine Sqz.ta6 5 (some 26) ?_; refine Sqz.pu 6 (some 27) ?_; refine Sqz.ta6 9 (some 30) ?_; refine Sqz.ta6 12 (some 33) ?_; refine Sqz.pu 13 (some 34) ?_; refine Sqz.ta6 16 (some 37) ?_; refine Sqz.ta6 19 (some 40) ?_; refine Sqz.pu 20 (some 41) ?_
        refine one_ (i := 21) (N := some 42) #[true, true, true, true, true, true, true, true, true, true, true, true, true, true, true, true, true, true, true, true, true, true, false, false, false] rfl rfl (one_of HT_.out (by kernel_rfl)) (by decide) (fun K hK => ?_); refine Kd.R_lit_step (Kd.int .i64) _ 3 ?hg (N := 42) ?hd (xs := ([wrap64 ((rd t422 0) * (rd t427 0)), wrap64 ((rd t422 1) * (rd t427 1)), wrap64 ((rd t422 2) * (rd t427 2))] : List Int)) (inner := [.int .i64 (wrap64 ((rd t422 0) * (rd t427 0))), .int .i64 (wrap64 ((rd t422 1) * (rd t427 1))), .int .i64 (wrap64 ((rd t422 2) * (rd t427 2)))]) (ok := fun _ => True) (okp := fun _ => True) ?hr ?hp (fun _ hk => hk) trivial (Below.refl _ _) (Nat.le_refl _) (by simp) ?_; (case hd => rfl); (case hg => rfl); (case hr => first | (go_simp; done) | (go_simp; rfl)); (case hp => exact (Reps.one (show Kd.M (Kd.int .i64) _ _ _ (wrap64 ((rd t422 0) * (rd t427 0))) [.int .i64 (wrap64 ((rd t422 0) * (rd t427 0)))] from rfl) (Reps.one (show Kd.M (Kd.int .i64) _ _ _ (wrap64 ((rd t422 1) * (rd t427 1))) [.int .i64 (wrap64 ((rd t422 1) * (rd t427 1)))] from rfl) (Reps.one (show Kd.M (Kd.int .i64) _ _ _ (wrap64 ((rd t422 2) * (rd t427 2))) [.int .i64 (wrap64 ((rd t422 2) * (rd t427 2)))] from rfl) (Reps.none _ _))))); intro v438 w18 ho19 hb hg_ hnew_; have HS0_ := (hb.cell (World.block_lt_of_cell? _ _ (hHeld.1))).trans (hHeld.1); have HS1_ := (hb.cell (World.block_lt_of_cell? _ _ (hHeld.2.1))).trans (hHeld.2.1); have HS2_ := (hb.cell (World.block_lt_of_cell? _ _ (hHeld.2.2.1))).trans (hHeld.2.2.1); have HS3_ := (hb.cell (World.block_lt_of_cell? _ _ (hHeld.2.2.2.1))).trans (hHeld.2.2.2.1); have HS4_ := (hb.cell (World.block_lt_of_cell? _ _ (hHeld.2.2.2.2.1))).trans (hHeld.2.2.2.2.1); have HS5_ := (hb.cell (World.block_lt_of_cell? _ _ (hHeld.2.2.2.2.2))).trans (hHeld.2.2.2.2.2); clear hg_ hnew_
        (first | rw [← Ny437.out] at ho19 | (simp only [Int.reduceToNat] at ho19; rw [← Ny437.out] at ho19))
        have n0_ := Aside0.mk (Kd.R_elder' ((Sqz.mvR HO424.out)) (Kd.R_base ho19) hb); have n1_ := Aside0.mk (Kd.R_elder' ((Sqz.mvR HO426.out)) (Kd.R_base ho19) hb); have n2_ := Aside0.mk (Kd.R_elder' ((Sqz.mvR HO430.out)) (Kd.R_base ho19) hb); have n3_ := Aside0.mk (Kd.R_lower (Kd.R_new' (Kd.R_new' (Kd.R_new' ho19 (Kd.R_lt ((Sqz.mvR HO424.out)))) (Kd.R_lt ((Sqz.mvR HO426.out)))) (Kd.R_lt ((Sqz.mvR HO430.out)))) (below_size (Sqz.auHB))); have n4_ := Aside0.mk (below_step (Sqz.auHB) hb); clear HO424; clear HO426; clear HO430; clear HB; have HO424 := n0_; have HO426 := n1_; have HO430 := n2_; have HO439 := n3_; have HB := n4_; clear n0_ n1_ n2_ n3_ n4_; clear hb ho19; obtain ⟨Ao20, co20, eo20⟩ := Kd.R_slice HO439.out
        (first | subst eo20 | (injection eo20 with f1_ f2_ f3_; have f4_ := f1_.symm; have f5_ := f3_.symm; clear f1_ f2_ f3_; subst f4_; subst f5_))
        refine hK.out _ _ ⟨HS0_, HS1_, HS2_, HS3_, HS4_, HS5_⟩ (fun hHeld => ?_); clear hK K; refine norm_ (a' := ?_) ?_ ?_; rotate_left
        ·show Act.put _ (some 42) _ = _
         simp only [Act.put, List.setIfInBounds_toArray, List.set_cons_zero, List.set_cons_succ, i64_w, i32_w]; rfl
        refine one_ (i := 22) (N := some 43) #[true, true, true, true, true, true, true, true, true, true, true, true, true, true, true, true, true, true, true, true, true, true, true, false, false] rfl rfl (one_of HT_.out (by kernel_rfl)) (by decide) (fun K hK => ?_); refine goes_ Tryz.func82 (by kernel_rfl) rfl #[.slice Ao20 y437.length co20] (by rfl) rfl rfl Sqz.auM ?_
        with_reducible refine (spec_l5Plain.calls k _ _ y437 t440 _ ?side1 ?side2 A11.out).mono ?_
        (case side1 => exact Sqz.mvC ((Kd.R_reads' HO439.out).2.2))
        (case side2 => exact (Kd.R_reads' HO439.out).2.1)
        rintro e w21 ⟨v441, rfl, ho0, hb⟩; have HS0_ := (hb.cell (World.block_lt_of_cell? _ _ (hHeld.1))).trans (hHeld.1); have HS1_ := (hb.cell (World.block_lt_of_cell? _ _ (hHeld.2.1))).trans (hHeld.2.1); have HS2_ := (hb.cell (World.block_lt_of_cell? _ _ (hHeld.2.2.1))).trans (hHeld.2.2.1); have HS3_ := (hb.cell (World.block_lt_of_cell? _ _ (hHeld.2.2.2.1))).trans (hHeld.2.2.2.1); have HS4_ := (hb.cell (World.block_lt_of_cell? _ _ (hHeld.2.2.2.2.1))).trans (hHeld.2.2.2.2.1); have HS5_ := (hb.cell (World.block_lt_of_cell? _ _ (hHeld.2.2.2.2.2))).trans (hHeld.2.2.2.2.2); refine ⟨_, rfl, ?_⟩; have n0_ := Aside0.mk (Kd.R_elder' ((Sqz.mvR HO424.out)) (Kd.R_base ho0) hb); have n1_ := Aside0.mk (Kd.R_elder' ((Sqz.mvR HO426.out)) (Kd.R_base ho0) hb); have n2_ := Aside0.mk (Kd.R_elder' ((Sqz.mvR HO430.out)) (Kd.R_base ho0) hb); have n3_ := Aside0.mk (Kd.R_elder' ((Sqz.mvR HO439.out)) (Kd.R_base ho0) hb); have n4_ := Aside0.mk (Kd.R_lower (Kd.R_new' (Kd.R_new' (Kd.R_new' (Kd.R_new' ho0 (Kd.R_lt ((Sqz.mvR HO424.out)))) (Kd.R_lt ((Sqz.mvR HO426.out)))) (Kd.R_lt ((Sqz.mvR HO430.out)))) (Kd.R_lt ((Sqz.mvR HO439.out)))) (below_size (Sqz.auHB))); have n5_ := Aside0.mk (below_step (Sqz.auHB) hb); clear HO424; clear HO426; clear HO430; clear HO439; clear HB; have HO424 := n0_; have HO426 := n1_; have HO430 := n2_; have HO439 := n3_; have HO442 := n4_; have HB := n5_; clear n0_ n1_ n2_ n3_ n4_ n5_; (try clear hb); (try clear hb2); (try clear hk); (try clear hi); (try clear ho0); refine hK.out _ _ ⟨HS0_, HS1_, HS2_, HS3_, HS4_, HS5_⟩ (fun hHeld => ?_); clear hK K; refine norm_ (a' := ?_) ?_ ?_; rotate_left
        ·show Act.put _ (some 43) _ = _
         simp only [Act.put, List.setIfInBounds_toArray, List.set_cons_zero, List.set_cons_succ, i64_w, i32_w]; rfl
        refine Sqz.pu 23 (some 2) ?_; refine Sqz.pu 24 (some 3) ?_
        refine done_ (done_of HT_.out (by kernel_rfl)) ?_
        try go_wp2
        go_ret2
        exact ⟨_, Sqz.auR, (Sqz.mvR (Kd.R_mono HO442.out (fun _ hk => trivial))), Sqz.auHB⟩
       ·rw [if_neg c10] at H; exact absurd H (by simp)
      ·rw [if_neg c9] at H; exact absurd H (by simp)
     ·rw [if_neg c8] at H; exact absurd H (by simp)
    ·rw [if_neg c7] at H; exact absurd H (by simp)
   ·rw [if_neg c6] at H; exact absurd H (by simp)
  ·rw [if_neg c5] at H; exact absurd H (by simp)
 ·replace c4 := Bool.eq_false_iff.mpr c4; subst c4; have H1 : (some ((([] : List Int)), false)) = some (r1, r2) := by rw [if_neg (show ¬ (false = true) by decide)] at H; exact H
  clear H; have H := H1; clear H1; obtain ⟨y443, hyy⟩ : ∃ y_ : List Int, y_ = (([] : List Int)) := ⟨_, rfl⟩
  replace H : (some (y443, false)) = some (r1, r2) := Sqz.auY
  have Ny443 := Aside0.mk hyy; clear hyy; simp only [Option.some.injEq, Prod.mk.injEq] at H; obtain ⟨rfl, rfl⟩ := H
  go_enter Tryz.func83, Tryz.ntmps83
  go_wp2_with (first | ((with_reducible refine gate_callee (f := 137) rfl ?_); refine goesL_ (some 10) rfl rfl Tryz.func137 (by kernel_rfl) rfl #[.slice A0 l0.length c0] rfl Sqz.auM ?_; (with_reducible refine (spec_l5Normal.calls k _ _ l0 t421 t422 _ ?side1 ?side2 A2.out).mono ?_); (case side1 => exact Sqz.mvC (HR0.out)); (case side2 => exact HC0.out); rintro e w22 ⟨v423, v425, rfl, ho0, ho1, hb⟩; refine ⟨_, rfl, ?_⟩; have HO424 := Aside0.mk (Kd.R_lower ho0 (below_size (Sqz.auHB))); have HO426 := Aside0.mk (Kd.R_lower ho1 (below_size (Sqz.auHB))); replace HB := Aside0.mk (below_step (Sqz.auHB) hb); (try clear hb); (try clear ho0); (try clear ho1); obtain ⟨Ao23, co23, eo23⟩ := Kd.R_slice HO424.out; subst eo23) | ((with_reducible refine gate_callee (f := 138) rfl ?_); refine goesL_ (some 15) rfl rfl Tryz.func138 (by kernel_rfl) rfl #[.slice Ao23 t421.length co23] rfl Sqz.auM ?_; (with_reducible refine (spec_l5Search.calls k _ _ t421 t427 false _ ?side1 ?side2 A3.out).mono ?_); (case side1 => exact Sqz.mvC ((Kd.R_reads' HO424.out).2.2)); (case side2 => exact (Kd.R_reads' HO424.out).2.1); rintro e w24 ⟨v429, rfl, ho0, hb⟩; refine ⟨_, rfl, ?_⟩; have HO430 := Aside0.mk (Kd.R_lower (Kd.R_new' (Kd.R_new' ho0 (Kd.R_lt ((Sqz.mvR HO424.out)))) (Kd.R_lt ((Sqz.mvR HO426.out)))) (below_size (Sqz.auHB))); replace HO424 := Aside0.mk (Kd.R_elder' ((Sqz.mvR HO424.out)) (Kd.R_base ho0) hb); replace HO426 := Aside0.mk (Kd.R_elder' ((Sqz.mvR HO426.out)) (Kd.R_base ho0) hb); replace HB := Aside0.mk (below_step (Sqz.auHB) hb); (try clear hb); (try clear ho0)) | ((with_reducible refine gate_dst (N := 20) rfl ?_); refine Kd.R_lit (Kd.int .i64) _ 3 ?hg (N := 20) ?hd (xs := ([] : List Int)) (inner := []) (ok := fun _ => True) (okp := fun _ => True) ?hr ?hp (fun _ hk => hk) trivial (Below.refl _ _) (Nat.le_refl _) (by simp) ?_; (case hd => rfl); (case hg => rfl); (case hr => first | (go_simp; done) | (go_simp; rfl)); (case hp => exact (Reps.none _ _)); intro v444 w25 ho26 hb hg_ hnew_; clear hg_ hnew_; (first | rw [← Ny443.out] at ho26 | (simp only [Int.reduceToNat] at ho26; rw [← Ny443.out] at ho26)); have HO445 := Aside0.mk (Kd.R_lower (Kd.R_new' (Kd.R_new' (Kd.R_new' ho26 (Kd.R_lt ((Sqz.mvR HO424.out)))) (Kd.R_lt ((Sqz.mvR HO426.out)))) (Kd.R_lt ((Sqz.mvR HO430.out)))) (below_size (Sqz.auHB))); replace HO424 := Aside0.mk (Kd.R_elder' ((Sqz.mvR HO424.out)) (Kd.R_base ho26) hb); replace HO426 := Aside0.mk (Kd.R_elder' ((Sqz.mvR HO426.out)) (Kd.R_base ho26) hb); replace HO430 := Aside0.mk (Kd.R_elder' ((Sqz.mvR HO430.out)) (Kd.R_base ho26) hb); replace HB := Aside0.mk (below_step (Sqz.auHB) hb); clear hb ho26))
  go_ret2
  exact ⟨_, Sqz.auR, (Sqz.mvR (Kd.R_mono HO445.out (fun _ hk => trivial))), Sqz.auHB⟩

end Go.Proofs.YtacfcoilmdhgnaaGreatDoor.PFnExecuteValue
