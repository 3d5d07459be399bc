/- A function's Lean twin and its walk, written by a program of this session. -/
import Derived.Test.YtnnpafjgghpecaaTPFnValueTherex0
import Derived.Test.YtnnpafjgghpecaaTPFnValueTherex1
import Derived.Test.YtnnpafjgghpecaaTPFnValueTherex9
import Derived.Test.YtnnpafjgghpecaaTPFnValueTherex10
namespace Go.Proofs.Ytnnpafjgghpecaa.PFnValueThere
open Go.RowKit Go.Proofs.YtnnpafjgghpecaaW.PrintWords Go.Proofs.YtnnpafjgghpecaaW.PrintLast Go.Proofs.YtnnpafjgghpecaaW.PrintMore
attribute [local go_sem] max2_int min2_int max_two min_two max_three min_three max_four min_four   -- for this text's walks alone
set_option linter.unusedVariables false
set_option linter.unusedSimpArgs false

/-! ### spec_l5Search: function 103 -/
mutual
def spec_l5Search.l0 : Nat → Int → Int → Int → Int → Option (List Int × Bool)
 | 0, _, _, _, _ => none
 | k + 1, x4, x5, x6, x7 => (spec_l1Size.f (wrap64 (x5 * x6))).bind fun t389 => (if (wrap64 (x7 * x7)) ≤ t389 then (spec_l5Search.l1 k x4 x5 x6 x7 0) else (some ((([] : List Int)), false)))
def spec_l5Search.l1 : Nat → Int → Int → Int → Int → Int → Option (List Int × Bool)
 | 0, _, _, _, _, _ => none
 | k + 1, x4, x5, x6, x7, x8 => (spec_l1Size.f (wrap64 (x4 * x6))).bind fun t393 => (if (wrap64 (x8 * x8)) ≤ t393 then (if x6 = 0 then (none) else (if (Int.tmod (wrap64 ((wrap64 (-(wrap64 ((wrap64 (x4 * x7)) * x7)))) - (wrap64 ((wrap64 (x5 * x8)) * x8)))) x6) = 0 then (if (wrap64 (Int.tdiv (wrap64 ((wrap64 (-(wrap64 ((wrap64 (x4 * x7)) * x7)))) - (wrap64 ((wrap64 (x5 * x8)) * x8)))) x6)) < 0 then (spec_l5Search.j2 k x4 x5 x6 x7 x8 (wrap64 ((wrap64 (-(wrap64 ((wrap64 (x4 * x7)) * x7)))) - (wrap64 ((wrap64 (x5 * x8)) * x8)))) true) else (if x7 = 0 then (spec_l5Search.j2 k x4 x5 x6 x7 x8 (wrap64 ((wrap64 (-(wrap64 ((wrap64 (x4 * x7)) * x7)))) - (wrap64 ((wrap64 (x5 * x8)) * x8)))) (x8 == 0)) else (spec_l5Search.j2 k x4 x5 x6 x7 x8 (wrap64 ((wrap64 (-(wrap64 ((wrap64 (x4 * x7)) * x7)))) - (wrap64 ((wrap64 (x5 * x8)) * x8)))) false))) else (spec_l5Search.j2 k x4 x5 x6 x7 x8 (wrap64 ((wrap64 (-(wrap64 ((wrap64 (x4 * x7)) * x7)))) - (wrap64 ((wrap64 (x5 * x8)) * x8)))) true))) else (spec_l5Search.l0 k x4 x5 x6 (wrap64 (x7 + 1))))
def spec_l5Search.j2 : Nat → Int → Int → Int → Int → Int → Int → Bool → Option (List Int × Bool)
 | 0, _, _, _, _, _, _, _ => none
 | k + 1, x4, x5, x6, x7, x8, x9, x69 => if x69 = true then (spec_l5Search.l1 k x4 x5 x6 x7 (wrap64 (x8 + 1))) else (if x6 = 0 then (none) else ((spec_l5Root.f k (wrap64 (Int.tdiv x9 x6))).bind fun t394 => (if t394 ≥ 0 then (some ((([x7, x8, t394] : List Int)), true)) else (spec_l5Search.l1 k x4 x5 x6 x7 (wrap64 (x8 + 1))))))
end
def spec_l5Search.f (k : Nat) (l0 : List Int) : Option (List Int × Bool) := if 0 < (l0.length : Int) then (if 1 < (l0.length : Int) then (if 2 < (l0.length : Int) then (spec_l5Search.l0 k (rd l0 0) (rd l0 1) (rd l0 2) 0) else (none)) else (none)) else (none)
set_option maxHeartbeats 8000000 in
set_option maxRecDepth 100000 in
theorem spec_l5Search.calls (k : Nat) (A0 : Option Addr) (c0 : Nat) (l0 : List Int) (r1 : List Int) (r2 : Bool) (w : World) (hr0 : Kd.C (Kd.int .i64) w A0 l0.length l0) (hc0 : l0.length ≤ c0) (h : spec_l5Search.f k l0 = some (r1, r2)) :
  Calls Try.prog 103 #[.slice A0 l0.length c0] w fun e w' => ∃ v0_ : Value, e = .returned (.tuple #[v0_, .bool r2]) ∧ Kd.R (Kd.int .i64) 3 w' w.heap.size (fun _ => True) v0_ r1 ∧ Below w.heap.size w w' := by
 have HR0 := Aside0.mk hr0; have HC0 := Aside0.mk hc0; clear hr0 hc0; have HB := Aside0.mk (Below.refl w.heap.size w); have H : (if 0 < (l0.length : Int) then (if 1 < (l0.length : Int) then (if 2 < (l0.length : Int) then (spec_l5Search.l0 k (rd l0 0) (rd l0 1) (rd l0 2) 0) else (none)) else (none)) else (none)) = some (r1, r2) := h; clear h
 by_cases c2 : 0 < (l0.length : Int)
 ·rw [if_pos c2] at H; have c2b0 := decide_eq_true c2; clear c2
  by_cases c3 : 1 < (l0.length : Int)
  ·rw [if_pos c3] at H; have c3b0 := decide_eq_true c3; clear c3
   by_cases c4 : 2 < (l0.length : Int)
   ·rw [if_pos c4] at H; have c4b0 := decide_eq_true c4; clear c4; have H' := Aside0.mk H; clear H; have p386 : 0 ≤ (0 : Int) := (by omega); have q386 : 0 < (l0.length : Int) := Sqz.od; obtain ⟨ad386, e386, hx386_0⟩ := Kd.at_int HR0.out 0 p386 q386; cases e386; have qi386 : (0 < l0.length) = True := eq_true (by omega); (try rw [show ((0 : Int)).toNat = 0 from rfl] at hx386_0); (try rw [Addr.add_zero'] at hx386_0); replace p386 := eq_true p386; replace q386 := eq_true q386; have p387 : 0 ≤ (1 : Int) := (by omega); have q387 : 1 < (l0.length : Int) := Sqz.od; obtain ⟨ad387, e387, hx387_0⟩ := Kd.at_int HR0.out 1 p387 q387; obtain rfl : ad386 = ad387 := (by injection e387); (try simp only [show (1 : Int).toNat = 1 from rfl, Nat.reduceMul, Nat.reduceEqDiff, Go.Addr.add, ↓reduceIte] at hx387_0); (try rw [show ((1 : Int)).toNat = 1 from rfl] at hx387_0); replace p387 := eq_true p387; replace q387 := eq_true q387; have p388 : 0 ≤ (2 : Int) := (by omega); have q388 : 2 < (l0.length : Int) := Sqz.od; obtain ⟨ad388, e388, hx388_0⟩ := Kd.at_int HR0.out 2 p388 q388; obtain rfl : ad386 = ad388 := (by injection e388); (try simp only [show (2 : Int).toNat = 2 from rfl, Nat.reduceMul, Nat.reduceEqDiff, Go.Addr.add, ↓reduceIte] at hx388_0); (try rw [show ((2 : Int)).toNat = 2 from rfl] at hx388_0); replace p388 := eq_true p388; replace q388 := eq_true q388
    go_enter Try.func103, Try.ntmps103
    go_wp2
    go_loopg [7] k (fun kq v7 w' => ∃ (x7_1 : Int), v7 = .int .i64 x7_1 ∧ Aside0 (spec_l5Search.l0 kq (rd l0 0) (rd l0 1) (rd l0 2) x7_1 = some (r1, r2)) ∧ Aside0 (kq ≤ k) ∧ Aside0 (Below w.heap.size w w'))
    case atStart => exact ⟨(0), Sqz.auS, H', ⟨Nat.le_refl _⟩, ⟨Sqz.auHB⟩⟩
    case round =>
     clear H'
     try clear c2b0
     try clear c3b0
     try clear c4b0
     try clear hx386_0
     try clear hx387_0
     try clear hx388_0
     try clear p386
     try clear p387
     try clear p388
     try clear q386
     try clear q387
     try clear q388
     obtain ⟨x7_1, rfl, HA, HK1, HB⟩ := hrel; cases gk with
     | zero => exact absurd HA.out (by simp [spec_l5Search.l0])
     | succ k1 =>
      have H := HA.out; clear HA; simp only [spec_l5Search.l0] at H; obtain ⟨t389, A5, H⟩ := Sqz.be H
      by_cases c6 : (wrap64 (x7_1 * x7_1)) ≤ t389
      ·rw [if_pos c6] at H; have c6b0 := decide_eq_true c6; clear c6; have H' := Aside0.mk H; clear H
       go_wp2_with (((with_reducible refine gate_callee (f := 49) rfl ?_); refine goesL_ (some 26) rfl rfl Try.func49 (by kernel_rfl) rfl #[.int .i64 (wrap64 ((rd l0 1) * (rd l0 2)))] rfl Sqz.auM ?_; (with_reducible refine (spec_l1Size.calls (wrap64 ((rd l0 1) * (rd l0 2))) t389 _ A5.out).mono ?_); rintro e w7 ⟨rfl, hb⟩; refine ⟨_, rfl, ?_⟩; replace HB := Aside0.mk (below_step (Sqz.auHB) hb); (try clear hb)))
       go_loopg [8] k1 (fun kq v8 w' => ∃ (x8_2 : Int), v8 = .int .i64 x8_2 ∧ Aside0 (spec_l5Search.l1 kq (rd l0 0) (rd l0 1) (rd l0 2) x7_1 x8_2 = some (r1, r2)) ∧ Aside0 (kq ≤ k1) ∧ Aside0 (Below w.heap.size w w'))
       case atStart => exact ⟨(0), Sqz.auS, H', ⟨Nat.le_refl _⟩, ⟨Sqz.auHB⟩⟩
       case round =>
        clear H'
        try clear c6b0
        obtain ⟨x8_2, rfl, HA, HK2, HB⟩ := hrel; cases gk with
        | zero => exact absurd HA.out (by simp [spec_l5Search.l1])
        | succ k2 =>
         have H := HA.out; clear HA; simp only [spec_l5Search.l1] at H; obtain ⟨t393, A8, H⟩ := Sqz.be H
         by_cases c9 : (wrap64 (x8_2 * x8_2)) ≤ t393
         ·rw [if_pos c9] at H; have c9b0 := decide_eq_true c9; clear c9; have HC10 := Aside0.mk H; clear H
          go_upto_region 11 with (((with_reducible refine gate_callee (f := 49) rfl ?_); refine goesL_ (some 36) rfl rfl Try.func49 (by kernel_rfl) rfl #[.int .i64 (wrap64 ((rd l0 0) * (rd l0 2)))] rfl Sqz.auM ?_; (with_reducible refine (spec_l1Size.calls (wrap64 ((rd l0 0) * (rd l0 2))) t393 _ A8.out).mono ?_); rintro e w11 ⟨rfl, hb⟩; refine ⟨_, rfl, ?_⟩; replace HB := Aside0.mk (below_step (Sqz.auHB) hb); (try clear hb)))
          (try simp only [Act.put, List.setIfInBounds_toArray, List.set_cons_zero, List.set_cons_succ])
          go_cut [69] (fun v69 wc => ∃ (kq : Nat) (x69_9 : Bool), v69 = .bool x69_9 ∧ Aside0 (spec_l5Search.j2 kq (rd l0 0) (rd l0 1) (rd l0 2) x7_1 x8_2 (wrap64 ((wrap64 (-(wrap64 ((wrap64 ((rd l0 0) * x7_1)) * x7_1)))) - (wrap64 ((wrap64 ((rd l0 1) * x8_2)) * x8_2)))) x69_9 = some (r1, r2)) ∧ Aside0 (kq ≤ k2) ∧ Aside0 (Below w.heap.size w wc))
          case first =>
           have H := HC10.out; clear HC10
           by_cases c12 : (rd l0 2) = 0
           ·rw [if_pos c12] at H; exact absurd H (by simp)
           ·rw [if_neg c12] at H
            by_cases c13 : (Int.tmod (wrap64 ((wrap64 (-(wrap64 ((wrap64 ((rd l0 0) * x7_1)) * x7_1)))) - (wrap64 ((wrap64 ((rd l0 1) * x8_2)) * x8_2)))) (rd l0 2)) = 0
            ·rw [if_pos c13] at H; have c13b1 := bne_eq_false_iff_eq.mpr c13; clear c13
             by_cases c14 : (wrap64 (Int.tdiv (wrap64 ((wrap64 (-(wrap64 ((wrap64 ((rd l0 0) * x7_1)) * x7_1)))) - (wrap64 ((wrap64 ((rd l0 1) * x8_2)) * x8_2)))) (rd l0 2))) < 0
             ·rw [if_pos c14] at H; have c14b0 := decide_eq_true c14; clear c14; have H' := Aside0.mk H; clear H; go_wp2
              go_meet
              case rel => exact ⟨_, (true), Sqz.auS, H', ⟨by have := HK1.out; have := HK2.out; first | omega | exact Nat.le_refl _⟩, ⟨Sqz.auHB⟩⟩
             ·rw [if_neg c14] at H; have c14b0 := decide_eq_false c14; clear c14
              by_cases c15 : x7_1 = 0
              ·rw [if_pos c15] at H; have c15b0 := beq_iff_eq.mpr c15; clear c15; have H' := Aside0.mk H; clear H; go_wp2
               go_meet
               case rel => exact ⟨_, ((x8_2 == 0)), Sqz.auS, H', ⟨by have := HK1.out; have := HK2.out; first | omega | exact Nat.le_refl _⟩, ⟨Sqz.auHB⟩⟩
              ·rw [if_neg c15] at H; have c15b0 := beq_eq_false_iff_ne.mpr c15; have H' := Aside0.mk H; clear H; go_wp2
               go_meet
               case rel => exact ⟨_, (false), Sqz.auS, H', ⟨by have := HK1.out; have := HK2.out; first | omega | exact Nat.le_refl _⟩, ⟨Sqz.auHB⟩⟩
            ·rw [if_neg c13] at H; have c13b1 := bne_iff_ne.mpr c13; have H' := Aside0.mk H; clear H; go_wp2
             go_meet
             case rel => exact ⟨_, (true), Sqz.auS, H', ⟨by have := HK1.out; have := HK2.out; first | omega | exact Nat.le_refl _⟩, ⟨Sqz.auHB⟩⟩
          case rest =>
           clear HC10
           try clear c9b0
           obtain ⟨kq, x69_9, rfl, HA, HJ9, HB⟩ := hcut; cases kq with
           | zero => exact absurd HA.out (by simp [spec_l5Search.j2])
           | succ kj9 =>
            have H := HA.out; clear HA; simp only [spec_l5Search.j2] at H
            by_cases c16 : x69_9 = true
            ·subst c16; have H1 : (spec_l5Search.l1 kj9 (rd l0 0) (rd l0 1) (rd l0 2) x7_1 (wrap64 (x8_2 + 1))) = some (r1, r2) := by rw [if_pos rfl] at H; exact H
             clear H; have H := H1; clear H1; have H' := Aside0.mk H; clear H; go_wp2
             go_roundg kj9
             case measure => have := HK1.out; have := HK2.out; have := HJ9.out; omega
             case rel => exact ⟨(wrap64 (x8_2 + 1)), Sqz.auS, H', ⟨by have := HK1.out; have := HK2.out; have := HJ9.out; omega⟩, ⟨Sqz.auHB⟩⟩
            ·replace c16 := Bool.eq_false_iff.mpr c16; subst c16; have H1 : (if (rd l0 2) = 0 then (none) else ((spec_l5Root.f kj9 (wrap64 (Int.tdiv (wrap64 ((wrap64 (-(wrap64 ((wrap64 ((rd l0 0) * x7_1)) * x7_1)))) - (wrap64 ((wrap64 ((rd l0 1) * x8_2)) * x8_2)))) (rd l0 2)))).bind fun t394 => (if t394 ≥ 0 then (some ((([x7_1, x8_2, t394] : List Int)), true)) else (spec_l5Search.l1 kj9 (rd l0 0) (rd l0 1) (rd l0 2) x7_1 (wrap64 (x8_2 + 1)))))) = some (r1, r2) := by rw [if_neg (show ¬ (false = true) by decide)] at H; exact H
             clear H; have H := H1; clear H1
             by_cases c17 : (rd l0 2) = 0
             ·rw [if_pos c17] at H; exact absurd H (by simp)
             ·rw [if_neg c17] at H; obtain ⟨t394, A18, H⟩ := Sqz.be H
              by_cases c19 : t394 ≥ 0
              ·rw [if_pos c19] at H; have c19b0 : decide (0 ≤ t394) = true := decide_eq_true c19; clear c19; obtain ⟨y395, hyy⟩ : ∃ y_ : List Int, y_ = (([x7_1, x8_2, t394] : List Int)) := ⟨_, rfl⟩
               replace H : (some (y395, true)) = some (r1, r2) := Sqz.auY
               have Ny395 := Aside0.mk hyy; clear hyy; simp only [Option.some.injEq, Prod.mk.injEq] at H; obtain ⟨rfl, rfl⟩ := H
               go_wp2_with (first | ((with_reducible refine gate_callee (f := 36) rfl ?_); refine goesL_ (some 73) rfl rfl Try.func36 (by kernel_rfl) rfl #[.int .i64 (wrap64 (Int.tdiv (wrap64 ((wrap64 (-(wrap64 ((wrap64 ((rd l0 0) * x7_1)) * x7_1)))) - (wrap64 ((wrap64 ((rd l0 1) * x8_2)) * x8_2)))) (rd l0 2)))] rfl Sqz.auM ?_; (with_reducible refine (spec_l5Root.calls kj9 (wrap64 (Int.tdiv (wrap64 ((wrap64 (-(wrap64 ((wrap64 ((rd l0 0) * x7_1)) * x7_1)))) - (wrap64 ((wrap64 ((rd l0 1) * x8_2)) * x8_2)))) (rd l0 2))) t394 _ A18.out).mono ?_); rintro e w' ⟨rfl, ⟨nd, rfl⟩⟩; refine ⟨_, rfl, ?_⟩) | ((with_reducible refine gate_dst (N := 79) rfl ?_); refine Kd.R_lit (Kd.int .i64) _ 3 ?hg (N := 79) ?hd (xs := ([x7_1, x8_2, t394] : List Int)) (inner := [.int .i64 x7_1, .int .i64 x8_2, .int .i64 t394]) (ok := fun _ => True) (okp := fun _ => True) ?hr ?hp (fun _ hk => hk) trivial (Below.refl _ _) (Nat.le_refl _) (by simp) ?_; (case hd => rfl); (case hg => rfl); (case hr => first | (go_simp; done) | (go_simp; rfl)); (case hp => exact (Reps.one (show Kd.M (Kd.int .i64) _ _ _ x7_1 [.int .i64 x7_1] from rfl) (Reps.one (show Kd.M (Kd.int .i64) _ _ _ x8_2 [.int .i64 x8_2] from rfl) (Reps.one (show Kd.M (Kd.int .i64) _ _ _ t394 [.int .i64 t394] from rfl) (Reps.none _ _))))); intro v396 w20 ho21 hb hg_ hnew_; clear hg_ hnew_; (first | rw [← Ny395.out] at ho21 | (simp only [Int.reduceToNat] at ho21; rw [← Ny395.out] at ho21)); have HO397 := Aside0.mk (Kd.R_lower ho21 (below_size (Sqz.auHB))); replace HB := Aside0.mk (below_step (Sqz.auHB) hb); clear hb ho21))
               go_ret2
               exact ⟨_, Sqz.auR, (Sqz.mvR HO397.out), Sqz.auHB⟩
              ·rw [if_neg c19] at H; have c19b0 : decide (0 ≤ t394) = false := decide_eq_false c19; clear c19; have H' := Aside0.mk H; clear H
               go_wp2_with (((with_reducible refine gate_callee (f := 36) rfl ?_); refine goesL_ (some 73) rfl rfl Try.func36 (by kernel_rfl) rfl #[.int .i64 (wrap64 (Int.tdiv (wrap64 ((wrap64 (-(wrap64 ((wrap64 ((rd l0 0) * x7_1)) * x7_1)))) - (wrap64 ((wrap64 ((rd l0 1) * x8_2)) * x8_2)))) (rd l0 2)))] rfl Sqz.auM ?_; (with_reducible refine (spec_l5Root.calls kj9 (wrap64 (Int.tdiv (wrap64 ((wrap64 (-(wrap64 ((wrap64 ((rd l0 0) * x7_1)) * x7_1)))) - (wrap64 ((wrap64 ((rd l0 1) * x8_2)) * x8_2)))) (rd l0 2))) t394 _ A18.out).mono ?_); rintro e w' ⟨rfl, ⟨nd, rfl⟩⟩; refine ⟨_, rfl, ?_⟩))
               go_roundg kj9
               case measure => have := HK1.out; have := HK2.out; have := HJ9.out; omega
               case rel => exact ⟨(wrap64 (x8_2 + 1)), Sqz.auS, H', ⟨by have := HK1.out; have := HK2.out; have := HJ9.out; omega⟩, ⟨Sqz.auHB⟩⟩
         ·rw [if_neg c9] at H; have c9b0 := decide_eq_false c9; clear c9; have H' := Aside0.mk H; clear H
          go_wp2_with (((with_reducible refine gate_callee (f := 49) rfl ?_); refine goesL_ (some 36) rfl rfl Try.func49 (by kernel_rfl) rfl #[.int .i64 (wrap64 ((rd l0 0) * (rd l0 2)))] rfl Sqz.auM ?_; (with_reducible refine (spec_l1Size.calls (wrap64 ((rd l0 0) * (rd l0 2))) t393 _ A8.out).mono ?_); rintro e w22 ⟨rfl, hb⟩; refine ⟨_, rfl, ?_⟩; replace HB := Aside0.mk (below_step (Sqz.auHB) hb); (try clear hb)))
          go_roundg k2
          case measure => have := HK1.out; have := HK2.out; omega
          case rel => exact ⟨(wrap64 (x7_1 + 1)), Sqz.auS, H', ⟨by have := HK1.out; have := HK2.out; omega⟩, ⟨Sqz.auHB⟩⟩
      ·rw [if_neg c6] at H; have c6b0 := decide_eq_false c6; clear c6; obtain ⟨y390, hyy⟩ : ∃ y_ : List Int, y_ = (([] : List Int)) := ⟨_, rfl⟩
       replace H : (some (y390, false)) = some (r1, r2) := Sqz.auY
       have Ny390 := Aside0.mk hyy; clear hyy; simp only [Option.some.injEq, Prod.mk.injEq] at H; obtain ⟨rfl, rfl⟩ := H
       go_wp2_with (first | ((with_reducible refine gate_callee (f := 49) rfl ?_); refine goesL_ (some 26) rfl rfl Try.func49 (by kernel_rfl) rfl #[.int .i64 (wrap64 ((rd l0 1) * (rd l0 2)))] rfl Sqz.auM ?_; (with_reducible refine (spec_l1Size.calls (wrap64 ((rd l0 1) * (rd l0 2))) t389 _ A5.out).mono ?_); rintro e w23 ⟨rfl, hb⟩; refine ⟨_, rfl, ?_⟩; replace HB := Aside0.mk (below_step (Sqz.auHB) hb); (try clear hb)) | ((with_reducible refine gate_dst (N := 80) rfl ?_); refine Kd.R_lit (Kd.int .i64) _ 3 ?hg (N := 80) ?hd (xs := ([] : List Int)) (inner := []) (ok := fun _ => True) (okp := fun _ => True) ?hr ?hp (fun _ hk => hk) trivial (Below.refl _ _) (Nat.le_refl _) (by simp) ?_; (case hd => rfl); (case hg => rfl); (case hr => first | (go_simp; done) | (go_simp; rfl)); (case hp => exact (Reps.none _ _)); intro v391 w24 ho25 hb hg_ hnew_; clear hg_ hnew_; (first | rw [← Ny390.out] at ho25 | (simp only [Int.reduceToNat] at ho25; rw [← Ny390.out] at ho25)); have HO392 := Aside0.mk (Kd.R_lower ho25 (below_size (Sqz.auHB))); replace HB := Aside0.mk (below_step (Sqz.auHB) hb); clear hb ho25))
       go_ret2
       exact ⟨_, Sqz.auR, (Sqz.mvR HO392.out), Sqz.auHB⟩
   ·rw [if_neg c4] at H; exact absurd H (by simp)
  ·rw [if_neg c3] at H; exact absurd H (by simp)
 ·rw [if_neg c2] at H; exact absurd H (by simp)

/-! ### spec_l5Three: function 87 -/
def spec_l5Three.f (k : Nat) (l0 : List Int) : Option (List Int × Bool) := (spec_l5Normal.f k l0).bind fun bt398 => ((spec_l5Search.f k bt398.1).bind fun bt404 => (if bt404.2 = true then (if 0 < (bt398.2.length : Int) then (if 0 < (bt404.1.length : Int) then (if 1 < (bt398.2.length : Int) then (if 1 < (bt404.1.length : Int) then (if 2 < (bt398.2.length : Int) then (if 2 < (bt404.1.length : Int) then ((spec_l5Plain.f k (([wrap64 ((rd bt398.2 0) * (rd bt404.1 0)), wrap64 ((rd bt398.2 1) * (rd bt404.1 1)), wrap64 ((rd bt398.2 2) * (rd bt404.1 2))] : List Int))).bind fun t417 => (some (t417, true))) else (none)) else (none)) else (none)) else (none)) else (none)) else (none)) else (some ((([] : List Int)), false))))
def spec_l5Three.T5 : Bool × List (List Nat × List Nat) := (true, [([], []), ([0], [0]), ([1], [1]), ([], []), ([3], [3]), ([4], [4]), ([2, 5], [2, 5]), ([], []), ([7], [7]), ([8], [8]), ([], []), ([10], [10]), ([11], [11]), ([9, 12], [9, 12]), ([], []), ([14], [14]), ([15], [15]), ([], []), ([17], [17]), ([18], [18]), ([16, 19], [16, 19]), ([6, 13, 20], [6, 13, 20]), ([21], [21]), ([22, 22, 0, 1, 2, 3, 4, 5, 6, 7, 8, 9, 10, 11, 12, 13, 14, 15, 16, 17, 18, 19, 20, 21, 22], [22]), ([23, 0, 1, 2, 3, 4, 5, 6, 7, 8, 9, 10, 11, 12, 13, 14, 15, 16, 17, 18, 19, 20, 21, 22, 23], [])])
def spec_l5Three.B5 : List Nat := [0, 1, 3, 0, 8, 24, 63, 0, 128, 384, 0, 1024, 3072, 8064, 0, 16384, 49152, 0, 131072, 393216, 1032192, 2097151, 4194303, 8388607, 16777215]
theorem spec_l5Three.tab5 : rtab .any (opsOf Try.f87 5) = spec_l5Three.T5 := by kernel_rfl
theorem spec_l5Three.bits5 : waitsOk spec_l5Three.T5.2 spec_l5Three.B5 = true := by kernel_rfl
set_option maxHeartbeats 8000000 in
set_option maxRecDepth 100000 in
theorem spec_l5Three.calls (k : Nat) (A0 : Option Addr) (c0 : Nat) (l0 : List Int) (r1 : List Int) (r2 : Bool) (w : World) (hr0 : Kd.C (Kd.int .i64) w A0 l0.length l0) (hc0 : l0.length ≤ c0) (h : spec_l5Three.f k l0 = some (r1, r2)) :
  Calls Try.prog 87 #[.slice A0 l0.length c0] w fun e w' => ∃ v0_ : Value, e = .returned (.tuple #[v0_, .bool r2]) ∧ Kd.R (Kd.int .i64) 3 w' w.heap.size (fun _ => True) v0_ r1 ∧ Below w.heap.size w w' := by
 have HR0 := Aside0.mk hr0; have HC0 := Aside0.mk hc0; clear hr0 hc0; have HB := Aside0.mk (Below.refl w.heap.size w); have H : ((spec_l5Normal.f k l0).bind fun bt398 => ((spec_l5Search.f k bt398.1).bind fun bt404 => (if bt404.2 = true then (if 0 < (bt398.2.length : Int) then (if 0 < (bt404.1.length : Int) then (if 1 < (bt398.2.length : Int) then (if 1 < (bt404.1.length : Int) then (if 2 < (bt398.2.length : Int) then (if 2 < (bt404.1.length : Int) then ((spec_l5Plain.f k (([wrap64 ((rd bt398.2 0) * (rd bt404.1 0)), wrap64 ((rd bt398.2 1) * (rd bt404.1 1)), wrap64 ((rd bt398.2 2) * (rd bt404.1 2))] : List Int))).bind fun t417 => (some (t417, true))) else (none)) else (none)) else (none)) else (none)) else (none)) else (none)) else (some ((([] : List Int)), false))))) = some (r1, r2) := h; clear h; replace H := Option.bind_eq_some_iff.mp H; obtain ⟨⟨t398, t399⟩, A20, H⟩ := H; replace H : ((spec_l5Search.f k t398).bind fun bt404 => (if bt404.2 = true then (if 0 < (t399.length : Int) then (if 0 < (bt404.1.length : Int) then (if 1 < (t399.length : Int) then (if 1 < (bt404.1.length : Int) then (if 2 < (t399.length : Int) then (if 2 < (bt404.1.length : Int) then ((spec_l5Plain.f k (([wrap64 ((rd t399 0) * (rd bt404.1 0)), wrap64 ((rd t399 1) * (rd bt404.1 1)), wrap64 ((rd t399 2) * (rd bt404.1 2))] : List Int))).bind fun t417 => (some (t417, true))) else (none)) else (none)) else (none)) else (none)) else (none)) else (none)) else (some ((([] : List Int)), false)))) = some (r1, r2) := H; have A2 := Aside0.mk A20; clear A20; replace H := Option.bind_eq_some_iff.mp H; obtain ⟨⟨t404, t405⟩, A30, H⟩ := H; replace H : (if t405 = true then (if 0 < (t399.length : Int) then (if 0 < (t404.length : Int) then (if 1 < (t399.length : Int) then (if 1 < (t404.length : Int) then (if 2 < (t399.length : Int) then (if 2 < (t404.length : Int) then ((spec_l5Plain.f k (([wrap64 ((rd t399 0) * (rd t404 0)), wrap64 ((rd t399 1) * (rd t404 1)), wrap64 ((rd t399 2) * (rd t404 2))] : List Int))).bind fun t417 => (some (t417, true))) else (none)) else (none)) else (none)) else (none)) else (none)) else (none)) else (some ((([] : List Int)), false))) = some (r1, r2) := H; have A3 := Aside0.mk A30; clear A30
 by_cases c4 : t405 = true
 ·subst c4; have H1 : (if 0 < (t399.length : Int) then (if 0 < (t404.length : Int) then (if 1 < (t399.length : Int) then (if 1 < (t404.length : Int) then (if 2 < (t399.length : Int) then (if 2 < (t404.length : Int) then ((spec_l5Plain.f k (([wrap64 ((rd t399 0) * (rd t404 0)), wrap64 ((rd t399 1) * (rd t404 1)), wrap64 ((rd t399 2) * (rd t404 2))] : List Int))).bind fun t417 => (some (t417, true))) else (none)) else (none)) else (none)) else (none)) else (none)) else (none)) = some (r1, r2) := by rw [if_pos rfl] at H; exact H
  clear H; have H := H1; clear H1
  by_cases c5 : 0 < (t399.length : Int)
  ·rw [if_pos c5] at H; have c5b0 := decide_eq_true c5; clear c5
   by_cases c6 : 0 < (t404.length : Int)
   ·rw [if_pos c6] at H; have c6b0 := decide_eq_true c6; clear c6
    by_cases c7 : 1 < (t399.length : Int)
    ·rw [if_pos c7] at H; have c7b0 := decide_eq_true c7; clear c7
     by_cases c8 : 1 < (t404.length : Int)
     ·rw [if_pos c8] at H; have c8b0 := decide_eq_true c8; clear c8
      by_cases c9 : 2 < (t399.length : Int)
      ·rw [if_pos c9] at H; have c9b0 := decide_eq_true c9; clear c9
       by_cases c10 : 2 < (t404.length : Int)
       ·rw [if_pos c10] at H; have c10b0 := decide_eq_true c10; clear c10; obtain ⟨y414, hyy⟩ : ∃ y_ : List Int, y_ = (([wrap64 ((rd t399 0) * (rd t404 0)), wrap64 ((rd t399 1) * (rd t404 1)), wrap64 ((rd t399 2) * (rd t404 2))] : List Int)) := ⟨_, rfl⟩
        replace H : ((spec_l5Plain.f k y414).bind fun t417 => (some (t417, true))) = some (r1, r2) := Sqz.auY
        have Ny414 := Aside0.mk hyy; clear hyy; obtain ⟨t417, A11, H⟩ := Sqz.be H; simp only [Option.some.injEq, Prod.mk.injEq] at H; obtain ⟨rfl, rfl⟩ := H
        go_enter Try.func87, Try.ntmps87
        try go_wp2_with (first | ((with_reducible refine gate_callee (f := 102) rfl ?_); refine goesL_ (some 10) rfl rfl Try.func102 (by kernel_rfl) rfl #[.slice A0 l0.length c0] rfl Sqz.auM ?_; (with_reducible refine (spec_l5Normal.calls k _ _ l0 t398 t399 _ ?side1 ?side2 A2.out).mono ?_); (case side1 => exact Sqz.mvC (HR0.out)); (case side2 => exact HC0.out); rintro e w12 ⟨v400, v402, rfl, ho0, ho1, hb⟩; refine ⟨_, rfl, ?_⟩; have HO401 := Aside0.mk (Kd.R_lower ho0 (below_size (Sqz.auHB))); have HO403 := Aside0.mk (Kd.R_lower ho1 (below_size (Sqz.auHB))); replace HB := Aside0.mk (below_step (Sqz.auHB) hb); (try clear hb); (try clear ho0); (try clear ho1); obtain ⟨Ao13, co13, eo13⟩ := Kd.R_slice HO401.out; subst eo13) | ((with_reducible refine gate_callee (f := 103) rfl ?_); refine goesL_ (some 15) rfl rfl Try.func103 (by kernel_rfl) rfl #[.slice Ao13 t398.length co13] rfl Sqz.auM ?_; (with_reducible refine (spec_l5Search.calls k _ _ t398 t404 true _ ?side1 ?side2 A3.out).mono ?_); (case side1 => exact Sqz.mvC ((Kd.R_reads' HO401.out).2.2)); (case side2 => exact (Kd.R_reads' HO401.out).2.1); rintro e w14 ⟨v406, rfl, ho0, hb⟩; refine ⟨_, rfl, ?_⟩; have HO407 := Aside0.mk (Kd.R_lower (Kd.R_new' (Kd.R_new' ho0 (Kd.R_lt ((Sqz.mvR HO401.out)))) (Kd.R_lt ((Sqz.mvR HO403.out)))) (below_size (Sqz.auHB))); replace HO401 := Aside0.mk (Kd.R_elder' ((Sqz.mvR HO401.out)) (Kd.R_base ho0) hb); replace HO403 := Aside0.mk (Kd.R_elder' ((Sqz.mvR HO403.out)) (Kd.R_base ho0) hb); replace HB := Aside0.mk (below_step (Sqz.auHB) hb); (try clear hb); (try clear ho0)))
        have n0_ := Aside0.mk (Kd.R_drew HO401.out); have n1_ := Aside0.mk (Kd.R_drew HO403.out); have n2_ := Aside0.mk (Kd.R_drew HO407.out); have n3_ := Aside0.mk (below_drew1 HB.out); clear HO401; clear HO403; clear HO407; clear HB; have HO401 := n0_; have HO403 := n1_; have HO407 := n2_; have HB := n3_; clear n0_ n1_ n2_ n3_; obtain ⟨Ao16, co16, eo16⟩ := Kd.R_slice HO403.out
        (first | subst eo16 | (injection eo16 with f1_ f2_ f3_; have f4_ := f1_.symm; have f5_ := f3_.symm; clear f1_ f2_ f3_; subst f4_; subst f5_))
        have p408 : 0 ≤ (0 : Int) := (by omega); have q408 : 0 < (t399.length : Int) := Sqz.od; obtain ⟨ad408, e408, hx408_0⟩ := Kd.at_int (Kd.R_reads' HO403.out).2.2 0 p408 q408; cases e408; have qi408 : (0 < t399.length) = True := eq_true (by omega); (try rw [show ((0 : Int)).toNat = 0 from rfl] at hx408_0); (try rw [Addr.add_zero'] at hx408_0); replace p408 := eq_true p408; replace q408 := eq_true q408; obtain ⟨Ao17, co17, eo17⟩ := Kd.R_slice HO407.out
        (first | subst eo17 | (injection eo17 with f1_ f2_ f3_; have f4_ := f1_.symm; have f5_ := f3_.symm; clear f1_ f2_ f3_; subst f4_; subst f5_))
        have p409 : 0 ≤ (0 : Int) := (by omega); have q409 : 0 < (t404.length : Int) := Sqz.od; obtain ⟨ad409, e409, hx409_0⟩ := Kd.at_int (Kd.R_reads' HO407.out).2.2 0 p409 q409; cases e409; have qi409 : (0 < t404.length) = True := eq_true (by omega); (try rw [show ((0 : Int)).toNat = 0 from rfl] at hx409_0); (try rw [Addr.add_zero'] at hx409_0); replace p409 := eq_true p409; replace q409 := eq_true q409; have p410 : 0 ≤ (1 : Int) := (by omega); have q410 : 1 < (t399.length : Int) := Sqz.od; obtain ⟨ad410, e410, hx410_0⟩ := Kd.at_int (Kd.R_reads' HO403.out).2.2 1 p410 q410; obtain rfl : ad408 = ad410 := (by injection e410); (try simp only [show (1 : Int).toNat = 1 from rfl, Nat.reduceMul, Nat.reduceEqDiff, Go.Addr.add, ↓reduceIte] at hx410_0); (try rw [show ((1 : Int)).toNat = 1 from rfl] at hx410_0); replace p410 := eq_true p410; replace q410 := eq_true q410; have p411 : 0 ≤ (1 : Int) := (by omega); have q411 : 1 < (t404.length : Int) := Sqz.od; obtain ⟨ad411, e411, hx411_0⟩ := Kd.at_int (Kd.R_reads' HO407.out).2.2 1 p411 q411; obtain rfl : ad409 = ad411 := (by injection e411); (try simp only [show (1 : Int).toNat = 1 from rfl, Nat.reduceMul, Nat.reduceEqDiff, Go.Addr.add, ↓reduceIte] at hx411_0); (try rw [show ((1 : Int)).toNat = 1 from rfl] at hx411_0); replace p411 := eq_true p411; replace q411 := eq_true q411; have p412 : 0 ≤ (2 : Int) := (by omega); have q412 : 2 < (t399.length : Int) := Sqz.od; obtain ⟨ad412, e412, hx412_0⟩ := Kd.at_int (Kd.R_reads' HO403.out).2.2 2 p412 q412; obtain rfl : ad408 = ad412 := (by injection e412); (try simp only [show (2 : Int).toNat = 2 from rfl, Nat.reduceMul, Nat.reduceEqDiff, Go.Addr.add, ↓reduceIte] at hx412_0); (try rw [show ((2 : Int)).toNat = 2 from rfl] at hx412_0); replace p412 := eq_true p412; replace q412 := eq_true q412; have p413 : 0 ≤ (2 : Int) := (by omega); have q413 : 2 < (t404.length : Int) := Sqz.od; obtain ⟨ad413, e413, hx413_0⟩ := Kd.at_int (Kd.R_reads' HO407.out).2.2 2 p413 q413; obtain rfl : ad409 = ad413 := (by injection e413); (try simp only [show (2 : Int).toNat = 2 from rfl, Nat.reduceMul, Nat.reduceEqDiff, Go.Addr.add, ↓reduceIte] at hx413_0); (try rw [show ((2 : Int)).toNat = 2 from rfl] at hx413_0); replace p413 := eq_true p413; replace q413 := eq_true q413; refine start_ (n := 25) (S := fun w' => w'.cell? ad408 = some (.int .i64 (rd t399 0)) ∧ w'.cell? ad409 = some (.int .i64 (rd t404 0)) ∧ w'.cell? ⟨ad408.block, ad408.off + 1, none⟩ = some (.int .i64 (rd t399 1)) ∧ w'.cell? ⟨ad409.block, ad409.off + 1, none⟩ = some (.int .i64 (rd t404 1)) ∧ w'.cell? ⟨ad408.block, ad408.off + 2, none⟩ = some (.int .i64 (rd t399 2)) ∧ w'.cell? ⟨ad409.block, ad409.off + 2, none⟩ = some (.int .i64 (rd t404 2))) (ds := []) #[false, false, false, false, false, false, false, false, false, false, false, false, false, false, false, false, false, false, false, false, false, false, false, false, false] (by kernel_rfl) rfl rfl ⟨hx408_0, hx409_0, hx410_0, hx411_0, hx412_0, hx413_0⟩ (fun hHeld => ?_); refine with_tabW spec_l5Three.tab5 spec_l5Three.bits5 (fun HT_ HW_ => ?_); generalize w14.drew = w15 at HO401 HO403 HO407 HB hx408_0 hx409_0 hx410_0 hx411_0 hx412_0 hx413_0 hHeld ⊢; refine pure_ (i := 0) (N := some 21) (v := ?_) (a' := ?_) #[true, false, false, false, false, false, false, false, false, false, false, false, false, false, false, false, false, false, false, false, false, false, false, false, false] rfl rfl (any_of HT_.out (by kernel_rfl)) (fun _ _ _ h => h) (Or.inl ⟨by rfl, ?_⟩) ?_ ?_
        rotate_left
        ·intro w'; go_simp; with_reducible rfl
        rotate_left
        ·simp only [Act.put, List.setIfInBounds_toArray, List.set_cons_zero, List.set_cons_succ, i64_w, i32_w]; rfl
        refine Sqz.pu 1 (some 22) ?_; refine Sqz.pu 3 (some 24) ?_; refine Sqz.pu 4 (some 25) ?_; refine Sqz.pu 7 (some 28) ?_; refine Sqz.pu 8 (some 29) ?_; refine Sqz.pu 10 (some 31) ?_; refine Sqz.pu 11 (some 32) ?_; refine Sqz.pu 14 (some 35) ?_; refine Sqz.pu 15 (some 36) ?_; refine Sqz.pu 17 (some 38) ?_; refine Sqz.pu 18 (some 39) ?_; refine Sqz.ta6 2 (some 23) ?_; refine Sqz.ta6 5 (some 26) ?_; refine Sqz.pu 6 (some 27) ?_; refine Sqz.ta6 9 (some 30) ?_; refine Sqz.ta6 12 (some 33) ?_; refine Sqz.pu 13 (some 34) ?_; refine Sqz.ta6 16 (some 37) ?_; refine Sqz.ta6 19 (some 40) ?_; refine Sqz.pu 20 (some 41) ?_
        refine one_ (i := 21) (N := some 42) #[true, true, true, true, true, true, true, true, true, true, true, true, true, true, true, true, true, true, true, true, true, true, false, false, false] rfl rfl (one_of HT_.out (by kernel_rfl)) (by decide) (fun K hK => ?_); refine Kd.R_lit_step (Kd.int .i64) _ 3 ?hg (N := 42) ?hd (xs := ([wrap64 ((rd t399 0) * (rd t404 0)), wrap64 ((rd t399 1) * (rd t404 1)), wrap64 ((rd t399 2) * (rd t404 2))] : List Int)) (inner := [.int .i64 (wrap64 ((rd t399 0) * (rd t404 0))), .int .i64 (wrap64 ((rd t399 1) * (rd t404 1))), .int .i64 (wrap64 ((rd t399 2) * (rd t404 2)))]) (ok := fun _ => True) (okp := fun _ => True) ?hr ?hp (fun _ hk => hk) trivial (Below.refl _ _) (Nat.le_refl _) (by simp) ?_; (case hd => rfl); (case hg => rfl); (case hr => first | (go_simp; done) | (go_simp; rfl)); (case hp => exact (Reps.one (show Kd.M (Kd.int .i64) _ _ _ (wrap64 ((rd t399 0) * (rd t404 0))) [.int .i64 (wrap64 ((rd t399 0) * (rd t404 0)))] from rfl) (Reps.one (show Kd.M (Kd.int .i64) _ _ _ (wrap64 ((rd t399 1) * (rd t404 1))) [.int .i64 (wrap64 ((rd t399 1) * (rd t404 1)))] from rfl) (Reps.one (show Kd.M (Kd.int .i64) _ _ _ (wrap64 ((rd t399 2) * (rd t404 2))) [.int .i64 (wrap64 ((rd t399 2) * (rd t404 2)))] from rfl) (Reps.none _ _))))); intro v415 w18 ho19 hb hg_ hnew_; have HS0_ := (hb.cell (World.block_lt_of_cell? _ _ (hHeld.1))).trans (hHeld.1); have HS1_ := (hb.cell (World.block_lt_of_cell? _ _ (hHeld.2.1))).trans (hHeld.2.1); have HS2_ := (hb.cell (World.block_lt_of_cell? _ _ (hHeld.2.2.1))).trans (hHeld.2.2.1); have HS3_ := (hb.cell (World.block_lt_of_cell? _ _ (hHeld.2.2.2.1))).trans (hHeld.2.2.2.1); have HS4_ := (hb.cell (World.block_lt_of_cell? _ _ (hHeld.2.2.2.2.1))).trans (hHeld.2.2.2.2.1); have HS5_ := (hb.cell (World.block_lt_of_cell? _ _ (hHeld.2.2.2.2.2))).trans (hHeld.2.2.2.2.2); clear hg_ hnew_
        (first | rw [← Ny414.out] at ho19 | (simp only [Int.reduceToNat] at ho19; rw [← Ny414.out] at ho19))
        have n0_ := Aside0.mk (Kd.R_elder' ((Sqz.mvR HO401.out)) (Kd.R_base ho19) hb); have n1_ := Aside0.mk (Kd.R_elder' ((Sqz.mvR HO403.out)) (Kd.R_base ho19) hb); have n2_ := Aside0.mk (Kd.R_elder' ((Sqz.mvR HO407.out)) (Kd.R_base ho19) hb); have n3_ := Aside0.mk (Kd.R_lower (Kd.R_new' (Kd.R_new' (Kd.R_new' ho19 (Kd.R_lt ((Sqz.mvR HO401.out)))) (Kd.R_lt ((Sqz.mvR HO403.out)))) (Kd.R_lt ((Sqz.mvR HO407.out)))) (below_size (Sqz.auHB))); have n4_ := Aside0.mk (below_step (Sqz.auHB) hb); clear HO401; clear HO403; clear HO407; clear HB; have HO401 := n0_; have HO403 := n1_; have HO407 := n2_; have HO416 := n3_; have HB := n4_; clear n0_ n1_ n2_ n3_ n4_; clear hb ho19; obtain ⟨Ao20, co20, eo20⟩ := Kd.R_slice HO416.out
        (first | subst eo20 | (injection eo20 with f1_ f2_ f3_; have f4_ := f1_.symm; have f5_ := f3_.symm; clear f1_ f2_ f3_; subst f4_; subst f5_))
        refine hK.out _ _ ⟨HS0_, HS1_, HS2_, HS3_, HS4_, HS5_⟩ (fun hHeld => ?_); clear hK K; refine norm_ (a' := ?_) ?_ ?_; rotate_left
        ·show Act.put _ (some 42) _ = _
         simp only [Act.put, List.setIfInBounds_toArray, List.set_cons_zero, List.set_cons_succ, i64_w, i32_w]; rfl
        refine one_ (i := 22) (N := some 43) #[true, true, true, true, true, true, true, true, true, true, true, true, true, true, true, true, true, true, true, true, true, true, true, false, false] rfl rfl (one_of HT_.out (by kernel_rfl)) (by decide) (fun K hK => ?_); refine goes_ Try.func86 (by kernel_rfl) rfl #[.slice Ao20 y414.length co20] (by rfl) rfl rfl Sqz.auM ?_
        with_reducible refine (spec_l5Plain.calls k _ _ y414 t417 _ ?side1 ?side2 A11.out).mono ?_
        (case side1 => exact Sqz.mvC ((Kd.R_reads' HO416.out).2.2))
        (case side2 => exact (Kd.R_reads' HO416.out).2.1)
        rintro e w21 ⟨v418, rfl, ho0, hb⟩; have HS0_ := (hb.cell (World.block_lt_of_cell? _ _ (hHeld.1))).trans (hHeld.1); have HS1_ := (hb.cell (World.block_lt_of_cell? _ _ (hHeld.2.1))).trans (hHeld.2.1); have HS2_ := (hb.cell (World.block_lt_of_cell? _ _ (hHeld.2.2.1))).trans (hHeld.2.2.1); have HS3_ := (hb.cell (World.block_lt_of_cell? _ _ (hHeld.2.2.2.1))).trans (hHeld.2.2.2.1); have HS4_ := (hb.cell (World.block_lt_of_cell? _ _ (hHeld.2.2.2.2.1))).trans (hHeld.2.2.2.2.1); have HS5_ := (hb.cell (World.block_lt_of_cell? _ _ (hHeld.2.2.2.2.2))).trans (hHeld.2.2.2.2.2); refine ⟨_, rfl, ?_⟩; have n0_ := Aside0.mk (Kd.R_elder' ((Sqz.mvR HO401.out)) (Kd.R_base ho0) hb); have n1_ := Aside0.mk (Kd.R_elder' ((Sqz.mvR HO403.out)) (Kd.R_base ho0) hb); have n2_ := Aside0.mk (Kd.R_elder' ((Sqz.mvR HO407.out)) (Kd.R_base ho0) hb); have n3_ := Aside0.mk (Kd.R_elder' ((Sqz.mvR HO416.out)) (Kd.R_base ho0) hb); have n4_ := Aside0.mk (Kd.R_lower (Kd.R_new' (Kd.R_new' (Kd.R_new' (Kd.R_new' ho0 (Kd.R_lt ((Sqz.mvR HO401.out)))) (Kd.R_lt ((Sqz.mvR HO403.out)))) (Kd.R_lt ((Sqz.mvR HO407.out)))) (Kd.R_lt ((Sqz.mvR HO416.out)))) (below_size (Sqz.auHB))); have n5_ := Aside0.mk (below_step (Sqz.auHB) hb); clear HO401; clear HO403; clear HO407; clear HO416; clear HB; have HO401 := n0_; have HO403 := n1_; have HO407 := n2_; have HO416 := n3_; have HO419 := n4_; have HB := n5_; clear n0_ n1_ n2_ n3_ n4_ n5_; (try clear hb); (try clear hb2); (try clear hk); (try clear hi); (try clear ho0); refine hK.out _ _ ⟨HS0_, HS1_, HS2_, HS3_, HS4_, HS5_⟩ (fun hHeld => ?_); clear hK K; refine norm_ (a' := ?_) ?_ ?_; rotate_left
        ·show Act.put _ (some 43) _ = _
         simp only [Act.put, List.setIfInBounds_toArray, List.set_cons_zero, List.set_cons_succ, i64_w, i32_w]; rfl
        refine Sqz.pu 23 (some 2) ?_; refine Sqz.pu 24 (some 3) ?_
        refine done_ (done_of HT_.out (by kernel_rfl)) ?_
        try go_wp2
        go_ret2
        exact ⟨_, Sqz.auR, (Sqz.mvR (Kd.R_mono HO419.out (fun _ hk => trivial))), Sqz.auHB⟩
       ·rw [if_neg c10] at H; exact absurd H (by simp)
      ·rw [if_neg c9] at H; exact absurd H (by simp)
     ·rw [if_neg c8] at H; exact absurd H (by simp)
    ·rw [if_neg c7] at H; exact absurd H (by simp)
   ·rw [if_neg c6] at H; exact absurd H (by simp)
  ·rw [if_neg c5] at H; exact absurd H (by simp)
 ·replace c4 := Bool.eq_false_iff.mpr c4; subst c4; have H1 : (some ((([] : List Int)), false)) = some (r1, r2) := by rw [if_neg (show ¬ (false = true) by decide)] at H; exact H
  clear H; have H := H1; clear H1; obtain ⟨y420, hyy⟩ : ∃ y_ : List Int, y_ = (([] : List Int)) := ⟨_, rfl⟩
  replace H : (some (y420, false)) = some (r1, r2) := Sqz.auY
  have Ny420 := Aside0.mk hyy; clear hyy; simp only [Option.some.injEq, Prod.mk.injEq] at H; obtain ⟨rfl, rfl⟩ := H
  go_enter Try.func87, Try.ntmps87
  go_wp2_with (first | ((with_reducible refine gate_callee (f := 102) rfl ?_); refine goesL_ (some 10) rfl rfl Try.func102 (by kernel_rfl) rfl #[.slice A0 l0.length c0] rfl Sqz.auM ?_; (with_reducible refine (spec_l5Normal.calls k _ _ l0 t398 t399 _ ?side1 ?side2 A2.out).mono ?_); (case side1 => exact Sqz.mvC (HR0.out)); (case side2 => exact HC0.out); rintro e w22 ⟨v400, v402, rfl, ho0, ho1, hb⟩; refine ⟨_, rfl, ?_⟩; have HO401 := Aside0.mk (Kd.R_lower ho0 (below_size (Sqz.auHB))); have HO403 := Aside0.mk (Kd.R_lower ho1 (below_size (Sqz.auHB))); replace HB := Aside0.mk (below_step (Sqz.auHB) hb); (try clear hb); (try clear ho0); (try clear ho1); obtain ⟨Ao23, co23, eo23⟩ := Kd.R_slice HO401.out; subst eo23) | ((with_reducible refine gate_callee (f := 103) rfl ?_); refine goesL_ (some 15) rfl rfl Try.func103 (by kernel_rfl) rfl #[.slice Ao23 t398.length co23] rfl Sqz.auM ?_; (with_reducible refine (spec_l5Search.calls k _ _ t398 t404 false _ ?side1 ?side2 A3.out).mono ?_); (case side1 => exact Sqz.mvC ((Kd.R_reads' HO401.out).2.2)); (case side2 => exact (Kd.R_reads' HO401.out).2.1); rintro e w24 ⟨v406, rfl, ho0, hb⟩; refine ⟨_, rfl, ?_⟩; have HO407 := Aside0.mk (Kd.R_lower (Kd.R_new' (Kd.R_new' ho0 (Kd.R_lt ((Sqz.mvR HO401.out)))) (Kd.R_lt ((Sqz.mvR HO403.out)))) (below_size (Sqz.auHB))); replace HO401 := Aside0.mk (Kd.R_elder' ((Sqz.mvR HO401.out)) (Kd.R_base ho0) hb); replace HO403 := Aside0.mk (Kd.R_elder' ((Sqz.mvR HO403.out)) (Kd.R_base ho0) hb); replace HB := Aside0.mk (below_step (Sqz.auHB) hb); (try clear hb); (try clear ho0)) | ((with_reducible refine gate_dst (N := 20) rfl ?_); refine Kd.R_lit (Kd.int .i64) _ 3 ?hg (N := 20) ?hd (xs := ([] : List Int)) (inner := []) (ok := fun _ => True) (okp := fun _ => True) ?hr ?hp (fun _ hk => hk) trivial (Below.refl _ _) (Nat.le_refl _) (by simp) ?_; (case hd => rfl); (case hg => rfl); (case hr => first | (go_simp; done) | (go_simp; rfl)); (case hp => exact (Reps.none _ _)); intro v421 w25 ho26 hb hg_ hnew_; clear hg_ hnew_; (first | rw [← Ny420.out] at ho26 | (simp only [Int.reduceToNat] at ho26; rw [← Ny420.out] at ho26)); have HO422 := Aside0.mk (Kd.R_lower (Kd.R_new' (Kd.R_new' (Kd.R_new' ho26 (Kd.R_lt ((Sqz.mvR HO401.out)))) (Kd.R_lt ((Sqz.mvR HO403.out)))) (Kd.R_lt ((Sqz.mvR HO407.out)))) (below_size (Sqz.auHB))); replace HO401 := Aside0.mk (Kd.R_elder' ((Sqz.mvR HO401.out)) (Kd.R_base ho26) hb); replace HO403 := Aside0.mk (Kd.R_elder' ((Sqz.mvR HO403.out)) (Kd.R_base ho26) hb); replace HO407 := Aside0.mk (Kd.R_elder' ((Sqz.mvR HO407.out)) (Kd.R_base ho26) hb); replace HB := Aside0.mk (below_step (Sqz.auHB) hb); clear hb ho26))
  go_ret2
  exact ⟨_, Sqz.auR, (Sqz.mvR (Kd.R_mono HO422.out (fun _ hk => trivial))), Sqz.auHB⟩

end Go.Proofs.Ytnnpafjgghpecaa.PFnValueThere
