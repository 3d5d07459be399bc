/- A function's Lean twin and its walk, written by a program of this session. -/
import Derived.Test.YtacfcoilmdhgnaaGreatDoorTPFnExecuteValuex0
import Derived.Test.YtacfcoilmdhgnaaGreatDoorTPFnExecuteValuex10
import Derived.Test.YtacfcoilmdhgnaaGreatDoorTPFnExecuteValuex12
import Derived.Test.YtacfcoilmdhgnaaGreatDoorTPFnExecuteValuex14
import Derived.Test.YtacfcoilmdhgnaaGreatDoorTPFnExecuteValuex15
namespace Go.Proofs.YtacfcoilmdhgnaaGreatDoor.PFnExecuteValue
open Go.RowKit Go.Proofs.YtacfcoilmdhgnaaGreatDoorW.PrintWords Go.Proofs.YtacfcoilmdhgnaaGreatDoorW.PrintLast Go.Proofs.YtacfcoilmdhgnaaGreatDoorW.PrintMore
attribute [local go_sem] max2_int min2_int max_two min_two max_three min_three max_four min_four   -- for this text's walks alone
set_option linter.unusedVariables false
set_option linter.unusedSimpArgs false

/-! ### spec_ZeroFind: function 38 -/
def spec_ZeroFind.f (k : Nat) (l0 : List Int) : Option (List Int × Bool) := (spec_FormValid.f k l0).bind fun t479 => (if t479 = true then (if (l0.length : Int) = 2 then (if 0 < (l0.length : Int) then ((spec_l1Core.f k (rd l0 0)).bind fun bt484 => (if 1 < (l0.length : Int) then ((spec_l1Core.f k (rd l0 1)).bind fun bt487 => (if (wrap64 (bt484.1 + bt487.1)) = 0 then ((spec_l5Plain.f k (([bt487.2, bt484.2] : List Int))).bind fun t492 => (some (t492, true))) else (some ((([] : List Int)), false)))) else (none))) else (none)) else (if (l0.length : Int) = 3 then ((spec_l5Three.f k l0).bind fun bt498 => (some (bt498.1, bt498.2))) else (if (l0.length : Int) = 4 then ((spec_l5Four.f k l0).bind fun bt502 => (some (bt502.1, bt502.2))) else (some ((([] : List Int)), false))))) else (some ((([] : List Int)), false)))
set_option maxHeartbeats 8000000 in
set_option maxRecDepth 100000 in
theorem spec_ZeroFind.calls (k : Nat) (A0 : Option Addr) (c0 : Nat) (l0 : List Int) (r1 : List Int) (r2 : Bool) (w : World) (hr0 : Kd.C (Kd.int .i64) w A0 l0.length l0) (hc0 : l0.length ≤ c0) (h : spec_ZeroFind.f k l0 = some (r1, r2)) :
  Calls Tryz.prog 38 #[.slice A0 l0.length c0] w fun e w' => ∃ v0_ : Value, e = .returned (.tuple #[v0_, .bool r2]) ∧ Kd.R (Kd.int .i64) 3 w' w.heap.size (fun _ => True) v0_ r1 ∧ Below w.heap.size w w' := by
 have HR0 := Aside0.mk hr0; have HC0 := Aside0.mk hc0; clear hr0 hc0; have HB := Aside0.mk (Below.refl w.heap.size w); have H : ((spec_FormValid.f k l0).bind fun t479 => (if t479 = true then (if (l0.length : Int) = 2 then (if 0 < (l0.length : Int) then ((spec_l1Core.f k (rd l0 0)).bind fun bt484 => (if 1 < (l0.length : Int) then ((spec_l1Core.f k (rd l0 1)).bind fun bt487 => (if (wrap64 (bt484.1 + bt487.1)) = 0 then ((spec_l5Plain.f k (([bt487.2, bt484.2] : List Int))).bind fun t492 => (some (t492, true))) else (some ((([] : List Int)), false)))) else (none))) else (none)) else (if (l0.length : Int) = 3 then ((spec_l5Three.f k l0).bind fun bt498 => (some (bt498.1, bt498.2))) else (if (l0.length : Int) = 4 then ((spec_l5Four.f k l0).bind fun bt502 => (some (bt502.1, bt502.2))) else (some ((([] : List Int)), false))))) else (some ((([] : List Int)), false)))) = some (r1, r2) := h; clear h; obtain ⟨t479, A2, H⟩ := Sqz.be H
 by_cases c3 : t479 = true
 ·subst c3; have H1 : (if (l0.length : Int) = 2 then (if 0 < (l0.length : Int) then ((spec_l1Core.f k (rd l0 0)).bind fun bt484 => (if 1 < (l0.length : Int) then ((spec_l1Core.f k (rd l0 1)).bind fun bt487 => (if (wrap64 (bt484.1 + bt487.1)) = 0 then ((spec_l5Plain.f k (([bt487.2, bt484.2] : List Int))).bind fun t492 => (some (t492, true))) else (some ((([] : List Int)), false)))) else (none))) else (none)) else (if (l0.length : Int) = 3 then ((spec_l5Three.f k l0).bind fun bt498 => (some (bt498.1, bt498.2))) else (if (l0.length : Int) = 4 then ((spec_l5Four.f k l0).bind fun bt502 => (some (bt502.1, bt502.2))) else (some ((([] : List Int)), false))))) = some (r1, r2) := by rw [if_pos rfl] at H; exact H
  clear H; have H := H1; clear H1
  by_cases c4 : (l0.length : Int) = 2
  ·rw [if_pos c4] at H; have c4b0 := beq_iff_eq.mpr c4; clear c4
   by_cases c5 : 0 < (l0.length : Int)
   ·rw [if_pos c5] at H; have c5b0 := decide_eq_true c5; clear c5; replace H := Option.bind_eq_some_iff.mp H; obtain ⟨⟨t484, t485⟩, A60, H⟩ := H; replace H : (if 1 < (l0.length : Int) then ((spec_l1Core.f k (rd l0 1)).bind fun bt487 => (if (wrap64 (t484 + bt487.1)) = 0 then ((spec_l5Plain.f k (([bt487.2, t485] : List Int))).bind fun t492 => (some (t492, true))) else (some ((([] : List Int)), false)))) else (none)) = some (r1, r2) := H; have A6 := Aside0.mk A60; clear A60
    by_cases c7 : 1 < (l0.length : Int)
    ·rw [if_pos c7] at H; have c7b0 := decide_eq_true c7; clear c7; replace H := Option.bind_eq_some_iff.mp H; obtain ⟨⟨t487, t488⟩, A80, H⟩ := H; replace H : (if (wrap64 (t484 + t487)) = 0 then ((spec_l5Plain.f k (([t488, t485] : List Int))).bind fun t492 => (some (t492, true))) else (some ((([] : List Int)), false))) = some (r1, r2) := H; have A8 := Aside0.mk A80; clear A80
     by_cases c9 : (wrap64 (t484 + t487)) = 0
     ·rw [if_pos c9] at H; have c9b0 := beq_iff_eq.mpr c9; clear c9; obtain ⟨y489, hyy⟩ : ∃ y_ : List Int, y_ = (([t488, t485] : List Int)) := ⟨_, rfl⟩
      replace H : ((spec_l5Plain.f k y489).bind fun t492 => (some (t492, true))) = some (r1, r2) := Sqz.auY
      have Ny489 := Aside0.mk hyy; clear hyy; obtain ⟨t492, A10, H⟩ := Sqz.be H; simp only [Option.some.injEq, Prod.mk.injEq] at H; obtain ⟨rfl, rfl⟩ := H
      go_enter Tryz.func38, Tryz.ntmps38
      go_wp2_with (first | ((with_reducible refine gate_callee (f := 62) rfl ?_); refine goesL_ (some 9) rfl rfl Tryz.func62 (by kernel_rfl) rfl #[.slice A0 l0.length c0] rfl Sqz.auM ?_; (with_reducible refine (spec_FormValid.calls k _ _ l0 true _ ?side1 ?side2 A2.out).mono ?_); (case side1 => exact Sqz.mvC (HR0.out)); (case side2 => exact HC0.out); rintro e w' ⟨rfl, ⟨nd, rfl⟩⟩; refine ⟨_, rfl, ?_⟩; have p483 : 0 ≤ (0 : Int) := (by omega); have q483 : 0 < (l0.length : Int) := Sqz.od; obtain ⟨ad483, e483, hx483_0⟩ := Kd.at_int HR0.out 0 p483 q483; cases e483; have qi483 : (0 < l0.length) = True := eq_true (by omega); (try rw [show ((0 : Int)).toNat = 0 from rfl] at hx483_0); (try rw [Addr.add_zero'] at hx483_0); replace p483 := eq_true p483; replace q483 := eq_true q483) | ((with_reducible refine gate_callee (f := 81) rfl ?_); refine goesL_ (some 20) rfl rfl Tryz.func81 (by kernel_rfl) rfl #[.int .i64 (rd l0 0)] rfl Sqz.auM ?_; (with_reducible refine (spec_l1Core.calls k (rd l0 0) t484 t485 _ A6.out).mono ?_); rintro e w11 ⟨rfl, hb⟩; refine ⟨_, rfl, ?_⟩; replace HB := Aside0.mk (below_step (Sqz.auHB) hb); (try clear hb); have p486 : 0 ≤ (1 : Int) := (by omega); have q486 : 1 < (l0.length : Int) := Sqz.od; obtain ⟨ad486, e486, hx486_0⟩ := Kd.at_int HR0.out 1 p486 q486; obtain rfl : ad483 = ad486 := (by injection e486); (try simp only [show (1 : Int).toNat = 1 from rfl, Nat.reduceMul, Nat.reduceEqDiff, Go.Addr.add, ↓reduceIte] at hx486_0); (try rw [show ((1 : Int)).toNat = 1 from rfl] at hx486_0); replace hx486_0 := (HB.out.cell (World.block_lt_of_cell? w _ hx486_0)).trans hx486_0; replace p486 := eq_true p486; replace q486 := eq_true q486) | ((with_reducible refine gate_callee (f := 81) rfl ?_); refine goesL_ (some 27) rfl rfl Tryz.func81 (by kernel_rfl) rfl #[.int .i64 (rd l0 1)] rfl Sqz.auM ?_; (with_reducible refine (spec_l1Core.calls k (rd l0 1) t487 t488 _ A8.out).mono ?_); rintro e w12 ⟨rfl, hb⟩; refine ⟨_, rfl, ?_⟩; replace HB := Aside0.mk (below_step (Sqz.auHB) hb); (try clear hb)) | ((with_reducible refine gate_dst (N := 36) rfl ?_); refine Kd.R_lit (Kd.int .i64) _ 3 ?hg (N := 36) ?hd (xs := ([t488, t485] : List Int)) (inner := [.int .i64 t488, .int .i64 t485]) (ok := fun _ => True) (okp := fun _ => True) ?hr ?hp (fun _ hk => hk) trivial (Below.refl _ _) (Nat.le_refl _) (by simp) ?_; (case hd => rfl); (case hg => rfl); (case hr => first | (go_simp; done) | (go_simp; rfl)); (case hp => exact (Reps.one (show Kd.M (Kd.int .i64) _ _ _ t488 [.int .i64 t488] from rfl) (Reps.one (show Kd.M (Kd.int .i64) _ _ _ t485 [.int .i64 t485] from rfl) (Reps.none _ _)))); intro v490 w13 ho14 hb hg_ hnew_; clear hg_ hnew_; (first | rw [← Ny489.out] at ho14 | (simp only [Int.reduceToNat] at ho14; rw [← Ny489.out] at ho14)); have HO491 := Aside0.mk (Kd.R_lower ho14 (below_size (Sqz.auHB))); replace HB := Aside0.mk (below_step (Sqz.auHB) hb); clear hb ho14; obtain ⟨Ao15, co15, eo15⟩ := Kd.R_slice HO491.out; subst eo15) | ((with_reducible refine gate_callee (f := 82) rfl ?_); refine goesL_ (some 37) rfl rfl Tryz.func82 (by kernel_rfl) rfl #[.slice Ao15 y489.length co15] rfl Sqz.auM ?_; (with_reducible refine (spec_l5Plain.calls k _ _ y489 t492 _ ?side1 ?side2 A10.out).mono ?_); (case side1 => exact Sqz.mvC ((Kd.R_reads' HO491.out).2.2)); (case side2 => exact (Kd.R_reads' HO491.out).2.1); rintro e w16 ⟨v493, rfl, ho0, hb⟩; refine ⟨_, rfl, ?_⟩; have HO494 := Aside0.mk (Kd.R_lower (Kd.R_new' ho0 (Kd.R_lt ((Sqz.mvR HO491.out)))) (below_size (Sqz.auHB))); replace HO491 := Aside0.mk (Kd.R_elder' ((Sqz.mvR HO491.out)) (Kd.R_base ho0) hb); replace HB := Aside0.mk (below_step (Sqz.auHB) hb); (try clear hb); (try clear ho0)))
      go_ret2
      exact ⟨_, Sqz.auR, (Sqz.mvR (Kd.R_mono HO494.out (fun _ hk => trivial))), Sqz.auHB⟩
     ·rw [if_neg c9] at H; have c9b0 := beq_eq_false_iff_ne.mpr c9; obtain ⟨y495, hyy⟩ : ∃ y_ : List Int, y_ = (([] : List Int)) := ⟨_, rfl⟩
      replace H : (some (y495, false)) = some (r1, r2) := Sqz.auY
      have Ny495 := Aside0.mk hyy; clear hyy; simp only [Option.some.injEq, Prod.mk.injEq] at H; obtain ⟨rfl, rfl⟩ := H
      go_enter Tryz.func38, Tryz.ntmps38
      go_wp2_with (first | ((with_reducible refine gate_callee (f := 62) rfl ?_); refine goesL_ (some 9) rfl rfl Tryz.func62 (by kernel_rfl) rfl #[.slice A0 l0.length c0] rfl Sqz.auM ?_; (with_reducible refine (spec_FormValid.calls k _ _ l0 true _ ?side1 ?side2 A2.out).mono ?_); (case side1 => exact Sqz.mvC (HR0.out)); (case side2 => exact HC0.out); rintro e w' ⟨rfl, ⟨nd, rfl⟩⟩; refine ⟨_, rfl, ?_⟩; have p483 : 0 ≤ (0 : Int) := (by omega); have q483 : 0 < (l0.length : Int) := Sqz.od; obtain ⟨ad483, e483, hx483_0⟩ := Kd.at_int HR0.out 0 p483 q483; cases e483; have qi483 : (0 < l0.length) = True := eq_true (by omega); (try rw [show ((0 : Int)).toNat = 0 from rfl] at hx483_0); (try rw [Addr.add_zero'] at hx483_0); replace p483 := eq_true p483; replace q483 := eq_true q483) | ((with_reducible refine gate_callee (f := 81) rfl ?_); refine goesL_ (some 20) rfl rfl Tryz.func81 (by kernel_rfl) rfl #[.int .i64 (rd l0 0)] rfl Sqz.auM ?_; (with_reducible refine (spec_l1Core.calls k (rd l0 0) t484 t485 _ A6.out).mono ?_); rintro e w17 ⟨rfl, hb⟩; refine ⟨_, rfl, ?_⟩; replace HB := Aside0.mk (below_step (Sqz.auHB) hb); (try clear hb); have p486 : 0 ≤ (1 : Int) := (by omega); have q486 : 1 < (l0.length : Int) := Sqz.od; obtain ⟨ad486, e486, hx486_0⟩ := Kd.at_int HR0.out 1 p486 q486; obtain rfl : ad483 = ad486 := (by injection e486); (try simp only [show (1 : Int).toNat = 1 from rfl, Nat.reduceMul, Nat.reduceEqDiff, Go.Addr.add, ↓reduceIte] at hx486_0); (try rw [show ((1 : Int)).toNat = 1 from rfl] at hx486_0); replace hx486_0 := (HB.out.cell (World.block_lt_of_cell? w _ hx486_0)).trans hx486_0; replace p486 := eq_true p486; replace q486 := eq_true q486) | ((with_reducible refine gate_callee (f := 81) rfl ?_); refine goesL_ (some 27) rfl rfl Tryz.func81 (by kernel_rfl) rfl #[.int .i64 (rd l0 1)] rfl Sqz.auM ?_; (with_reducible refine (spec_l1Core.calls k (rd l0 1) t487 t488 _ A8.out).mono ?_); rintro e w18 ⟨rfl, hb⟩; refine ⟨_, rfl, ?_⟩; replace HB := Aside0.mk (below_step (Sqz.auHB) hb); (try clear hb)) | ((with_reducible refine gate_dst (N := 50) rfl ?_); refine Kd.R_lit (Kd.int .i64) _ 3 ?hg (N := 50) ?hd (xs := ([] : List Int)) (inner := []) (ok := fun _ => True) (okp := fun _ => True) ?hr ?hp (fun _ hk => hk) trivial (Below.refl _ _) (Nat.le_refl _) (by simp) ?_; (case hd => rfl); (case hg => rfl); (case hr => first | (go_simp; done) | (go_simp; rfl)); (case hp => exact (Reps.none _ _)); intro v496 w19 ho20 hb hg_ hnew_; clear hg_ hnew_; (first | rw [← Ny495.out] at ho20 | (simp only [Int.reduceToNat] at ho20; rw [← Ny495.out] at ho20)); have HO497 := Aside0.mk (Kd.R_lower ho20 (below_size (Sqz.auHB))); replace HB := Aside0.mk (below_step (Sqz.auHB) hb); clear hb ho20))
      go_ret2
      exact ⟨_, Sqz.auR, (Sqz.mvR HO497.out), Sqz.auHB⟩
    ·rw [if_neg c7] at H; exact absurd H (by simp)
   ·rw [if_neg c5] at H; exact absurd H (by simp)
  ·rw [if_neg c4] at H; have c4b0 := beq_eq_false_iff_ne.mpr c4
   by_cases c21 : (l0.length : Int) = 3
   ·rw [if_pos c21] at H; have c21b0 := beq_iff_eq.mpr c21; clear c21; replace H := Option.bind_eq_some_iff.mp H; obtain ⟨⟨t498, t499⟩, A220, H⟩ := H; replace H : (some (t498, t499)) = some (r1, r2) := H; have A22 := Aside0.mk A220; clear A220; simp only [Option.some.injEq, Prod.mk.injEq] at H; obtain ⟨rfl, rfl⟩ := H
    go_enter Tryz.func38, Tryz.ntmps38
    go_wp2_with (first | ((with_reducible refine gate_callee (f := 62) rfl ?_); refine goesL_ (some 9) rfl rfl Tryz.func62 (by kernel_rfl) rfl #[.slice A0 l0.length c0] rfl Sqz.auM ?_; (with_reducible refine (spec_FormValid.calls k _ _ l0 true _ ?side1 ?side2 A2.out).mono ?_); (case side1 => exact Sqz.mvC (HR0.out)); (case side2 => exact HC0.out); rintro e w' ⟨rfl, ⟨nd, rfl⟩⟩; refine ⟨_, rfl, ?_⟩) | ((with_reducible refine gate_callee (f := 83) rfl ?_); refine goesL_ (some 41) rfl rfl Tryz.func83 (by kernel_rfl) rfl #[.slice A0 l0.length c0] rfl Sqz.auM ?_; (with_reducible refine (spec_l5Three.calls k _ _ l0 t498 t499 _ ?side1 ?side2 A22.out).mono ?_); (case side1 => exact Sqz.mvC (HR0.out)); (case side2 => exact HC0.out); rintro e w23 ⟨v500, rfl, ho0, hb⟩; refine ⟨_, rfl, ?_⟩; have HO501 := Aside0.mk (Kd.R_lower ho0 (below_size (Sqz.auHB))); replace HB := Aside0.mk (below_step (Sqz.auHB) hb); (try clear hb); (try clear ho0)))
    go_ret2
    exact ⟨_, Sqz.auR, (Sqz.mvR HO501.out), Sqz.auHB⟩
   ·rw [if_neg c21] at H; have c21b0 := beq_eq_false_iff_ne.mpr c21
    by_cases c24 : (l0.length : Int) = 4
    ·rw [if_pos c24] at H; have c24b0 := beq_iff_eq.mpr c24; clear c24; replace H := Option.bind_eq_some_iff.mp H; obtain ⟨⟨t502, t503⟩, A250, H⟩ := H; replace H : (some (t502, t503)) = some (r1, r2) := H; have A25 := Aside0.mk A250; clear A250; simp only [Option.some.injEq, Prod.mk.injEq] at H; obtain ⟨rfl, rfl⟩ := H
     go_enter Tryz.func38, Tryz.ntmps38
     go_wp2_with (first | ((with_reducible refine gate_callee (f := 62) rfl ?_); refine goesL_ (some 9) rfl rfl Tryz.func62 (by kernel_rfl) rfl #[.slice A0 l0.length c0] rfl Sqz.auM ?_; (with_reducible refine (spec_FormValid.calls k _ _ l0 true _ ?side1 ?side2 A2.out).mono ?_); (case side1 => exact Sqz.mvC (HR0.out)); (case side2 => exact HC0.out); rintro e w' ⟨rfl, ⟨nd, rfl⟩⟩; refine ⟨_, rfl, ?_⟩) | ((with_reducible refine gate_callee (f := 84) rfl ?_); refine goesL_ (some 47) rfl rfl Tryz.func84 (by kernel_rfl) rfl #[.slice A0 l0.length c0] rfl Sqz.auM ?_; (with_reducible refine (spec_l5Four.calls k _ _ l0 t502 t503 _ ?side1 ?side2 A25.out).mono ?_); (case side1 => exact Sqz.mvC (HR0.out)); (case side2 => exact HC0.out); rintro e w26 ⟨v504, rfl, ho0, hb⟩; refine ⟨_, rfl, ?_⟩; have HO505 := Aside0.mk (Kd.R_lower ho0 (below_size (Sqz.auHB))); replace HB := Aside0.mk (below_step (Sqz.auHB) hb); (try clear hb); (try clear ho0)))
     go_ret2
     exact ⟨_, Sqz.auR, (Sqz.mvR HO505.out), Sqz.auHB⟩
    ·rw [if_neg c24] at H; have c24b0 := beq_eq_false_iff_ne.mpr c24; obtain ⟨y506, hyy⟩ : ∃ y_ : List Int, y_ = (([] : List Int)) := ⟨_, rfl⟩
     replace H : (some (y506, false)) = some (r1, r2) := Sqz.auY
     have Ny506 := Aside0.mk hyy; clear hyy; simp only [Option.some.injEq, Prod.mk.injEq] at H; obtain ⟨rfl, rfl⟩ := H
     go_enter Tryz.func38, Tryz.ntmps38
     go_wp2_with (first | ((with_reducible refine gate_callee (f := 62) rfl ?_); refine goesL_ (some 9) rfl rfl Tryz.func62 (by kernel_rfl) rfl #[.slice A0 l0.length c0] rfl Sqz.auM ?_; (with_reducible refine (spec_FormValid.calls k _ _ l0 true _ ?side1 ?side2 A2.out).mono ?_); (case side1 => exact Sqz.mvC (HR0.out)); (case side2 => exact HC0.out); rintro e w' ⟨rfl, ⟨nd, rfl⟩⟩; refine ⟨_, rfl, ?_⟩) | ((with_reducible refine gate_dst (N := 50) rfl ?_); refine Kd.R_lit (Kd.int .i64) _ 3 ?hg (N := 50) ?hd (xs := ([] : List Int)) (inner := []) (ok := fun _ => True) (okp := fun _ => True) ?hr ?hp (fun _ hk => hk) trivial (Below.refl _ _) (Nat.le_refl _) (by simp) ?_; (case hd => rfl); (case hg => rfl); (case hr => first | (go_simp; done) | (go_simp; rfl)); (case hp => exact (Reps.none _ _)); intro v507 w27 ho28 hb hg_ hnew_; clear hg_ hnew_; (first | rw [← Ny506.out] at ho28 | (simp only [Int.reduceToNat] at ho28; rw [← Ny506.out] at ho28)); have HO508 := Aside0.mk (Kd.R_lower ho28 (below_size (Sqz.auHB))); replace HB := Aside0.mk (below_step (Sqz.auHB) hb); clear hb ho28))
     go_ret2
     exact ⟨_, Sqz.auR, (Sqz.mvR HO508.out), Sqz.auHB⟩
 ·replace c3 := Bool.eq_false_iff.mpr c3; subst c3; have H1 : (some ((([] : List Int)), false)) = some (r1, r2) := by rw [if_neg (show ¬ (false = true) by decide)] at H; exact H
  clear H; have H := H1; clear H1; obtain ⟨y480, hyy⟩ : ∃ y_ : List Int, y_ = (([] : List Int)) := ⟨_, rfl⟩
  replace H : (some (y480, false)) = some (r1, r2) := Sqz.auY
  have Ny480 := Aside0.mk hyy; clear hyy; simp only [Option.some.injEq, Prod.mk.injEq] at H; obtain ⟨rfl, rfl⟩ := H
  go_enter Tryz.func38, Tryz.ntmps38
  go_wp2_with (first | ((with_reducible refine gate_callee (f := 62) rfl ?_); refine goesL_ (some 9) rfl rfl Tryz.func62 (by kernel_rfl) rfl #[.slice A0 l0.length c0] rfl Sqz.auM ?_; (with_reducible refine (spec_FormValid.calls k _ _ l0 false _ ?side1 ?side2 A2.out).mono ?_); (case side1 => exact Sqz.mvC (HR0.out)); (case side2 => exact HC0.out); rintro e w' ⟨rfl, ⟨nd, rfl⟩⟩; refine ⟨_, rfl, ?_⟩) | ((with_reducible refine gate_dst (N := 11) rfl ?_); refine Kd.R_lit (Kd.int .i64) _ 3 ?hg (N := 11) ?hd (xs := ([] : List Int)) (inner := []) (ok := fun _ => True) (okp := fun _ => True) ?hr ?hp (fun _ hk => hk) trivial (Below.refl _ _) (Nat.le_refl _) (by simp) ?_; (case hd => rfl); (case hg => rfl); (case hr => first | (go_simp; done) | (go_simp; rfl)); (case hp => exact (Reps.none _ _)); intro v481 w29 ho30 hb hg_ hnew_; clear hg_ hnew_; (first | rw [← Ny480.out] at ho30 | (simp only [Int.reduceToNat] at ho30; rw [← Ny480.out] at ho30)); have HO482 := Aside0.mk (Kd.R_lower ho30 (below_size (Sqz.auHB))); replace HB := Aside0.mk (below_step (Sqz.auHB) hb); clear hb ho30))
  go_ret2
  exact ⟨_, Sqz.auR, (Sqz.mvR HO482.out), Sqz.auHB⟩

/-! ### spec_l7Form: function 89 -/
def spec_l7Form.f (k : Nat) (l0 : List Int) : Option (Bool) := (spec_FormValid.f k l0).bind fun t509 => (if t509 = true then (some (decide ((l0.length : Int) ≤ 3))) else (some false))
set_option maxHeartbeats 8000000 in
set_option maxRecDepth 100000 in
theorem spec_l7Form.calls (k : Nat) (A0 : Option Addr) (c0 : Nat) (l0 : List Int) (r : Bool) (w : World) (hr0 : Kd.C (Kd.int .i64) w A0 l0.length l0) (hc0 : l0.length ≤ c0) (h : spec_l7Form.f k l0 = some r) :
  Calls Tryz.prog 89 #[.slice A0 l0.length c0] w fun e w' => e = .returned (.bool r) ∧ Drawn0 w w' := by
 have HR0 := Aside0.mk hr0; have HC0 := Aside0.mk hc0; clear hr0 hc0; have H : ((spec_FormValid.f k l0).bind fun t509 => (if t509 = true then (some (decide ((l0.length : Int) ≤ 3))) else (some false))) = some r := h; clear h; obtain ⟨t509, A2, H⟩ := Sqz.be H
 by_cases c3 : t509 = true
 ·subst c3; have H1 : (some (decide ((l0.length : Int) ≤ 3))) = some r := by rw [if_pos rfl] at H; exact H
  clear H; have H := H1; clear H1; obtain rfl := Option.some.inj H
  go_enter Tryz.func89, Tryz.ntmps89
  go_wp2_with (((with_reducible refine gate_callee (f := 62) rfl ?_); refine goesL_ (some 4) rfl rfl Tryz.func62 (by kernel_rfl) rfl #[.slice A0 l0.length c0] rfl Sqz.auM ?_; (with_reducible refine (spec_FormValid.calls k _ _ l0 true _ ?side1 ?side2 A2.out).mono ?_); (case side1 => exact Sqz.mvC (HR0.out)); (case side2 => exact HC0.out); rintro e w' ⟨rfl, ⟨nd, rfl⟩⟩; refine ⟨_, rfl, ?_⟩))
  go_ret
  exact ⟨Sqz.auS, by repeat (first | exact Drawn0.refl _ | apply Drawn0.step)⟩
 ·replace c3 := Bool.eq_false_iff.mpr c3; subst c3; have H1 : (some false) = some r := by rw [if_neg (show ¬ (false = true) by decide)] at H; exact H
  clear H; have H := H1; clear H1; obtain rfl := Option.some.inj H
  go_enter Tryz.func89, Tryz.ntmps89
  go_wp2_with (((with_reducible refine gate_callee (f := 62) rfl ?_); refine goesL_ (some 4) rfl rfl Tryz.func62 (by kernel_rfl) rfl #[.slice A0 l0.length c0] rfl Sqz.auM ?_; (with_reducible refine (spec_FormValid.calls k _ _ l0 false _ ?side1 ?side2 A2.out).mono ?_); (case side1 => exact Sqz.mvC (HR0.out)); (case side2 => exact HC0.out); rintro e w' ⟨rfl, ⟨nd, rfl⟩⟩; refine ⟨_, rfl, ?_⟩))
  go_ret
  exact ⟨Sqz.auS, by repeat (first | exact Drawn0.refl _ | apply Drawn0.step)⟩

/-! ### spec_l9Number: function 90 -/
def spec_l9Number.f (a0 : Int) : Option (Bool) := if a0 = 0 then (some false) else ((spec_l6In.f a0 (-30) 30).bind fun t510 => (some t510))
set_option maxHeartbeats 8000000 in
set_option maxRecDepth 100000 in
theorem spec_l9Number.calls (a0 : Int) (r : Bool) (w : World) (h : spec_l9Number.f a0 = some r) :
  Calls Tryz.prog 90 #[.int .i64 a0] w fun e w' => e = .returned (.bool r) ∧ Drawn0 w w' := by
 have H : (if a0 = 0 then (some false) else ((spec_l6In.f a0 (-30) 30).bind fun t510 => (some t510))) = some r := h; clear h
 by_cases c2 : a0 = 0
 ·rw [if_pos c2] at H; have c2b1 := bne_eq_false_iff_eq.mpr c2; clear c2; obtain rfl := Option.some.inj H
  go_enter Tryz.func90, Tryz.ntmps90
  go_wp2; go_ret
  exact ⟨Sqz.auS, by repeat (first | exact Drawn0.refl _ | apply Drawn0.step)⟩
 ·rw [if_neg c2] at H; have c2b1 := bne_iff_ne.mpr c2; obtain ⟨t510, A3, H⟩ := Sqz.be H; obtain rfl := Option.some.inj H
  go_enter Tryz.func90, Tryz.ntmps90
  go_wp2_with ((go_at_call 111; (with_reducible refine (spec_l6In.calls a0 (-30) 30 t510 _ A3.out).mono ?_); rintro e w' ⟨rfl, ⟨nd, rfl⟩⟩))
  go_ret
  exact ⟨Sqz.auS, by repeat (first | exact Drawn0.refl _ | apply Drawn0.step)⟩

/-! ### spec_l6kAxis: function 91 -/
def spec_l6kAxis.l0 : Nat → List Int → Int → Option (Int)
 | 0, _, _ => none
 | k + 1, x0, x3 => if 0 ≤ x3 then (if x3 < (x0.length : Int) then (if (rd x0 x3) = 0 then (spec_l6kAxis.l0 k x0 (wrap64 (x3 + 1))) else (some x3)) else (none)) else (none)
def spec_l6kAxis.f (k : Nat) (l0 : List Int) : Option (Int) := spec_l6kAxis.l0 k l0 0
set_option maxHeartbeats 8000000 in
set_option maxRecDepth 100000 in
theorem spec_l6kAxis.calls (k : Nat) (A0 : Option Addr) (c0 : Nat) (l0 : List Int) (r : Int) (w : World) (hr0 : Kd.C (Kd.int .i64) w A0 l0.length l0) (hc0 : l0.length ≤ c0) (h : spec_l6kAxis.f k l0 = some r) :
  Calls Tryz.prog 91 #[.slice A0 l0.length c0] w fun e w' => e = .returned (.int .i64 r) ∧ Drawn0 w w' := by
 have HR0 := Aside0.mk hr0; have HC0 := Aside0.mk hc0; clear hr0 hc0; have H : (spec_l6kAxis.l0 k l0 0) = some r := h; clear h; have H' := Aside0.mk H; clear H
 go_enter Tryz.func91, Tryz.ntmps91
 go_wp2
 go_loopg [3] k (fun kq v3 w' => ∃ (x3_1 : Int), v3 = .int .i64 x3_1 ∧ Aside0 (spec_l6kAxis.l0 kq l0 x3_1 = some r) ∧ Aside0 (kq ≤ k) ∧ Drawn0 w w')
 case atStart => exact ⟨(0), Sqz.auS, H', ⟨Nat.le_refl _⟩, by repeat (first | exact Drawn0.refl _ | apply Drawn0.step)⟩
 case round =>
  clear H'; obtain ⟨x3_1, rfl, HA, HK1, ⟨m1, rfl⟩⟩ := hrel; cases gk with
  | zero => exact absurd HA.out (by simp [spec_l6kAxis.l0])
  | succ k1 =>
   have H := HA.out; clear HA; simp only [spec_l6kAxis.l0] at H
   by_cases c2 : 0 ≤ x3_1
   ·rw [if_pos c2] at H; have c2b0 := decide_eq_true c2; clear c2
    by_cases c3 : x3_1 < (l0.length : Int)
    ·rw [if_pos c3] at H; have c3b0 := decide_eq_true c3; clear c3
     by_cases c4 : (rd l0 x3_1) = 0
     ·rw [if_pos c4] at H; have c4b0 := beq_iff_eq.mpr c4; clear c4; have H' := Aside0.mk H; clear H; have p511 : 0 ≤ (x3_1 : Int) := Sqz.od; have q511 : x3_1 < (l0.length : Int) := Sqz.od; obtain ⟨ad511, e511, hx511_0⟩ := Kd.at_int HR0.out x3_1 p511 q511; cases e511; replace p511 := eq_true p511; replace q511 := eq_true q511; go_wp2
      go_roundg k1
      case measure => have := HK1.out; omega
      case rel => exact ⟨(wrap64 (x3_1 + 1)), Sqz.auS, H', ⟨by have := HK1.out; omega⟩, by repeat (first | exact Drawn0.refl _ | apply Drawn0.step)⟩
     ·rw [if_neg c4] at H; have c4b0 := beq_eq_false_iff_ne.mpr c4; obtain rfl := Option.some.inj H; have p511 : 0 ≤ (x3_1 : Int) := Sqz.od; have q511 : x3_1 < (l0.length : Int) := Sqz.od; obtain ⟨ad511, e511, hx511_0⟩ := Kd.at_int HR0.out x3_1 p511 q511; cases e511; replace p511 := eq_true p511; replace q511 := eq_true q511; go_wp2; go_ret
      exact ⟨Sqz.auS, by repeat (first | exact Drawn0.refl _ | apply Drawn0.step)⟩
    ·rw [if_neg c3] at H; exact absurd H (by simp)
   ·rw [if_neg c2] at H; exact absurd H (by simp)

/-! ### spec_l7Low: function 139 -/
mutual
def spec_l7Low.l0 : Nat → List (List Int) → Int → Int → Int → Option ((List (List Int)) × Int)
 | 0, _, _, _, _ => none
 | k + 1, x0, x1, x5, x6 => if x6 < (x0.length : Int) then (spec_l7Low.l1 k x0 x1 x5 x6 0) else (if x1 < 0 then (spec_l7Low.j2 k x0 x1 (wrap64 (-x5))) else (spec_l7Low.j2 k x0 x1 x5))
def spec_l7Low.l1 : Nat → List (List Int) → Int → Int → Int → Int → Option ((List (List Int)) × Int)
 | 0, _, _, _, _, _ => none
 | k + 1, x0, x1, x5, x6, x7 => if 0 ≤ x6 then (if x6 < (x0.length : Int) then (if x7 < ((rd_L3 x0 x6).length : Int) then (if 0 ≤ x7 then ((spec_l1Gcd.f k x5 (rd (rd_L3 x0 x6) x7)).bind fun t516 => (spec_l7Low.l1 k x0 x1 t516 x6 (wrap64 (x7 + 1)))) else (none)) else (spec_l7Low.l0 k x0 x1 x5 (wrap64 (x6 + 1)))) else (none)) else (none)
def spec_l7Low.j2 : Nat → List (List Int) → Int → Int → Option ((List (List Int)) × Int)
 | 0, _, _, _ => none
 | k + 1, x0, x1, x5 => if x5 = 0 then (none) else (spec_l7Low.l2 k x0 x5 0 (([] : List (List Int))) (wrap64 (Int.tdiv x1 x5)))
def spec_l7Low.l2 : Nat → List (List Int) → Int → Int → List (List Int) → Int → Option ((List (List Int)) × Int)
 | 0, _, _, _, _, _ => none
 | k + 1, x0, x5, x9, x521000, x521001 => if x9 < (x0.length : Int) then (spec_l7Low.l3 k x0 x5 x9 (([] : List Int)) 0 x521000 x521001) else (some (x521000, x521001))
def spec_l7Low.l3 : Nat → List (List Int) → Int → Int → List Int → Int → List (List Int) → Int → Option ((List (List Int)) × Int)
 | 0, _, _, _, _, _, _, _ => none
 | k + 1, x0, x5, x9, x10, x11, x521000, x521001 => if 0 ≤ x9 then (if x9 < (x0.length : Int) then (if x11 < ((rd_L3 x0 x9).length : Int) then (if 0 ≤ x11 then (if x5 = 0 then (none) else (if x10.length < 17592186044416 then (spec_l7Low.l3 k x0 x5 x9 (x10 ++ [wrap64 (Int.tdiv (rd (rd_L3 x0 x9) x11) x5)]) (wrap64 (x11 + 1)) x521000 x521001) else (none))) else (none)) else (if x521000.length < 5864062014805 then (spec_l7Low.l2 k x0 x5 (wrap64 (x9 + 1)) (x521000 ++ [x10]) x521001) else (none))) else (none)) else (none)
end
def spec_l7Low.f (k : Nat) (l0 : List (List Int)) (a1 : Int) : Option ((List (List Int)) × Int) := spec_l7Low.l0 k l0 a1 a1 0
set_option maxHeartbeats 8000000 in
set_option maxRecDepth 100000 in
theorem spec_l7Low.calls (k : Nat) (A0 : Option Addr) (c0 : Nat) (l0 : List (List Int)) (a1 : Int) (r1 : List (List Int)) (r2 : Int) (w : World) (hr0 : Kd.C (Kd.slice 3 (Kd.int .i64)) w A0 l0.length l0) (hc0 : l0.length ≤ c0) (h : spec_l7Low.f k l0 a1 = some (r1, r2)) :
  Calls Tryz.prog 139 #[.slice A0 l0.length c0, .int .i64 a1] w fun e w' => ∃ v0_ : Value, e = .returned (.agg #[v0_, .int .i64 r2]) ∧ Kd.S (Kd.slice 3 (Kd.int .i64)) 27 w' w.heap.size (fun _ => True) v0_ r1 ∧ Below w.heap.size w w' := by
 have hu105 := Tryz.underlying105; have HR0 := Aside0.mk hr0; have HC0 := Aside0.mk hc0; clear hr0 hc0; have HB := Aside0.mk (Below.refl w.heap.size w); have H : (spec_l7Low.l0 k l0 a1 a1 0) = some (r1, r2) := h; clear h; have H' := Aside0.mk H; clear H
 go_enter Tryz.func139, Tryz.ntmps139
 go_wp2_with (((with_reducible refine gate_dst (N := 4) rfl ?_); refine box_event ?hg (N := 4) ?hd (cs := #[.slice none 0 0, .int .i64 0]) (t := 105) ?hr ?_; (case hd => rfl); (case hg => rfl); (case hr => first | (go_simp; done) | (go_simp; rfl)); intro gb512 hg w3 hbox hb; have BK512 := Aside0.mk (hbox); have GW512 := Aside0.mk ((by rw [hg]; exact (below_size (Sqz.auHB)) : w.heap.size ≤ gb512)); have GE512 := Aside0.mk ((by rw [hg]; exact (below_size (Sqz.auHB)) : w.heap.size ≤ gb512)); replace HB := Aside0.mk (below_step (Sqz.auHB) hb); clear hb hbox hg))
 go_loopg [5, 6] k (fun kq v5 v6 w' => ∃ (x5_1 : Int) (x6_1 : Int), v5 = .int .i64 x5_1 ∧ v6 = .int .i64 x6_1 ∧ Aside0 (spec_l7Low.l0 kq l0 a1 x5_1 x6_1 = some (r1, r2)) ∧ Aside0 (kq ≤ k) ∧ Aside0 (w'.heap[gb512]? = some (.cells #[(.slice none 0 0), .int .i64 0] 105 (0, 0))) ∧ Aside0 (Below w.heap.size w w'))
 case atStart => exact ⟨(a1), (0), Sqz.auS, Sqz.auS, H', ⟨Nat.le_refl _⟩, ⟨by (with_reducible repeat (first | refine blk_drewN ?_ _ | refine blk_drew ?_ | refine blk_alloc ?_ _)); exact BK512.out⟩, ⟨by repeat (first | (with_reducible first | exact HB.out | apply below_alloc | apply pw_below_drewN | apply below_drew1 | refine below_set ?_ GE512.out) | exact HB.out)⟩⟩
 case round =>
  clear H'
  obtain ⟨x5_1, x6_1, rfl, rfl, HA, HK1, BK512, HB⟩ := hrel; cases gk with
  | zero => exact absurd HA.out (by simp [spec_l7Low.l0])
  | succ k1 =>
   have H := HA.out; clear HA; simp only [spec_l7Low.l0] at H
   by_cases c4 : x6_1 < (l0.length : Int)
   ·rw [if_pos c4] at H; have c4b0 := decide_eq_true c4; clear c4; have H' := Aside0.mk H; clear H; go_wp2
    go_loopg [5, 7] k1 (fun kq v5 v7 w' => ∃ (x5_2 : Int) (x7_2 : Int), v5 = .int .i64 x5_2 ∧ v7 = .int .i64 x7_2 ∧ Aside0 (spec_l7Low.l1 kq l0 a1 x5_2 x6_1 x7_2 = some (r1, r2)) ∧ Aside0 (kq ≤ k1) ∧ Aside0 (w'.heap[gb512]? = some (.cells #[(.slice none 0 0), .int .i64 0] 105 (0, 0))) ∧ Aside0 (Below w.heap.size w w'))
    case atStart => exact ⟨(x5_1), (0), Sqz.auS, Sqz.auS, H', ⟨Nat.le_refl _⟩, ⟨by (with_reducible repeat (first | refine blk_drewN ?_ _ | refine blk_drew ?_ | refine blk_alloc ?_ _)); exact BK512.out⟩, ⟨by repeat (first | (with_reducible first | exact HB.out | apply below_alloc | apply pw_below_drewN | apply below_drew1 | refine below_set ?_ GE512.out) | exact HB.out)⟩⟩
    case round =>
     clear H'
     try clear c4b0
     obtain ⟨x5_2, x7_2, rfl, rfl, HA, HK2, BK512, HB⟩ := hrel; cases gk with
     | zero => exact absurd HA.out (by simp [spec_l7Low.l1])
     | succ k2 =>
      have H := HA.out; clear HA; simp only [spec_l7Low.l1] at H
      by_cases c5 : 0 ≤ x6_1
      ·rw [if_pos c5] at H; have c5b0 := decide_eq_true c5; clear c5
       by_cases c6 : x6_1 < (l0.length : Int)
       ·rw [if_pos c6] at H; have c6b0 := decide_eq_true c6; clear c6
        by_cases c7 : x7_2 < ((rd_L3 l0 x6_1).length : Int)
        ·rw [if_pos c7] at H; have c7b0 := decide_eq_true c7; clear c7
         by_cases c8 : 0 ≤ x7_2
         ·rw [if_pos c8] at H; have c8b0 := decide_eq_true c8; clear c8; obtain ⟨t516, A9, H⟩ := Sqz.be H; have H' := Aside0.mk H; clear H; have p513 : 0 ≤ (x6_1 : Int) := Sqz.od; have q513 : x6_1 < (l0.length : Int) := Sqz.od; obtain ⟨ad513, A513_0, c513_0, e513, hx513_0, hl513_0, hi513_0⟩ := at_L3 HR0.out x6_1 p513 q513; cases e513; replace hx513_0 := (HB.out.cell (World.block_lt_of_cell? w _ hx513_0)).trans hx513_0; have HR513_0 := Aside0.mk hi513_0; have HC513_0 := Aside0.mk hl513_0; clear hi513_0 hl513_0; replace p513 := eq_true p513; replace q513 := eq_true q513; have p514 : 0 ≤ (x6_1 : Int) := Sqz.od; have q514 : x6_1 < (l0.length : Int) := Sqz.od; obtain ⟨ad514, A514_0, c514_0, e514, hx514_0, hl514_0, hi514_0⟩ := at_L3 HR0.out x6_1 p514 q514; obtain rfl : ad513 = ad514 := (by injection e514); replace hx514_0 := (HB.out.cell (World.block_lt_of_cell? w _ hx514_0)).trans hx514_0; have HR514_0 := Aside0.mk hi514_0; have HC514_0 := Aside0.mk hl514_0; clear hi514_0 hl514_0; replace p514 := eq_true p514; replace q514 := eq_true q514; have ea_ := Option.some.inj (hx513_0.symm.trans hx514_0); injection ea_ with ea_ en_ ec_
          subst ea_; subst ec_; clear en_; have p515 : 0 ≤ (x7_2 : Int) := Sqz.od; have q515 : x7_2 < ((rd_L3 l0 x6_1).length : Int) := Sqz.od; obtain ⟨ad515, e515, hx515_0⟩ := Kd.at_int HR514_0.out x7_2 p515 q515; cases e515; replace hx515_0 := (HB.out.cell (World.block_lt_of_cell? w _ hx515_0)).trans hx515_0; replace p515 := eq_true p515; replace q515 := eq_true q515
          go_wp2_with (((with_reducible refine gate_callee (f := 136) rfl ?_); refine goesL_ (some 36) rfl rfl Tryz.func136 (by kernel_rfl) rfl #[.int .i64 x5_2, .int .i64 (rd (rd_L3 l0 x6_1) x7_2)] rfl Sqz.auM ?_; (with_reducible refine (spec_l1Gcd.calls k2 x5_2 (rd (rd_L3 l0 x6_1) x7_2) t516 _ A9.out).mono ?_); rintro e w10 ⟨rfl, hb⟩; refine ⟨_, rfl, ?_⟩; replace BK512 := Aside0.mk (blk_below (g := gb512) (o := .cells #[.slice none 0 0, .int .i64 0] 105 (0, 0)) (by (with_reducible repeat (first | refine blk_drewN ?_ _ | refine blk_drew ?_ | refine blk_alloc ?_ _)); exact BK512.out) hb); replace HB := Aside0.mk (below_step (by repeat (first | (with_reducible first | exact HB.out | apply below_alloc | apply pw_below_drewN | apply below_drew1 | refine below_set ?_ GE512.out) | exact HB.out)) hb); (try clear hb)))
          go_roundg k2
          case measure => have := HK1.out; have := HK2.out; omega
          case rel => exact ⟨(t516), (wrap64 (x7_2 + 1)), Sqz.auS, Sqz.auS, H', ⟨by have := HK1.out; have := HK2.out; omega⟩, ⟨by (with_reducible repeat (first | refine blk_drewN ?_ _ | refine blk_drew ?_ | refine blk_alloc ?_ _)); exact BK512.out⟩, ⟨by repeat (first | (with_reducible first | exact HB.out | apply below_alloc | apply pw_below_drewN | apply below_drew1 | refine below_set ?_ GE512.out) | exact HB.out)⟩⟩
         ·rw [if_neg c8] at H; exact absurd H (by simp)
        ·rw [if_neg c7] at H; have c7b0 := decide_eq_false c7; clear c7; have H' := Aside0.mk H; clear H; have p513 : 0 ≤ (x6_1 : Int) := Sqz.od; have q513 : x6_1 < (l0.length : Int) := Sqz.od; obtain ⟨ad513, A513_0, c513_0, e513, hx513_0, hl513_0, hi513_0⟩ := at_L3 HR0.out x6_1 p513 q513; cases e513; replace hx513_0 := (HB.out.cell (World.block_lt_of_cell? w _ hx513_0)).trans hx513_0; have HR513_0 := Aside0.mk hi513_0; have HC513_0 := Aside0.mk hl513_0; clear hi513_0 hl513_0; replace p513 := eq_true p513; replace q513 := eq_true q513; go_wp2
         go_roundg k2
         case measure => have := HK1.out; have := HK2.out; omega
         case rel => exact ⟨(x5_2), (wrap64 (x6_1 + 1)), Sqz.auS, Sqz.auS, H', ⟨by have := HK1.out; have := HK2.out; omega⟩, ⟨by (with_reducible repeat (first | refine blk_drewN ?_ _ | refine blk_drew ?_ | refine blk_alloc ?_ _)); exact BK512.out⟩, ⟨by repeat (first | (with_reducible first | exact HB.out | apply below_alloc | apply pw_below_drewN | apply below_drew1 | refine below_set ?_ GE512.out) | exact HB.out)⟩⟩
       ·rw [if_neg c6] at H; exact absurd H (by simp)
      ·rw [if_neg c5] at H; exact absurd H (by simp)
   ·rw [if_neg c4] at H; have c4b0 := decide_eq_false c4; clear c4; have HC11 := Aside0.mk H; clear H
    go_upto_if 38 with (fail)
    go_cut [5] (fun v5 wc => ∃ (kq : Nat) (x5_10 : Int), v5 = .int .i64 x5_10 ∧ Aside0 (spec_l7Low.j2 kq l0 a1 x5_10 = some (r1, r2)) ∧ Aside0 (kq ≤ k1) ∧ Aside0 (wc.heap[gb512]? = some (.cells #[(.slice none 0 0), .int .i64 0] 105 (0, 0))) ∧ Aside0 (Below w.heap.size w wc))
    case first =>
     have H := HC11.out; clear HC11
     by_cases c12 : a1 < 0
     ·rw [if_pos c12] at H; have c12b0 := decide_eq_true c12; clear c12
      rw [c12b0]
      have H' := Aside0.mk H; clear H; go_wp2
      go_meet
      case rel => exact ⟨_, (wrap64 (-x5_1)), Sqz.auS, H', ⟨by have := HK1.out; first | omega | exact Nat.le_refl _⟩, ⟨by (with_reducible repeat (first | refine blk_drewN ?_ _ | refine blk_drew ?_ | refine blk_alloc ?_ _)); exact BK512.out⟩, ⟨by repeat (first | (with_reducible first | exact HB.out | apply below_alloc | apply pw_below_drewN | apply below_drew1 | refine below_set ?_ GE512.out) | exact HB.out)⟩⟩
     ·rw [if_neg c12] at H; have c12b0 := decide_eq_false c12; clear c12
      rw [c12b0]
      have H' := Aside0.mk H; clear H; go_wp2
      go_meet
      case rel => exact ⟨_, (x5_1), Sqz.auS, H', ⟨by have := HK1.out; first | omega | exact Nat.le_refl _⟩, ⟨by (with_reducible repeat (first | refine blk_drewN ?_ _ | refine blk_drew ?_ | refine blk_alloc ?_ _)); exact BK512.out⟩, ⟨by repeat (first | (with_reducible first | exact HB.out | apply below_alloc | apply pw_below_drewN | apply below_drew1 | refine below_set ?_ GE512.out) | exact HB.out)⟩⟩
    case rest =>
     clear HC11
     try clear c4b0
     obtain ⟨kq, x5_10, rfl, HA, HJ10, BK512, HB⟩ := hcut; cases kq with
     | zero => exact absurd HA.out (by simp [spec_l7Low.j2])
     | succ kj10 =>
      have H := HA.out; clear HA; simp only [spec_l7Low.j2] at H; obtain ⟨y517, hyy⟩ : ∃ y_ : List (List Int), y_ = (([] : List (List Int))) := ⟨_, rfl⟩
      replace H : (if x5_10 = 0 then (none) else (spec_l7Low.l2 kj10 l0 x5_10 0 y517 (wrap64 (Int.tdiv a1 x5_10)))) = some (r1, r2) := Sqz.auY
      have Ny517 := Aside0.mk hyy; clear hyy
      by_cases c13 : x5_10 = 0
      ·rw [if_pos c13] at H; exact absurd H (by simp)
      ·rw [if_neg c13] at H; have H' := Aside0.mk H; clear H
       go_wp2_with (first | ((with_reducible refine gate_dst (N := 41) rfl ?_); refine Kd.S_lit (Kd.slice 3 (Kd.int .i64)) _ 27 ?hg (N := 41) ?hd (xs := ([] : List (List Int))) (inner := []) (ok := fun _ => True) (okp := fun _ => True) ?hr ?hp (fun _ hk => hk) trivial (Below.refl _ _) (Nat.le_refl _) (by simp) ?_; (case hd => rfl); (case hg => rfl); (case hr => first | (go_simp; done) | (go_simp; rfl)); (case hp => exact (Reps.none _ _)); intro v518 w14 ho15 hb hg_ hnew_; clear hg_ hnew_; (first | rw [← Ny517.out] at ho15 | (simp only [Int.reduceToNat] at ho15; rw [← Ny517.out] at ho15)); have HO519 := Aside0.mk (Kd.S_lower ho15 (below_size (by repeat (first | (with_reducible first | exact HB.out | apply below_alloc | apply pw_below_drewN | apply below_drew1 | refine below_set ?_ GE512.out) | exact HB.out)))); replace BK512 := Aside0.mk (blk_below (g := gb512) (o := .cells #[.slice none 0 0, .int .i64 0] 105 (0, 0)) (by (with_reducible repeat (first | refine blk_drewN ?_ _ | refine blk_drew ?_ | refine blk_alloc ?_ _)); exact BK512.out) hb); replace HB := Aside0.mk (below_step (by repeat (first | (with_reducible first | exact HB.out | apply below_alloc | apply pw_below_drewN | apply below_drew1 | refine below_set ?_ GE512.out) | exact HB.out)) hb); clear hb ho15; obtain ⟨Ao16, co16, eo16⟩ := Kd.S_slice HO519.out; subst eo16) | ((with_reducible refine gate_dst (N := 8) rfl ?_); refine box_event ?hg (N := 8) ?hd (cs := #[.slice none 0 0, .int .i64 0]) (t := 105) ?hr ?_; (case hd => rfl); (case hg => rfl); (case hr => first | (go_simp; done) | (go_simp; rfl)); intro gb520 hg w17 hbox hb; replace HO519 := Aside0.mk (Kd.S_below (by (with_reducible repeat (first | apply Kd.S_alloc | apply Kd.S_drewN | apply Kd.S_drew)); exact HO519.out) hb); have BK520 := Aside0.mk (hbox); have GW520 := Aside0.mk ((by rw [hg]; exact (below_size (by repeat (first | (with_reducible first | exact HB.out | apply below_alloc | apply pw_below_drewN | apply below_drew1 | refine below_set ?_ GE512.out) | exact HB.out))) : w.heap.size ≤ gb520)); have GE520 := Aside0.mk ((by rw [hg]; exact (below_size (by repeat (first | (with_reducible first | exact HB.out | apply below_alloc | apply pw_below_drewN | apply below_drew1 | refine below_set ?_ GE512.out) | exact HB.out))) : w.heap.size ≤ gb520)); replace HB := Aside0.mk (below_step (by repeat (first | (with_reducible first | exact HB.out | apply below_alloc | apply pw_below_drewN | apply below_drew1 | refine below_set ?_ GE512.out) | exact HB.out)) hb); have NB512_520 := Aside0.mk ((by rw [hg]; exact Nat.ne_of_lt (blk_lt (g := gb512) (o := .cells #[.slice none 0 0, .int .i64 0] 105 (0, 0)) (by (with_reducible repeat (first | refine blk_drewN ?_ _ | refine blk_drew ?_ | refine blk_alloc ?_ _)); exact BK512.out)) : gb512 ≠ gb520)); have NB520_512 := Aside0.mk ((by rw [hg]; exact Nat.ne_of_gt (blk_lt (g := gb512) (o := .cells #[.slice none 0 0, .int .i64 0] 105 (0, 0)) (by (with_reducible repeat (first | refine blk_drewN ?_ _ | refine blk_drew ?_ | refine blk_alloc ?_ _)); exact BK512.out)) : gb520 ≠ gb512)); replace BK512 := Aside0.mk (blk_below (g := gb512) (o := .cells #[.slice none 0 0, .int .i64 0] 105 (0, 0)) (by (with_reducible repeat (first | refine blk_drewN ?_ _ | refine blk_drew ?_ | refine blk_alloc ?_ _)); exact BK512.out) hb); clear hb hbox hg; have hnb18 := NB520_512.out; have hnc18 := NB512_520.out; have hcz19_0 : w17.cell? ⟨gb520, 0, none⟩ = some (.slice none 0 0) := (blk_cell BK520.out 0).trans rfl; have hcz19_1 : w17.cell? ⟨gb520, 1, none⟩ = some (.int .i64 0) := (blk_cell BK520.out 1).trans rfl; have hfz19_0 := blk_frozen BK520.out 0; have hfz19_1 := blk_frozen BK520.out 1))
       go_loopg [9] kj10 (fun kq v9 w' => ∃ (x9_3 : Int) (x521000_3 : List (List Int)) (u521000 : Value), v9 = .int .i64 x9_3 ∧ Aside0 (spec_l7Low.l2 kq l0 x5_10 x9_3 x521000_3 (wrap64 (Int.tdiv a1 x5_10)) = some (r1, r2)) ∧ Aside0 (kq ≤ kj10) ∧ Aside0 (Kd.S (Kd.slice 3 (Kd.int .i64)) 27 w' w.heap.size (fun _ => True) u521000 x521000_3) ∧ Aside0 (w'.heap[gb512]? = some (.cells #[(.slice none 0 0), .int .i64 0] 105 (0, 0))) ∧ Aside0 (w'.heap[gb520]? = some (.cells #[u521000, .int .i64 (wrap64 (Int.tdiv a1 x5_10))] 105 (0, 0))) ∧ Aside0 (Below w.heap.size w w'))
       case atStart => exact ⟨(0), (y517), (.slice Ao16 y517.length co16), Sqz.auS, H', ⟨Nat.le_refl _⟩, ⟨by (with_reducible repeat (first | apply Kd.S_alloc | apply Kd.S_drewN | apply Kd.S_drew)); exact Kd.S_mono (Kd.S_far (p := ⟨gb520, 1, none⟩) (Kd.S_far (p := ⟨gb520, 0, none⟩) (Kd.S_types HO519.out BK520.out (by decide)) (fun _ hk => (by first | exact hk.2 | exact trivial)) (.slice Ao16 y517.length co16)) (fun _ hk => (by first | exact hk.2 | exact trivial)) (.int .i64 (wrap64 (Int.tdiv a1 x5_10)))) (fun _ hk => trivial)⟩, ⟨by (with_reducible repeat (first | refine blk_drewN ?_ _ | refine blk_drew ?_ | refine blk_alloc ?_ _)); refine blk_far ?_ NB512_520.out _; (with_reducible repeat (first | refine blk_drewN ?_ _ | refine blk_drew ?_ | refine blk_alloc ?_ _)); refine blk_far ?_ NB512_520.out _; (with_reducible repeat (first | refine blk_drewN ?_ _ | refine blk_drew ?_ | refine blk_alloc ?_ _)); exact BK512.out⟩, ⟨by (with_reducible repeat (first | refine blk_drewN ?_ _ | refine blk_drew ?_ | refine blk_alloc ?_ _)); refine blk_put (cs := #[.slice Ao16 y517.length co16, .int .i64 0]) ?_ 1 _ rfl; (with_reducible repeat (first | refine blk_drewN ?_ _ | refine blk_drew ?_ | refine blk_alloc ?_ _)); refine blk_put (cs := #[.slice none 0 0, .int .i64 0]) ?_ 0 _ rfl; (with_reducible repeat (first | refine blk_drewN ?_ _ | refine blk_drew ?_ | refine blk_alloc ?_ _)); exact BK520.out⟩, ⟨by repeat (first | (with_reducible first | exact HB.out | apply below_alloc | apply pw_below_drewN | apply below_drew1 | refine below_set ?_ GE512.out | refine below_set ?_ GE520.out) | exact HB.out)⟩⟩
       case round =>
        clear H'
        try clear c13
        try clear hcz19_0
        try clear hcz19_1
        try clear hfz19_0
        try clear hfz19_1
        obtain ⟨x9_3, x521000_3, u521000, rfl, HA, HK3, HO_521000, BK512, BK520, HB⟩ := hrel; cases gk with
        | zero => exact absurd HA.out (by simp [spec_l7Low.l2])
        | succ k3 =>
         have H := HA.out; clear HA; simp only [spec_l7Low.l2] at H
         by_cases c20 : x9_3 < (l0.length : Int)
         ·rw [if_pos c20] at H; have c20b0 := decide_eq_true c20; clear c20; obtain ⟨y521, hyy⟩ : ∃ y_ : List Int, y_ = (([] : List Int)) := ⟨_, rfl⟩
          replace H : (spec_l7Low.l3 k3 l0 x5_10 x9_3 y521 0 x521000_3 (wrap64 (Int.tdiv a1 x5_10))) = some (r1, r2) := Sqz.auY
          have Ny521 := Aside0.mk hyy; clear hyy; have H' := Aside0.mk H; clear H
          go_wp2_with (((with_reducible refine gate_dst (N := 52) rfl ?_); refine Kd.R_lit (Kd.int .i64) _ 3 ?hg (N := 52) ?hd (xs := ([] : List Int)) (inner := []) (ok := fun _ => True) (okp := fun _ => True) ?hr ?hp (fun _ hk => hk) trivial (Below.refl _ _) (Nat.le_refl _) (by simp) ?_; (case hd => rfl); (case hg => rfl); (case hr => first | (go_simp; done) | (go_simp; rfl)); (case hp => exact (Reps.none _ _)); intro v522 w21 ho22 hb hg_ hnew_; clear hg_ hnew_; (first | rw [← Ny521.out] at ho22 | (simp only [Int.reduceToNat] at ho22; rw [← Ny521.out] at ho22)); replace HO_521000 := Aside0.mk (Kd.S_elder' (by (with_reducible repeat (first | apply Kd.S_alloc | apply Kd.S_drewN | apply Kd.S_drew)); exact HO_521000.out) (Kd.R_base ho22) hb); have HO523 := Aside0.mk (Kd.R_lower ho22 (below_size (by repeat (first | (with_reducible first | exact HB.out | apply below_alloc | apply pw_below_drewN | apply below_drew1 | refine below_set ?_ GE512.out | refine below_set ?_ GE520.out) | exact HB.out)))); replace BK512 := Aside0.mk (blk_below (g := gb512) (o := .cells #[.slice none 0 0, .int .i64 0] 105 (0, 0)) (by (with_reducible repeat (first | refine blk_drewN ?_ _ | refine blk_drew ?_ | refine blk_alloc ?_ _)); exact BK512.out) hb); replace BK520 := Aside0.mk (blk_below (g := gb520) (o := .cells #[u521000, .int .i64 (wrap64 (Int.tdiv a1 x5_10))] 105 (0, 0)) (by (with_reducible repeat (first | refine blk_drewN ?_ _ | refine blk_drew ?_ | refine blk_alloc ?_ _)); exact BK520.out) hb); replace HB := Aside0.mk (below_step (by repeat (first | (with_reducible first | exact HB.out | apply below_alloc | apply pw_below_drewN | apply below_drew1 | refine below_set ?_ GE512.out | refine below_set ?_ GE520.out) | exact HB.out)) hb); clear hb ho22))
          go_loopg [10, 11] k3 (fun kq v10 v11 w' => ∃ (x10_4 : List Int) (x11_4 : Int), v11 = .int .i64 x11_4 ∧ Aside0 (spec_l7Low.l3 kq l0 x5_10 x9_3 x10_4 x11_4 x521000_3 (wrap64 (Int.tdiv a1 x5_10)) = some (r1, r2)) ∧ Aside0 (kq ≤ k3) ∧ Aside0 (Kd.R (Kd.int .i64) 3 w' w.heap.size (fun _ => True) v10 x10_4) ∧ Aside0 (Kd.S (Kd.slice 3 (Kd.int .i64)) 27 w' w.heap.size (fun k_ => some k_ ≠ (v10 : Value).ownBlock) u521000 x521000_3) ∧ Aside0 (w'.heap[gb512]? = some (.cells #[(.slice none 0 0), .int .i64 0] 105 (0, 0))) ∧ Aside0 (w'.heap[gb520]? = some (.cells #[u521000, .int .i64 (wrap64 (Int.tdiv a1 x5_10))] 105 (0, 0))) ∧ Aside0 (Below w.heap.size w w'))
          case atStart => exact ⟨(y521), (0), Sqz.auS, H', ⟨Nat.le_refl _⟩, ⟨(Sqz.mvR HO523.out)⟩, ⟨by (with_reducible repeat (first | apply Kd.S_alloc | apply Kd.S_drewN | apply Kd.S_drew)); exact Kd.S_mono HO_521000.out (fun _ hk => (by first | exact hk.2 | exact trivial))⟩, ⟨by (with_reducible repeat (first | refine blk_drewN ?_ _ | refine blk_drew ?_ | refine blk_alloc ?_ _)); exact BK512.out⟩, ⟨by (with_reducible repeat (first | refine blk_drewN ?_ _ | refine blk_drew ?_ | refine blk_alloc ?_ _)); exact BK520.out⟩, ⟨by repeat (first | (with_reducible first | exact HB.out | apply below_alloc | apply pw_below_drewN | apply below_drew1 | refine below_set ?_ GE512.out | refine below_set ?_ GE520.out) | exact HB.out)⟩⟩
          case round =>
           clear H'
           try clear c20b0
           obtain ⟨x10_4, x11_4, rfl, HA, HK4, HO_10, HO_521000, BK512, BK520, HB⟩ := hrel; cases gk with
           | zero => exact absurd HA.out (by simp [spec_l7Low.l3])
           | succ k4 =>
            have H := HA.out; clear HA; simp only [spec_l7Low.l3] at H
            by_cases c23 : 0 ≤ x9_3
            ·rw [if_pos c23] at H; have c23b0 := decide_eq_true c23; clear c23
             by_cases c24 : x9_3 < (l0.length : Int)
             ·rw [if_pos c24] at H; have c24b0 := decide_eq_true c24; clear c24
              by_cases c25 : x11_4 < ((rd_L3 l0 x9_3).length : Int)
              ·rw [if_pos c25] at H; have c25b0 := decide_eq_true c25; clear c25
               by_cases c26 : 0 ≤ x11_4
               ·rw [if_pos c26] at H; have c26b0 := decide_eq_true c26; clear c26
                by_cases c27 : x5_10 = 0
                ·rw [if_pos c27] at H; exact absurd H (by simp)
                ·rw [if_neg c27] at H
                 by_cases c28 : x10_4.length < 17592186044416
                 ·rw [if_pos c28] at H; have LMc28 := Aside0.mk c28; clear c28; obtain ⟨y527, hyy⟩ : ∃ y_ : List Int, y_ = (x10_4 ++ [wrap64 (Int.tdiv (rd (rd_L3 l0 x9_3) x11_4) x5_10)]) := ⟨_, rfl⟩
                  replace H : (spec_l7Low.l3 k4 l0 x5_10 x9_3 y527 (wrap64 (x11_4 + 1)) x521000_3 (wrap64 (Int.tdiv a1 x5_10))) = some (r1, r2) := Sqz.auY
                  have Ny527 := Aside0.mk hyy; clear hyy; have H' := Aside0.mk H; clear H; have p524 : 0 ≤ (x9_3 : Int) := Sqz.od; have q524 : x9_3 < (l0.length : Int) := Sqz.od; obtain ⟨ad524, A524_0, c524_0, e524, hx524_0, hl524_0, hi524_0⟩ := at_L3 HR0.out x9_3 p524 q524; cases e524; replace hx524_0 := (HB.out.cell (World.block_lt_of_cell? w _ hx524_0)).trans hx524_0; have HR524_0 := Aside0.mk hi524_0; have HC524_0 := Aside0.mk hl524_0; clear hi524_0 hl524_0; replace p524 := eq_true p524; replace q524 := eq_true q524; have p525 : 0 ≤ (x9_3 : Int) := Sqz.od; have q525 : x9_3 < (l0.length : Int) := Sqz.od; obtain ⟨ad525, A525_0, c525_0, e525, hx525_0, hl525_0, hi525_0⟩ := at_L3 HR0.out x9_3 p525 q525; obtain rfl : ad524 = ad525 := (by injection e525); replace hx525_0 := (HB.out.cell (World.block_lt_of_cell? w _ hx525_0)).trans hx525_0; have HR525_0 := Aside0.mk hi525_0; have HC525_0 := Aside0.mk hl525_0; clear hi525_0 hl525_0; replace p525 := eq_true p525; replace q525 := eq_true q525; have ea_ := Option.some.inj (hx524_0.symm.trans hx525_0); injection ea_ with ea_ en_ ec_
                  subst ea_; subst ec_; clear en_; have p526 : 0 ≤ (x11_4 : Int) := Sqz.od; have q526 : x11_4 < ((rd_L3 l0 x9_3).length : Int) := Sqz.od; obtain ⟨ad526, e526, hx526_0⟩ := Kd.at_int HR525_0.out x11_4 p526 q526; cases e526; replace hx526_0 := (HB.out.cell (World.block_lt_of_cell? w _ hx526_0)).trans hx526_0; replace p526 := eq_true p526; replace q526 := eq_true q526
                  go_wp2_with (((with_reducible refine gate_builtin (b := .append) (xs := #[.tmp 62, .tmp 72]) rfl ?_); at_builtin; refine Kd.R_append (Kd.int .i64) (w0 := w) w.heap.size rfl (.tmp 62) (.tmp 72) 27 3 (.int .i64 0) 8 rfl Tryz.underlying27 info3 rfl (by decide) (by omega) u10 x10_4 (wrap64 (Int.tdiv (rd (rd_L3 l0 x9_3) x11_4) x5_10)) [.int .i64 (wrap64 (Int.tdiv (rd (rd_L3 l0 x9_3) x11_4) x5_10))] (fun _ => True) (fun _ => False) rfl rfl ?aP (fun _ hk => hk.elim) ?aF ?aO ?aB ?aS ?aL ?_; (case aP => exact rfl); (case aB => exact (by repeat (first | (with_reducible first | exact HB.out | apply below_alloc | apply pw_below_drewN | apply below_drew1 | refine below_set ?_ GE512.out | refine below_set ?_ GE520.out) | exact HB.out))); (case aF => exact (fun _ _ => trivial)); (case aO => exact ((Sqz.mvR HO_10.out))); (case aS => exact (below_size (by repeat (first | (with_reducible first | exact HB.out | apply below_alloc | apply pw_below_drewN | apply below_drew1 | refine below_set ?_ GE512.out | refine below_set ?_ GE520.out) | exact HB.out)))); (case aL => have := LMc28.out; omega); intro v528 w29 ho hb hg hat; rw [← Ny527.out] at ho; replace HO_521000 := Aside0.mk (Kd.S_after (ok := (fun _ => True)) (by (with_reducible repeat (first | apply Kd.S_alloc | apply Kd.S_drewN | apply Kd.S_drew)); exact Kd.S_mono HO_521000.out (fun _ hk => ⟨trivial, hk⟩)) hg hat); replace BK512 := Aside0.mk (blk_grown (g := gb512) (o := .cells #[.slice none 0 0, .int .i64 0] 105 (0, 0)) (by (with_reducible repeat (first | refine blk_drewN ?_ _ | refine blk_drew ?_ | refine blk_alloc ?_ _)); exact BK512.out) hg (Kd.R_ne HO_10.out BK512.out (by decide))); replace BK520 := Aside0.mk (blk_grown (g := gb520) (o := .cells #[u521000, .int .i64 (wrap64 (Int.tdiv a1 x5_10))] 105 (0, 0)) (by (with_reducible repeat (first | refine blk_drewN ?_ _ | refine blk_drew ?_ | refine blk_alloc ?_ _)); exact BK520.out) hg (Kd.R_ne HO_10.out BK520.out (by decide))); replace HB := Aside0.mk (hb); have HO529 := Aside0.mk (ho); clear HO_10; clear ho hb hg hat))
                  go_roundg k4
                  case measure => have := HK1.out; have := HJ10.out; have := HK3.out; have := HK4.out; omega
                  case rel => exact ⟨(y527), (wrap64 (x11_4 + 1)), Sqz.auS, H', ⟨by have := HK1.out; have := HJ10.out; have := HK3.out; have := HK4.out; omega⟩, ⟨(Sqz.mvR HO529.out)⟩, ⟨by (with_reducible repeat (first | apply Kd.S_alloc | apply Kd.S_drewN | apply Kd.S_drew)); exact Kd.S_mono HO_521000.out (fun _ hk => (by first | exact hk.2 | exact trivial))⟩, ⟨by (with_reducible repeat (first | refine blk_drewN ?_ _ | refine blk_drew ?_ | refine blk_alloc ?_ _)); exact BK512.out⟩, ⟨by (with_reducible repeat (first | refine blk_drewN ?_ _ | refine blk_drew ?_ | refine blk_alloc ?_ _)); exact BK520.out⟩, ⟨by repeat (first | (with_reducible first | exact HB.out | apply below_alloc | apply pw_below_drewN | apply below_drew1 | refine below_set ?_ GE512.out | refine below_set ?_ GE520.out) | exact HB.out)⟩⟩
                 ·rw [if_neg c28] at H; exact absurd H (by simp)
               ·rw [if_neg c26] at H; exact absurd H (by simp)
              ·rw [if_neg c25] at H; have c25b0 := decide_eq_false c25; clear c25
               by_cases c30 : x521000_3.length < 5864062014805
               ·rw [if_pos c30] at H; have LMc30 := Aside0.mk c30; clear c30; obtain ⟨y530, hyy⟩ : ∃ y_ : List (List Int), y_ = (x521000_3 ++ [x10_4]) := ⟨_, rfl⟩
                replace H : (spec_l7Low.l2 k4 l0 x5_10 (wrap64 (x9_3 + 1)) y530 (wrap64 (Int.tdiv a1 x5_10))) = some (r1, r2) := Sqz.auY
                have Ny530 := Aside0.mk hyy; clear hyy; have H' := Aside0.mk H; clear H; have p524 : 0 ≤ (x9_3 : Int) := Sqz.od; have q524 : x9_3 < (l0.length : Int) := Sqz.od; obtain ⟨ad524, A524_0, c524_0, e524, hx524_0, hl524_0, hi524_0⟩ := at_L3 HR0.out x9_3 p524 q524; cases e524; replace hx524_0 := (HB.out.cell (World.block_lt_of_cell? w _ hx524_0)).trans hx524_0; have HR524_0 := Aside0.mk hi524_0; have HC524_0 := Aside0.mk hl524_0; clear hi524_0 hl524_0; replace p524 := eq_true p524; replace q524 := eq_true q524; have hnb31 := NB520_512.out; have hnc31 := NB512_520.out; have hcz32_0 : wr.cell? ⟨gb520, 0, none⟩ = some (u521000) := (blk_cell BK520.out 0).trans rfl; have hcz32_1 : wr.cell? ⟨gb520, 1, none⟩ = some (.int .i64 (wrap64 (Int.tdiv a1 x5_10))) := (blk_cell BK520.out 1).trans rfl; have hfz32_0 := blk_frozen BK520.out 0; have hfz32_1 := blk_frozen BK520.out 1; obtain ⟨Ao34, co34, eo34⟩ := Kd.R_slice HO_10.out; subst eo34
                go_wp2_with (((with_reducible refine gate_builtin (b := .append) (xs := #[.tmp 75, .tmp 77]) rfl ?_); at_builtin; refine Kd.S_append (Kd.slice 3 (Kd.int .i64)) (w0 := w) w.heap.size rfl (.tmp 75) (.tmp 77) 103 27 (.slice none 0 0) 24 rfl Tryz.underlying103 info27 rfl (by decide) (by omega) u521000 x521000_3 x10_4 [.slice Ao34 x10_4.length co34] (fun _ => True) (fun k_ => some k_ = (.slice Ao34 x10_4.length co34 : Value).ownBlock) rfl rfl ?aP (fun k_ hk_ => ((Kd.R_mono (ok' := fun k_ => ((fun _ => True)) k_ ∧ some k_ ≠ (u521000 : Value).ownBlock) (Kd.R_apart' (HO_10.out) (Kd.S_typed HO_521000.out) (by decide)) (fun k_ hk => ⟨trivial, hk.2⟩))).1 k_ hk_.symm) ?aF ?aO ?aB ?aS ?aL ?_; (case aP => exact Kd.M_row (Kd.R_mono (Kd.R_tight rfl (Kd.R_mono (ok' := fun k_ => ((fun _ => True)) k_ ∧ some k_ ≠ (u521000 : Value).ownBlock) (Kd.R_apart' (HO_10.out) (Kd.S_typed HO_521000.out) (by decide)) (fun k_ hk => ⟨trivial, hk.2⟩))) (fun _ h_ => h_))); (case aB => exact (by repeat (first | (with_reducible first | exact HB.out | apply below_alloc | apply pw_below_drewN | apply below_drew1 | refine below_set ?_ GE512.out | refine below_set ?_ GE520.out) | exact HB.out))); (case aF => exact (fun _ _ => trivial)); (case aO => exact (by (with_reducible repeat (first | apply Kd.S_alloc | apply Kd.S_drewN | apply Kd.S_drew)); exact Kd.S_mono HO_521000.out (fun k_ hk => ⟨trivial, fun e_ => hk e_⟩))); (case aS => exact (below_size (by repeat (first | (with_reducible first | exact HB.out | apply below_alloc | apply pw_below_drewN | apply below_drew1 | refine below_set ?_ GE512.out | refine below_set ?_ GE520.out) | exact HB.out)))); (case aL => have := LMc30.out; omega); intro v531 w33 ho hb hg hat; rw [← Ny530.out] at ho; replace BK512 := Aside0.mk (blk_grown (g := gb512) (o := .cells #[.slice none 0 0, .int .i64 0] 105 (0, 0)) (by (with_reducible repeat (first | refine blk_drewN ?_ _ | refine blk_drew ?_ | refine blk_alloc ?_ _)); exact BK512.out) hg (Kd.S_ne HO_521000.out BK512.out (by decide))); replace BK520 := Aside0.mk (blk_grown (g := gb520) (o := .cells #[u521000, .int .i64 (wrap64 (Int.tdiv a1 x5_10))] 105 (0, 0)) (by (with_reducible repeat (first | refine blk_drewN ?_ _ | refine blk_drew ?_ | refine blk_alloc ?_ _)); exact BK520.out) hg (Kd.S_ne HO_521000.out BK520.out (by decide))); replace HB := Aside0.mk (hb); have HO532 := Aside0.mk (ho); clear HO_521000 HO_10; clear ho hb hg hat; obtain ⟨Ao35, co35, eo35⟩ := Kd.S_slice HO532.out; subst eo35; have hcz36_0 : w33.cell? ⟨gb520, 0, none⟩ = some (u521000) := (blk_cell BK520.out 0).trans rfl; have hcz36_1 : w33.cell? ⟨gb520, 1, none⟩ = some (.int .i64 (wrap64 (Int.tdiv a1 x5_10))) := (blk_cell BK520.out 1).trans rfl; have hfz36_0 := blk_frozen BK520.out 0; have hfz36_1 := blk_frozen BK520.out 1))
                go_roundg k4
                case measure => have := HK1.out; have := HJ10.out; have := HK3.out; have := HK4.out; omega
                case rel => exact ⟨(wrap64 (x9_3 + 1)), (y530), (.slice Ao35 y530.length co35), Sqz.auS, H', ⟨by have := HK1.out; have := HJ10.out; have := HK3.out; have := HK4.out; omega⟩, ⟨by (with_reducible repeat (first | apply Kd.S_alloc | apply Kd.S_drewN | apply Kd.S_drew)); exact Kd.S_mono (Kd.S_far (p := ⟨gb520, 0, none⟩) (Kd.S_types HO532.out BK520.out (by decide)) (fun _ hk => (by first | exact hk.2 | exact trivial)) (.slice Ao35 y530.length co35)) (fun _ hk => trivial)⟩, ⟨by (with_reducible repeat (first | refine blk_drewN ?_ _ | refine blk_drew ?_ | refine blk_alloc ?_ _)); refine blk_far ?_ NB512_520.out _; (with_reducible repeat (first | refine blk_drewN ?_ _ | refine blk_drew ?_ | refine blk_alloc ?_ _)); exact BK512.out⟩, ⟨by (with_reducible repeat (first | refine blk_drewN ?_ _ | refine blk_drew ?_ | refine blk_alloc ?_ _)); refine blk_put (cs := #[u521000, .int .i64 (wrap64 (Int.tdiv a1 x5_10))]) ?_ 0 _ rfl; (with_reducible repeat (first | refine blk_drewN ?_ _ | refine blk_drew ?_ | refine blk_alloc ?_ _)); exact BK520.out⟩, ⟨by repeat (first | (with_reducible first | exact HB.out | apply below_alloc | apply pw_below_drewN | apply below_drew1 | refine below_set ?_ GE512.out | refine below_set ?_ GE520.out) | exact HB.out)⟩⟩
               ·rw [if_neg c30] at H; exact absurd H (by simp)
             ·rw [if_neg c24] at H; exact absurd H (by simp)
            ·rw [if_neg c23] at H; exact absurd H (by simp)
         ·rw [if_neg c20] at H; have c20b0 := decide_eq_false c20; clear c20; simp only [Option.some.injEq, Prod.mk.injEq] at H; obtain ⟨rfl, rfl⟩ := H; have hnb37 := NB520_512.out; have hnc37 := NB512_520.out; have hcz38_0 : wr.cell? ⟨gb520, 0, none⟩ = some (u521000) := (blk_cell BK520.out 0).trans rfl; have hcz38_1 : wr.cell? ⟨gb520, 1, none⟩ = some (.int .i64 (wrap64 (Int.tdiv a1 x5_10))) := (blk_cell BK520.out 1).trans rfl; have hfz38_0 := blk_frozen BK520.out 0; have hfz38_1 := blk_frozen BK520.out 1; obtain ⟨Ao39, co39, eo39⟩ := Kd.S_slice HO_521000.out; subst eo39; have hcz40_0 : wr.cell? ⟨gb512, 0, none⟩ = some (.slice none 0 0) := (blk_cell BK512.out 0).trans rfl; have hcz40_1 : wr.cell? ⟨gb512, 1, none⟩ = some (.int .i64 0) := (blk_cell BK512.out 1).trans rfl; have hfz40_0 := blk_frozen BK512.out 0; have hfz40_1 := blk_frozen BK512.out 1; go_wp2; refine bodyPost_ret (results_cell_row rfl _ _ gb512 105 #[.slice Ao39 x521000_3.length co39, .int .i64 (wrap64 (Int.tdiv a1 x5_10))] (0, 0) _ rfl (by (with_reducible repeat (first | refine blk_drewN ?_ _ | refine blk_drew ?_ | refine blk_alloc ?_ _)); refine blk_put (cs := #[.slice Ao39 x521000_3.length co39, .int .i64 0]) ?_ 1 _ rfl; (with_reducible repeat (first | refine blk_drewN ?_ _ | refine blk_drew ?_ | refine blk_alloc ?_ _)); refine blk_put (cs := #[.slice none 0 0, .int .i64 0]) ?_ 0 _ rfl; (with_reducible repeat (first | refine blk_drewN ?_ _ | refine blk_drew ?_ | refine blk_alloc ?_ _)); exact BK512.out) Tryz.underlying105 rfl (by kernel_rfl)) rfl ?_; exact ⟨_, Sqz.auR, by (with_reducible repeat (first | apply Kd.S_alloc | apply Kd.S_drewN | apply Kd.S_drew)); exact Kd.S_mono (Kd.S_far (p := ⟨gb512, 1, none⟩) (Kd.S_far (p := ⟨gb512, 0, none⟩) (Kd.S_types HO_521000.out BK512.out (by decide)) (fun _ hk => (by first | exact hk.2 | exact trivial)) (.slice Ao39 x521000_3.length co39)) (fun _ hk => (by first | exact hk.2 | exact trivial)) (.int .i64 (wrap64 (Int.tdiv a1 x5_10)))) (fun _ hk => trivial), by repeat (first | (with_reducible first | exact HB.out | apply below_alloc | apply pw_below_drewN | apply below_drew1 | refine below_set ?_ GE512.out | refine below_set ?_ GE520.out) | exact HB.out)⟩

/-! ### spec_l9Low: function 92 -/
section
open Locg
/-! ### a vector in lowest terms -/
def spec_l9Low.f (k : Nat) (l0 : List Int) (a1 : Int) : Option (List Int × Int) := (spec_l7Low.f k [l0] a1).bind fun t => if 0 < t.1.length then some (t.1.getD 0 [], t.2) else none
set_option maxHeartbeats 4000000 in
set_option maxRecDepth 100000 in
theorem spec_l9Low.calls (k : Nat) (A0 : Option Addr) (c0 : Nat) (l0 : List Int) (a1 : Int) (r1 : List Int) (r2 : Int) (w : World) (hr0 : Kd.C (Kd.int .i64) w A0 l0.length l0) (hc0 : l0.length ≤ c0) (h : spec_l9Low.f k l0 a1 = some (r1, r2)) :
  Calls Tryz.prog 92 #[.slice A0 l0.length c0, .int .i64 a1] w fun e w' => ∃ v0_ : Value, e = .returned (.tuple #[v0_, .int .i64 r2]) ∧ Kd.R (Kd.int .i64) 3 w' w.heap.size (fun _ => True) v0_ r1 ∧ Below w.heap.size w w' := by
 obtain ⟨⟨t1, t2⟩, h1, h2⟩ := Option.bind_eq_some_iff.mp h
 by_cases hp : 0 < t1.length
 ·rw [if_pos hp] at h2; simp only [Option.some.injEq, Prod.mk.injEq] at h2; obtain ⟨rfl, rfl⟩ := h2; have HH := Aside0.mk h1; have HR0 := Aside0.mk hr0; clear h h1
  go_enter Tryz.func92, Tryz.ntmps92
  go_wp2_with fail
  refine (spec_l7Low.calls k (some ⟨w.heap.size, 0, none⟩) 1 [l0] a1 t1 t2 _ ?s1 (by simp) HH.out).mono ?_
  case s1 =>
   refine ⟨rfl, by simp, fun _ => ⟨_, rfl, fun j p hj => ⟨[.slice A0 l0.length c0], rfl, ?_, fun i u hu => ?_⟩⟩⟩
   ·match j, hj with
    | 0, hj => simp at hj; subst hj; exact ⟨A0, c0, rfl, hc0, Kd.C_alloc hr0 _⟩
   ·match j, hj, i, hu with
    | 0, hj, 0, hu => simp at hu; subst hu; exact blk_cell (heap_alloc_new w _) 0
  rintro e w1 ⟨v, rfl, hS, hb⟩
  dsimp only
  have hR := Kd.S_R hS; obtain ⟨Ao, co, rfl⟩ := Kd.R_slice hR; have hlen := (Kd.R_reads' hR).1; obtain ⟨g, cap, hsl, hg1, hg2, cells, hcells⟩ := Kd.R_form hR hp; cases hsl; obtain ⟨c, hcl, hM, hcc⟩ := Kd.R_getA hR [] 0 (by omega) (by omega); obtain ⟨v2, rfl, hR2⟩ := hM; have hc0' : w1.cell? ⟨g, 0, none⟩ = some v2 := hcc 0 v2 rfl; have HR2 := Aside0.mk hR2; have HB1 := Aside0.mk (below_then (below_alloc (Below.refl _ _) _) (by simp) hb : Below w.heap.size w w1); clear hS hR hcc hR2 hb
  go_wp2_with fail
  have z0 := blk_cell (heap_alloc_new w1 (.cells #[.slice (some ⟨g, 0, none⟩) t1.length co, .int .i64 t2] 105 (0, 0))) 0; have z1 := blk_cell (heap_alloc_new w1 (.cells #[.slice (some ⟨g, 0, none⟩) t1.length co, .int .i64 t2] 105 (0, 0))) 1; have zg : (w1.alloc (.cells #[.slice (some ⟨g, 0, none⟩) t1.length co, .int .i64 t2] 105 (0, 0))).cell? ⟨g, 0, none⟩ = some v2 := ((below_alloc (Below.refl w1.heap.size w1) _).cell hg2).trans hc0'
  go_quiet (fail)
  go_wp2; go_ret2
  refine ⟨v2, rfl, ?_, ?_⟩
  ·have h1 := Kd.R_drewN (Kd.R_alloc HR2.out (.cells #[.slice (some ⟨g, 0, none⟩) t1.length co, .int .i64 t2] 105 (0, 0))) nq; exact Kd.R_mono (Kd.R_lower h1 (by simp)) (fun _ _ => trivial)
  ·exact pw_below_drewN (below_alloc HB1.out _) nq
 ·rw [if_neg hp] at h2; cases h2

end

end Go.Proofs.YtacfcoilmdhgnaaGreatDoor.PFnExecuteValue
