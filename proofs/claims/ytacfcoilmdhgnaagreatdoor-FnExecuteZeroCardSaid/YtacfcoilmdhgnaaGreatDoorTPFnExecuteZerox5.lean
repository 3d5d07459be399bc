/- A function's Lean twin and its walk, written by a program of this session. -/
import Derived.Test.YtacfcoilmdhgnaaGreatDoorTPFnExecuteZerox0
import Derived.Test.YtacfcoilmdhgnaaGreatDoorTPFnExecuteZerox1
import Derived.Test.YtacfcoilmdhgnaaGreatDoorTPFnExecuteZerox2
import Derived.Test.YtacfcoilmdhgnaaGreatDoorTPFnExecuteZerox3
import Derived.Test.YtacfcoilmdhgnaaGreatDoorTPFnExecuteZerox4
namespace Go.Proofs.YtacfcoilmdhgnaaGreatDoor.PFnExecuteZero
open Go.RowKit Go.Proofs.YtacfcoilmdhgnaaGreatDoorW.PrintWords Go.Proofs.YtacfcoilmdhgnaaGreatDoorW.PrintLast Go.Proofs.YtacfcoilmdhgnaaGreatDoorW.PrintMore
attribute [local go_sem] max2_int min2_int max_two min_two max_three min_three max_four min_four   -- for this text's walks alone
set_option linter.unusedVariables false
set_option linter.unusedSimpArgs false

/-! ### impl_zeroOfFour: function 80 -/
section
open Locg
def impl_ZeroFindG.l0 : Nat → List Int → List Int → Int → Int → Option (List Int × Bool)
 | 0, _, _, _, _ => none
 | k + 1, x9, x11, x59, x60 => if x60 < x59 then (if 0 ≤ x60 then (if x60 < (x11.length : Int) then (if x60 < (x9.length : Int) then (impl_ZeroFindG.l0 k x9 (x11.set (x60 : Int).toNat (wrap64 ((rd x11 x60) * (rd x9 x60)))) x59 (wrap64 (x60 + 1))) else (none)) else (none)) else (none)) else ((impl_plain.f k x11).bind fun t318 => (some (t318, true)))
def impl_ZeroFindG.f (z4 : Nat → List Int → Option (List Int × Bool)) (k : Nat) (l0 : List Int) : Option (List Int × Bool) := (impl_FormValid.f k l0).bind fun t291 => (if t291 = true then (if (l0.length : Int) = 2 then (if 0 < (l0.length : Int) then ((impl_coreOf.f k (rd l0 0)).bind fun bt293 => (if 1 < (l0.length : Int) then ((impl_coreOf.f k (rd l0 1)).bind fun bt296 => (if bt293.1 = (wrap64 (-bt296.1)) then ((impl_plain.f k (([bt296.2, bt293.2] : List Int))).bind fun t301 => (some (t301, true))) else (some (([] : List Int), false)))) else (none))) else (none)) else (if (l0.length : Int) = 3 then ((impl_ZeroNormal.f k l0).bind fun bt304 => ((impl_ZeroSearch.f k bt304.1).bind fun bt311 => (if bt311.2 = true then (impl_ZeroFindG.l0 k bt304.2.1 bt311.1 (bt311.1.length : Int) 0) else (some (([] : List Int), false))))) else (if (l0.length : Int) = 4 then ((z4 k l0).bind fun bt321 => (some (bt321.1, bt321.2))) else (some (([] : List Int), false))))) else (some (([] : List Int), false)))
def impl_ZeroFindG.T17 : Bool × List (List Nat × List Nat) := (true, [([], []), ([], []), ([0, 1], [0, 1]), ([2], [2]), ([], []), ([], []), ([4, 5], [4, 5]), ([6], [6]), ([3, 7], [3, 7]), ([0, 1, 0, 1, 2, 3, 4, 5, 6, 7, 8], [0, 1]), ([9, 8, 0, 1, 2, 3, 4, 5, 6, 7, 8], [8, 9])])
def impl_ZeroFindG.B17 : List Nat := [0, 0, 3, 7, 0, 0, 48, 112, 255, 511, 1023]
theorem impl_ZeroFindG.tab17 : rtab .any (opsOf Tryz.f37 17) = impl_ZeroFindG.T17 := by kernel_rfl
theorem impl_ZeroFindG.bits17 : waitsOk impl_ZeroFindG.T17.2 impl_ZeroFindG.B17 = true := by kernel_rfl
set_option maxHeartbeats 8000000 in
set_option maxRecDepth 100000 in
theorem impl_ZeroFindG.calls (z4 : Nat → List Int → Option (List Int × Bool)) (hz : ∀ (k : Nat) (A0 : Option Addr) (c0 : Nat) (l0 : List Int) (r1 : List Int) (r2 : Bool) (w : World) (hr0 : Kd.C (Kd.int .i64) w A0 l0.length l0) (hc0 : l0.length ≤ c0) (_h : z4 k l0 = some (r1, r2)), Calls Tryz.prog 80 #[.slice A0 l0.length c0] w fun e w' => ∃ v0_ : Value, e = .returned (.tuple #[v0_, .bool r2]) ∧ Kd.R (Kd.int .i64) 3 w' w.heap.size (fun _ => True) v0_ r1 ∧ Below w.heap.size w w') (k : Nat) (A0 : Option Addr) (c0 : Nat) (l0 : List Int) (r1 : List Int) (r2 : Bool) (w : World) (hr0 : Kd.C (Kd.int .i64) w A0 l0.length l0) (hc0 : l0.length ≤ c0) (h : impl_ZeroFindG.f z4 k l0 = some (r1, r2)) :
  Calls Tryz.prog 37 #[.slice A0 l0.length c0] w fun e w' => ∃ v0_ : Value, e = .returned (.tuple #[v0_, .bool r2]) ∧ Kd.R (Kd.int .i64) 3 w' w.heap.size (fun _ => True) v0_ r1 ∧ Below w.heap.size w w' := by
 have HR0 := Aside0.mk hr0; have HC0 := Aside0.mk hc0; clear hr0 hc0; have HB := Aside0.mk (Below.refl w.heap.size w); have H : ((impl_FormValid.f k l0).bind fun t291 => (if t291 = true then (if (l0.length : Int) = 2 then (if 0 < (l0.length : Int) then ((impl_coreOf.f k (rd l0 0)).bind fun bt293 => (if 1 < (l0.length : Int) then ((impl_coreOf.f k (rd l0 1)).bind fun bt296 => (if bt293.1 = (wrap64 (-bt296.1)) then ((impl_plain.f k (([bt296.2, bt293.2] : List Int))).bind fun t301 => (some (t301, true))) else (some (([] : List Int), false)))) else (none))) else (none)) else (if (l0.length : Int) = 3 then ((impl_ZeroNormal.f k l0).bind fun bt304 => ((impl_ZeroSearch.f k bt304.1).bind fun bt311 => (if bt311.2 = true then (impl_ZeroFindG.l0 k bt304.2.1 bt311.1 (bt311.1.length : Int) 0) else (some (([] : List Int), false))))) else (if (l0.length : Int) = 4 then ((z4 k l0).bind fun bt321 => (some (bt321.1, bt321.2))) else (some (([] : List Int), false))))) else (some (([] : List Int), false)))) = some (r1, r2) := h; clear h; obtain ⟨t291, A2, H⟩ := Sqz.be H
 by_cases c3 : t291 = true
 ·subst c3; have H1 : (if (l0.length : Int) = 2 then (if 0 < (l0.length : Int) then ((impl_coreOf.f k (rd l0 0)).bind fun bt293 => (if 1 < (l0.length : Int) then ((impl_coreOf.f k (rd l0 1)).bind fun bt296 => (if bt293.1 = (wrap64 (-bt296.1)) then ((impl_plain.f k (([bt296.2, bt293.2] : List Int))).bind fun t301 => (some (t301, true))) else (some (([] : List Int), false)))) else (none))) else (none)) else (if (l0.length : Int) = 3 then ((impl_ZeroNormal.f k l0).bind fun bt304 => ((impl_ZeroSearch.f k bt304.1).bind fun bt311 => (if bt311.2 = true then (impl_ZeroFindG.l0 k bt304.2.1 bt311.1 (bt311.1.length : Int) 0) else (some (([] : List Int), false))))) else (if (l0.length : Int) = 4 then ((z4 k l0).bind fun bt321 => (some (bt321.1, bt321.2))) else (some (([] : List Int), false))))) = some (r1, r2) := by rw [if_pos rfl] at H; exact H
  clear H; have H := H1; clear H1
  by_cases c4 : (l0.length : Int) = 2
  ·rw [if_pos c4] at H; have c4b0 := beq_iff_eq.mpr c4; have c4b1 := bne_eq_false_iff_eq.mpr c4; clear c4
   by_cases c5 : 0 < (l0.length : Int)
   ·rw [if_pos c5] at H; have c5b0 := decide_eq_true c5; have c5b1 : decide (0 < l0.length) = true := decide_eq_true (by omega); clear c5; replace H := Option.bind_eq_some_iff.mp H; obtain ⟨⟨t293, t294⟩, A60, H⟩ := H; replace H : (if 1 < (l0.length : Int) then ((impl_coreOf.f k (rd l0 1)).bind fun bt296 => (if t293 = (wrap64 (-bt296.1)) then ((impl_plain.f k (([bt296.2, t294] : List Int))).bind fun t301 => (some (t301, true))) else (some (([] : List Int), false)))) else (none)) = some (r1, r2) := H; have A6 := Aside0.mk A60; clear A60
    by_cases c7 : 1 < (l0.length : Int)
    ·rw [if_pos c7] at H; have c7b0 := decide_eq_true c7; have c7b1 : decide (1 < l0.length) = true := decide_eq_true (by omega); clear c7; replace H := Option.bind_eq_some_iff.mp H; obtain ⟨⟨t296, t297⟩, A80, H⟩ := H; replace H : (if t293 = (wrap64 (-t296)) then ((impl_plain.f k (([t297, t294] : List Int))).bind fun t301 => (some (t301, true))) else (some (([] : List Int), false))) = some (r1, r2) := H; have A8 := Aside0.mk A80; clear A80
     by_cases c9 : t293 = (wrap64 (-t296))
     ·rw [if_pos c9] at H; have c9b0 := beq_iff_eq.mpr c9; have c9b1 := bne_eq_false_iff_eq.mpr c9; clear c9; obtain ⟨y298, hyy⟩ : ∃ y_ : List Int, y_ = (([t297, t294] : List Int)) := ⟨_, rfl⟩
      replace H : ((impl_plain.f k y298).bind fun t301 => (some (t301, true))) = some (r1, r2) := Sqz.auY
      have Ny298 := Aside0.mk hyy; clear hyy; obtain ⟨t301, A10, H⟩ := Sqz.be H; simp only [Option.some.injEq, Prod.mk.injEq] at H; obtain ⟨rfl, rfl⟩ := H
      go_enter Tryz.func37, Tryz.ntmps37
      go_wp2_with (first | ((with_reducible refine gate_callee (f := 59) rfl ?_); refine goesL_ (some 15) rfl rfl Tryz.func59 (by kernel_rfl) rfl #[.slice A0 l0.length c0] rfl Sqz.auM ?_; (with_reducible refine (impl_FormValid.calls k _ _ l0 true _ ?side1 ?side2 A2.out).mono ?_); (case side1 => exact Sqz.mvC (HR0.out)); (case side2 => exact HC0.out); rintro e w11 ⟨rfl, hb⟩; refine ⟨_, rfl, ?_⟩; replace HB := Aside0.mk (below_step (Sqz.auHB) hb); (try clear hb); have p292 : 0 ≤ (0 : Int) := (by omega); have q292 : 0 < (l0.length : Int) := Sqz.od; obtain ⟨ad292, e292, hx292_0⟩ := Kd.at_int HR0.out 0 p292 q292; cases e292; have qi292 : (0 < l0.length) = True := eq_true (by omega); (try rw [show ((0 : Int)).toNat = 0 from rfl] at hx292_0); (try rw [Addr.add_zero'] at hx292_0); replace hx292_0 := (HB.out.cell (World.block_lt_of_cell? w _ hx292_0)).trans hx292_0; replace p292 := eq_true p292; replace q292 := eq_true q292) | ((with_reducible refine gate_callee (f := 61) rfl ?_); refine goesL_ (some 25) rfl rfl Tryz.func61 (by kernel_rfl) rfl #[.int .i64 (rd l0 0)] rfl Sqz.auM ?_; (with_reducible refine (impl_coreOf.calls k (rd l0 0) t293 t294 _ A6.out).mono ?_); rintro e w12 ⟨rfl, hb⟩; refine ⟨_, rfl, ?_⟩; replace HB := Aside0.mk (below_step (Sqz.auHB) hb); (try clear hb); have p295 : 0 ≤ (1 : Int) := (by omega); have q295 : 1 < (l0.length : Int) := Sqz.od; obtain ⟨ad295, e295, hx295_0⟩ := Kd.at_int HR0.out 1 p295 q295; obtain rfl : ad292 = ad295 := (by injection e295); (try simp only [show (1 : Int).toNat = 1 from rfl, Nat.reduceMul, Nat.reduceEqDiff, Go.Addr.add, ↓reduceIte] at hx295_0); have qi295 : (1 < l0.length) = True := eq_true (by omega); (try rw [show ((1 : Int)).toNat = 1 from rfl] at hx295_0); replace hx295_0 := (HB.out.cell (World.block_lt_of_cell? w _ hx295_0)).trans hx295_0; replace p295 := eq_true p295; replace q295 := eq_true q295) | ((with_reducible refine gate_callee (f := 61) rfl ?_); refine goesL_ (some 32) rfl rfl Tryz.func61 (by kernel_rfl) rfl #[.int .i64 (rd l0 1)] rfl Sqz.auM ?_; (with_reducible refine (impl_coreOf.calls k (rd l0 1) t296 t297 _ A8.out).mono ?_); rintro e w13 ⟨rfl, hb⟩; refine ⟨_, rfl, ?_⟩; replace HB := Aside0.mk (below_step (Sqz.auHB) hb); (try clear hb)) | ((with_reducible refine gate_dst (N := 41) rfl ?_); refine Kd.R_lit (Kd.int .i64) _ 3 ?hg (N := 41) ?hd (xs := ([t297, t294] : List Int)) (inner := [.int .i64 t297, .int .i64 t294]) (ok := fun _ => True) (okp := fun _ => True) ?hr ?hp (fun _ hk => hk) trivial (Below.refl _ _) (Nat.le_refl _) (by simp) ?_; (case hd => rfl); (case hg => rfl); (case hr => first | (go_simp; done) | (go_simp; rfl)); (case hp => exact (Reps.one (show Kd.M (Kd.int .i64) _ _ _ t297 [.int .i64 t297] from rfl) (Reps.one (show Kd.M (Kd.int .i64) _ _ _ t294 [.int .i64 t294] from rfl) (Reps.none _ _)))); intro v299 w14 ho15 hb hg_ hnew_; clear hg_ hnew_; (first | rw [← Ny298.out] at ho15 | (simp only [Int.reduceToNat] at ho15; rw [← Ny298.out] at ho15)); have HO300 := Aside0.mk (Kd.R_lower ho15 (below_size (Sqz.auHB))); replace HB := Aside0.mk (below_step (Sqz.auHB) hb); clear hb ho15; obtain ⟨Ao16, co16, eo16⟩ := Kd.R_slice HO300.out; subst eo16) | ((with_reducible refine gate_callee (f := 77) rfl ?_); refine goesL_ (some 42) rfl rfl Tryz.func77 (by kernel_rfl) rfl #[.slice Ao16 y298.length co16] rfl Sqz.auM ?_; (with_reducible refine (impl_plain.calls k _ _ y298 t301 _ ?side1 ?side2 A10.out).mono ?_); (case side1 => exact Sqz.mvC ((Kd.R_reads' HO300.out).2.2)); (case side2 => exact (Kd.R_reads' HO300.out).2.1); rintro e w17 ⟨v302, rfl, ho0, hb⟩; refine ⟨_, rfl, ?_⟩; have HO303 := Aside0.mk (Kd.R_lower (Kd.R_new' ho0 (Kd.R_lt ((Sqz.mvR HO300.out)))) (below_size (Sqz.auHB))); replace HO300 := Aside0.mk (Kd.R_elder' ((Sqz.mvR HO300.out)) (Kd.R_base ho0) hb); replace HB := Aside0.mk (below_step (Sqz.auHB) hb); (try clear hb); (try clear ho0)))
      go_ret2
      exact ⟨_, Sqz.auR, (Sqz.mvR (Kd.R_mono HO303.out (fun _ hk => trivial))), Sqz.auHB⟩
     ·rw [if_neg c9] at H; have c9b0 := beq_eq_false_iff_ne.mpr c9; have c9b1 := bne_iff_ne.mpr c9; simp only [Option.some.injEq, Prod.mk.injEq] at H; obtain ⟨rfl, rfl⟩ := H
      go_enter Tryz.func37, Tryz.ntmps37
      go_wp2_with (first | ((with_reducible refine gate_callee (f := 59) rfl ?_); refine goesL_ (some 15) rfl rfl Tryz.func59 (by kernel_rfl) rfl #[.slice A0 l0.length c0] rfl Sqz.auM ?_; (with_reducible refine (impl_FormValid.calls k _ _ l0 true _ ?side1 ?side2 A2.out).mono ?_); (case side1 => exact Sqz.mvC (HR0.out)); (case side2 => exact HC0.out); rintro e w18 ⟨rfl, hb⟩; refine ⟨_, rfl, ?_⟩; replace HB := Aside0.mk (below_step (Sqz.auHB) hb); (try clear hb); have p292 : 0 ≤ (0 : Int) := (by omega); have q292 : 0 < (l0.length : Int) := Sqz.od; obtain ⟨ad292, e292, hx292_0⟩ := Kd.at_int HR0.out 0 p292 q292; cases e292; have qi292 : (0 < l0.length) = True := eq_true (by omega); (try rw [show ((0 : Int)).toNat = 0 from rfl] at hx292_0); (try rw [Addr.add_zero'] at hx292_0); replace hx292_0 := (HB.out.cell (World.block_lt_of_cell? w _ hx292_0)).trans hx292_0; replace p292 := eq_true p292; replace q292 := eq_true q292) | ((with_reducible refine gate_callee (f := 61) rfl ?_); refine goesL_ (some 25) rfl rfl Tryz.func61 (by kernel_rfl) rfl #[.int .i64 (rd l0 0)] rfl Sqz.auM ?_; (with_reducible refine (impl_coreOf.calls k (rd l0 0) t293 t294 _ A6.out).mono ?_); rintro e w19 ⟨rfl, hb⟩; refine ⟨_, rfl, ?_⟩; replace HB := Aside0.mk (below_step (Sqz.auHB) hb); (try clear hb); have p295 : 0 ≤ (1 : Int) := (by omega); have q295 : 1 < (l0.length : Int) := Sqz.od; obtain ⟨ad295, e295, hx295_0⟩ := Kd.at_int HR0.out 1 p295 q295; obtain rfl : ad292 = ad295 := (by injection e295); (try simp only [show (1 : Int).toNat = 1 from rfl, Nat.reduceMul, Nat.reduceEqDiff, Go.Addr.add, ↓reduceIte] at hx295_0); have qi295 : (1 < l0.length) = True := eq_true (by omega); (try rw [show ((1 : Int)).toNat = 1 from rfl] at hx295_0); replace hx295_0 := (HB.out.cell (World.block_lt_of_cell? w _ hx295_0)).trans hx295_0; replace p295 := eq_true p295; replace q295 := eq_true q295) | ((with_reducible refine gate_callee (f := 61) rfl ?_); refine goesL_ (some 32) rfl rfl Tryz.func61 (by kernel_rfl) rfl #[.int .i64 (rd l0 1)] rfl Sqz.auM ?_; (with_reducible refine (impl_coreOf.calls k (rd l0 1) t296 t297 _ A8.out).mono ?_); rintro e w20 ⟨rfl, hb⟩; refine ⟨_, rfl, ?_⟩; replace HB := Aside0.mk (below_step (Sqz.auHB) hb); (try clear hb)))
      go_ret2
      exact ⟨_, Sqz.auR, by first | exact Kd.R_nil _ _ _ _ _ | exact Kd.N_nil _ _ _ _ _ | exact Kd.V_nil _ _ _ _ _ | exact Kd.Q_nil _ _ _ _ _ | exact Kd.S_nil _ _ _ _ _, Sqz.auHB⟩
    ·rw [if_neg c7] at H; exact absurd H (by simp)
   ·rw [if_neg c5] at H; exact absurd H (by simp)
  ·rw [if_neg c4] at H; have c4b0 := beq_eq_false_iff_ne.mpr c4; have c4b1 := bne_iff_ne.mpr c4
   by_cases c21 : (l0.length : Int) = 3
   ·rw [if_pos c21] at H; have c21b0 := beq_iff_eq.mpr c21; have c21b1 := bne_eq_false_iff_eq.mpr c21; clear c21; replace H := Option.bind_eq_some_iff.mp H; obtain ⟨⟨t304, t305, t306⟩, A220, H⟩ := H; replace H : ((impl_ZeroSearch.f k t304).bind fun bt311 => (if bt311.2 = true then (impl_ZeroFindG.l0 k t305 bt311.1 (bt311.1.length : Int) 0) else (some (([] : List Int), false)))) = some (r1, r2) := H; have A22 := Aside0.mk A220; clear A220; replace H := Option.bind_eq_some_iff.mp H; obtain ⟨⟨t311, t312⟩, A230, H⟩ := H; replace H : (if t312 = true then (impl_ZeroFindG.l0 k t305 t311 (t311.length : Int) 0) else (some (([] : List Int), false))) = some (r1, r2) := H; have A23 := Aside0.mk A230; clear A230
    by_cases c24 : t312 = true
    ·subst c24; have H1 : (impl_ZeroFindG.l0 k t305 t311 (t311.length : Int) 0) = some (r1, r2) := by rw [if_pos rfl] at H; exact H
     clear H; have H := H1; clear H1; have H' := Aside0.mk H; clear H
     go_enter Tryz.func37, Tryz.ntmps37
     go_wp2_with (first | ((with_reducible refine gate_callee (f := 59) rfl ?_); refine goesL_ (some 15) rfl rfl Tryz.func59 (by kernel_rfl) rfl #[.slice A0 l0.length c0] rfl Sqz.auM ?_; (with_reducible refine (impl_FormValid.calls k _ _ l0 true _ ?side1 ?side2 A2.out).mono ?_); (case side1 => exact Sqz.mvC (HR0.out)); (case side2 => exact HC0.out); rintro e w25 ⟨rfl, hb⟩; refine ⟨_, rfl, ?_⟩; replace HB := Aside0.mk (below_step (Sqz.auHB) hb); (try clear hb)) | ((with_reducible refine gate_callee (f := 78) rfl ?_); refine goesL_ (some 47) rfl rfl Tryz.func78 (by kernel_rfl) rfl #[.slice A0 l0.length c0] rfl Sqz.auM ?_; (with_reducible refine (impl_ZeroNormal.calls k _ _ l0 t304 t305 t306 _ ?side1 ?side2 A22.out).mono ?_); (case side1 => exact Sqz.mvC ((Kd.C_below HR0.out HB.out))); (case side2 => exact HC0.out); rintro e w26 ⟨v307, v309, rfl, ho0, ho1, hb⟩; refine ⟨_, rfl, ?_⟩; have HO308 := Aside0.mk (Kd.R_lower ho0 (below_size (Sqz.auHB))); have HO310 := Aside0.mk (Kd.R_lower ho1 (below_size (Sqz.auHB))); replace HB := Aside0.mk (below_step (Sqz.auHB) hb); (try clear hb); (try clear ho0); (try clear ho1); obtain ⟨Ao27, co27, eo27⟩ := Kd.R_slice HO308.out; subst eo27) | ((with_reducible refine gate_callee (f := 79) rfl ?_); refine goesL_ (some 53) rfl rfl Tryz.func79 (by kernel_rfl) rfl #[.slice Ao27 t304.length co27] rfl Sqz.auM ?_; (with_reducible refine (impl_ZeroSearch.calls k _ _ t304 t311 true _ ?side1 ?side2 A23.out).mono ?_); (case side1 => exact Sqz.mvC ((Kd.R_reads' HO308.out).2.2)); (case side2 => exact (Kd.R_reads' HO308.out).2.1); rintro e w28 ⟨v313, rfl, ho0, hb⟩; refine ⟨_, rfl, ?_⟩; have HO314 := Aside0.mk (Kd.R_lower (Kd.R_new' (Kd.R_new' ho0 (Kd.R_lt ((Sqz.mvR HO308.out)))) (Kd.R_lt ((Sqz.mvR HO310.out)))) (below_size (Sqz.auHB))); replace HO308 := Aside0.mk (Kd.R_elder' ((Sqz.mvR HO308.out)) (Kd.R_base ho0) hb); replace HO310 := Aside0.mk (Kd.R_elder' ((Sqz.mvR HO310.out)) (Kd.R_base ho0) hb); replace HB := Aside0.mk (below_step (Sqz.auHB) hb); (try clear hb); (try clear ho0); obtain ⟨Ao29, co29, eo29⟩ := Kd.R_slice HO314.out; subst eo29))
     go_loopg [60] k (fun kq v60 w' => ∃ (x11_1 : List Int) (x60_1 : Int), v60 = .int .i64 x60_1 ∧ Aside0 (impl_ZeroFindG.l0 kq t305 x11_1 (t311.length : Int) x60_1 = some (r1, r2)) ∧ Aside0 (kq ≤ k) ∧ Aside0 (Kd.R (Kd.int .i64) 3 w' w.heap.size (fun k_ => some k_ ≠ ((.slice Ao29 t311.length co29) : Value).ownBlock) v309 t305) ∧ Aside0 (Kd.R (Kd.int .i64) 3 w' w.heap.size (fun k_ => some k_ ≠ (v309 : Value).ownBlock) (.slice Ao29 t311.length co29) x11_1) ∧ Aside0 (Below w.heap.size w w'))
     case atStart => exact ⟨(t311), (0), Sqz.auS, H', ⟨Nat.le_refl _⟩, ⟨(Sqz.mvR (Kd.R_mono HO310.out (fun _ hk => (by first | exact hk.2 | exact trivial))))⟩, ⟨(Sqz.mvR (Kd.R_mono HO314.out (fun _ hk => (by first | exact hk.2 | exact trivial))))⟩, ⟨Sqz.auHB⟩⟩
     case round =>
      clear H'
      try clear c2
      try clear p2
      try clear q2
      try clear hx2
      try clear qi2
      try clear c3
      try clear c4
      try clear c4b0
      try clear c4b1
      try clear c5
      try clear c5b0
      try clear c5b1
      try clear c6
      try clear p6
      try clear c7
      try clear c7b0
      try clear c7b1
      try clear c9
      try clear c9b0
      try clear c9b1
      try clear c21
      try clear c21b0
      try clear c21b1
      try clear c24
      try clear p29
      try clear q29
      try clear hx29
      try clear qi29
      try clear hx292_0
      try clear hx295_0
      try clear p292
      try clear p295
      try clear q292
      try clear q295
      obtain ⟨x11_1, x60_1, rfl, HA, HK1, HO_9, HO_11, HB⟩ := hrel; have hl11_1 := (Kd.R_reads' HO_11.out).1; rw [hl11_1] at HO_11; (try simp only [hl11_1]); (try simp only [hl11_1] at HO_9); cases gk with
      | zero => exact absurd HA.out (by simp [impl_ZeroFindG.l0])
      | succ k1 =>
       have H := HA.out; clear HA; simp only [impl_ZeroFindG.l0] at H
       by_cases c30 : x60_1 < (t311.length : Int)
       ·rw [if_pos c30] at H; have c30b0 := decide_eq_true c30
        try have c30bl : decide (x60_1 < (x11_1.length : Int)) = true := by rw [← hl11_1]; exact c30b0
        clear c30
        by_cases c31 : 0 ≤ x60_1
        ·rw [if_pos c31] at H; have c31b0 := decide_eq_true c31; clear c31
         by_cases c32 : x60_1 < (x11_1.length : Int)
         ·rw [if_pos c32] at H; have c32b0 := decide_eq_true c32; clear c32
          by_cases c33 : x60_1 < (t305.length : Int)
          ·rw [if_pos c33] at H; have c33b0 := decide_eq_true c33
           try have c33bl : decide (x60_1 < (x11_1.length : Int)) = true := by rw [← hl11_1]; exact c33b0
           clear c33; obtain ⟨y317, hyy⟩ : ∃ y_ : List Int, y_ = (x11_1.set (x60_1 : Int).toNat (wrap64 ((rd x11_1 x60_1) * (rd t305 x60_1)))) := ⟨_, rfl⟩
           replace H : (impl_ZeroFindG.l0 k1 t305 y317 (t311.length : Int) (wrap64 (x60_1 + 1))) = some (r1, r2) := Sqz.auY
           have Ny317 := Aside0.mk hyy; clear hyy; have H' := Aside0.mk H; clear H
           try go_wp2
           have n0_ := Aside0.mk (Kd.R_drew HO_9.out); have n1_ := Aside0.mk (Kd.R_drew HO_11.out); have n2_ := Aside0.mk (below_drew1 HB.out); clear HO_9; clear HO_11; clear HB; have HO_9 := n0_; have HO_11 := n1_; have HB := n2_; clear n0_ n1_ n2_; have p315 : 0 ≤ (x60_1 : Int) := Sqz.od; have q315 : x60_1 < (x11_1.length : Int) := Sqz.od; obtain ⟨ad315, e315, hx315_0⟩ := Kd.at_int (Kd.R_reads' HO_11.out).2.2 x60_1 p315 q315; cases e315; replace p315 := eq_true p315; replace q315 := eq_true q315; obtain ⟨Ao36, co36, eo36⟩ := Kd.R_slice HO_9.out
           (first | subst eo36 | (injection eo36 with f1_ f2_ f3_; have f4_ := f1_.symm; have f5_ := f3_.symm; clear f1_ f2_ f3_; subst f4_; subst f5_))
           have p316 : 0 ≤ (x60_1 : Int) := Sqz.od; have q316 : x60_1 < (t305.length : Int) := Sqz.od; obtain ⟨ad316, e316, hx316_0⟩ := Kd.at_int (Kd.R_reads' HO_9.out).2.2 x60_1 p316 q316; cases e316; replace p316 := eq_true p316; replace q316 := eq_true q316; have p34 : 0 ≤ (x60_1 : Int) := Sqz.od; have q34 : (x60_1 : Int) < ((x11_1.length : Int) : Int) := Sqz.od; obtain ⟨go34, co34, eo34, gb34, gl34, cl34, HG34⟩ := Kd.R_form HO_11.out (by omega)
           (first | cases eo34 | (injection eo34 with ea_ en_ ec_; (first | subst ea_ | (injection ea_ with ea_; subst ea_)); subst ec_; clear en_))
           have GB34 := Aside0.mk gb34; have GG34 := Aside0.mk HG34; clear gb34 gl34 HG34
           (first | simp only [add_plain] at hx315_0 | skip)
           obtain ⟨hx34_0, hf34_0⟩ := Kd.R_celln 0 HO_11.out (x60_1 : Int) p34 q34; replace p34 := eq_true p34; replace q34 := eq_true q34; have HP37 := Kd.R_putn HO_11.out (x60_1 : Int) (wrap64 ((rd x11_1 x60_1) * (rd t305 x60_1))); rw [← Ny317.out] at HP37; have HQ37 := Aside0.mk HP37; clear HP37; refine start_ (n := 11) (S := fun w' => w'.cell? ⟨go34, (x60_1).toNat, none⟩ = some (.int .i64 (rd x11_1 x60_1)) ∧ w'.cell? (ad316.add (x60_1).toNat) = some (.int .i64 (rd t305 x60_1))) (ds := [10]) #[false, false, false, false, false, false, false, false, false, false, false] (by kernel_rfl) rfl rfl ⟨hx315_0, hx316_0⟩ (fun hHeld => ?_); refine with_tabW impl_ZeroFindG.tab17 impl_ZeroFindG.bits17 (fun HT_ HW_ => ?_); generalize wr.drew = w35 at HO_9 HO_11 HB GG34 HQ37 hf34_0 hx315_0 hx316_0 hx34_0 hHeld ⊢; refine Sqz.pu 0 (some 63) ?_; refine Sqz.pu 1 (some 64) ?_; refine Sqz.pu 2 (some 65) ?_; refine Sqz.pu 4 (some 67) ?_; refine Sqz.pu 5 (some 68) ?_; refine Sqz.pu 6 (some 69) ?_; refine Sqz.ta2 3 (some 66) ?_; refine Sqz.ta2 7 (some 70) ?_; refine Sqz.pu 8 (some 71) ?_; refine Sqz.pu 9 (some 72) ?_
           refine last_ (i := 10) (N := none) #[true, true, true, true, true, true, true, true, true, true, true] rfl rfl (one_of HT_.out (by kernel_rfl)) (by decide) (fun K hK => ?_); refine skip_ (w1 := ?_) (by rfl) rfl ?_ ?_; rotate_left
           ·go_simp; rfl
           refine hK.out _ _ ?_; clear hK K; refine done_ (done_of HT_.out (by kernel_rfl)) ?_
           try go_wp2
           (try simp only [← hl11_1])
           go_roundg k1
           case measure => have := HK1.out; omega
           case rel => exact ⟨(y317), (wrap64 (x60_1 + 1)), Sqz.auS, H', ⟨by have := HK1.out; omega⟩, ⟨by (try simp only [hl11_1]); (with_reducible repeat (first | apply Kd.R_alloc | apply Kd.R_drewN | apply Kd.R_drew)); exact Kd.R_mono (Kd.R_far (p := ⟨go34, (x60_1 : Int).toNat, none⟩) (Kd.R_mono HO_9.out (fun k_ hk => (⟨hk, fun e_ => hk (by rw [e_]; rfl)⟩ : _ ∧ k_ ≠ go34))) (fun _ hk => (by first | exact hk.2 | exact trivial)) (.int .i64 (wrap64 ((rd x11_1 x60_1) * (rd t305 x60_1))))) (fun _ hk => hk.1)⟩, ⟨by (try simp only [hl11_1]); (with_reducible repeat (first | apply Kd.R_alloc | apply Kd.R_drewN | apply Kd.R_drew)); exact HQ37.out⟩, ⟨by repeat (first | (with_reducible first | exact HB.out | apply below_alloc | apply pw_below_drewN | apply below_drew1 | refine below_set ?_ GB34.out) | exact HB.out)⟩⟩
          ·rw [if_neg c33] at H; exact absurd H (by simp)
         ·rw [if_neg c32] at H; exact absurd H (by simp)
        ·rw [if_neg c31] at H; exact absurd H (by simp)
       ·rw [if_neg c30] at H; have c30b0 := decide_eq_false c30
        try have c30bl : decide (x60_1 < (x11_1.length : Int)) = false := by rw [← hl11_1]; exact c30b0
        clear c30; obtain ⟨t318, A38, H⟩ := Sqz.be H; simp only [Option.some.injEq, Prod.mk.injEq] at H; obtain ⟨rfl, rfl⟩ := H
        go_wp2_with (first | ((with_reducible refine gate_callee (f := 77) rfl ?_); refine goesL_ (some 75) rfl rfl Tryz.func77 (by kernel_rfl) rfl #[.slice Ao29 x11_1.length co29] rfl Sqz.auM ?_; (with_reducible refine (impl_plain.calls k1 _ _ x11_1 t318 _ ?side1 ?side2 A38.out).mono ?_); (case side1 => exact Sqz.mvC ((Kd.R_reads' HO_11.out).2.2)); (case side2 => exact (Kd.R_reads' HO_11.out).2.1); rintro e w39 ⟨v319, rfl, ho0, hb⟩; refine ⟨_, rfl, ?_⟩; have HO320 := Aside0.mk (Kd.R_lower (Kd.R_new' (Kd.R_new' ho0 (Kd.R_lt ((Sqz.mvR HO_9.out)))) (Kd.R_lt ((Sqz.mvR HO_11.out)))) (below_size (Sqz.auHB))); replace HO_9 := Aside0.mk (Kd.R_elder' ((Sqz.mvR HO_9.out)) (Kd.R_base ho0) hb); replace HO_11 := Aside0.mk (Kd.R_elder' ((Sqz.mvR HO_11.out)) (Kd.R_base ho0) hb); replace HB := Aside0.mk (below_step (Sqz.auHB) hb); (try clear hb); (try clear ho0)))
        go_ret2
        exact ⟨_, Sqz.auR, (Sqz.mvR (Kd.R_mono HO320.out (fun _ hk => trivial))), Sqz.auHB⟩
    ·replace c24 := Bool.eq_false_iff.mpr c24; subst c24; have H1 : (some (([] : List Int), false)) = some (r1, r2) := by rw [if_neg (show ¬ (false = true) by decide)] at H; exact H
     clear H; have H := H1; clear H1; simp only [Option.some.injEq, Prod.mk.injEq] at H; obtain ⟨rfl, rfl⟩ := H
     go_enter Tryz.func37, Tryz.ntmps37
     go_wp2_with (first | ((with_reducible refine gate_callee (f := 59) rfl ?_); refine goesL_ (some 15) rfl rfl Tryz.func59 (by kernel_rfl) rfl #[.slice A0 l0.length c0] rfl Sqz.auM ?_; (with_reducible refine (impl_FormValid.calls k _ _ l0 true _ ?side1 ?side2 A2.out).mono ?_); (case side1 => exact Sqz.mvC (HR0.out)); (case side2 => exact HC0.out); rintro e w40 ⟨rfl, hb⟩; refine ⟨_, rfl, ?_⟩; replace HB := Aside0.mk (below_step (Sqz.auHB) hb); (try clear hb)) | ((with_reducible refine gate_callee (f := 78) rfl ?_); refine goesL_ (some 47) rfl rfl Tryz.func78 (by kernel_rfl) rfl #[.slice A0 l0.length c0] rfl Sqz.auM ?_; (with_reducible refine (impl_ZeroNormal.calls k _ _ l0 t304 t305 t306 _ ?side1 ?side2 A22.out).mono ?_); (case side1 => exact Sqz.mvC ((Kd.C_below HR0.out HB.out))); (case side2 => exact HC0.out); rintro e w41 ⟨v307, v309, rfl, ho0, ho1, hb⟩; refine ⟨_, rfl, ?_⟩; have HO308 := Aside0.mk (Kd.R_lower ho0 (below_size (Sqz.auHB))); have HO310 := Aside0.mk (Kd.R_lower ho1 (below_size (Sqz.auHB))); replace HB := Aside0.mk (below_step (Sqz.auHB) hb); (try clear hb); (try clear ho0); (try clear ho1); obtain ⟨Ao42, co42, eo42⟩ := Kd.R_slice HO308.out; subst eo42) | ((with_reducible refine gate_callee (f := 79) rfl ?_); refine goesL_ (some 53) rfl rfl Tryz.func79 (by kernel_rfl) rfl #[.slice Ao42 t304.length co42] rfl Sqz.auM ?_; (with_reducible refine (impl_ZeroSearch.calls k _ _ t304 t311 false _ ?side1 ?side2 A23.out).mono ?_); (case side1 => exact Sqz.mvC ((Kd.R_reads' HO308.out).2.2)); (case side2 => exact (Kd.R_reads' HO308.out).2.1); rintro e w43 ⟨v313, rfl, ho0, hb⟩; refine ⟨_, rfl, ?_⟩; have HO314 := Aside0.mk (Kd.R_lower (Kd.R_new' (Kd.R_new' ho0 (Kd.R_lt ((Sqz.mvR HO308.out)))) (Kd.R_lt ((Sqz.mvR HO310.out)))) (below_size (Sqz.auHB))); replace HO308 := Aside0.mk (Kd.R_elder' ((Sqz.mvR HO308.out)) (Kd.R_base ho0) hb); replace HO310 := Aside0.mk (Kd.R_elder' ((Sqz.mvR HO310.out)) (Kd.R_base ho0) hb); replace HB := Aside0.mk (below_step (Sqz.auHB) hb); (try clear hb); (try clear ho0)))
     go_ret2
     exact ⟨_, Sqz.auR, by first | exact Kd.R_nil _ _ _ _ _ | exact Kd.N_nil _ _ _ _ _ | exact Kd.V_nil _ _ _ _ _ | exact Kd.Q_nil _ _ _ _ _ | exact Kd.S_nil _ _ _ _ _, Sqz.auHB⟩
   ·rw [if_neg c21] at H; have c21b0 := beq_eq_false_iff_ne.mpr c21; have c21b1 := bne_iff_ne.mpr c21
    by_cases c44 : (l0.length : Int) = 4
    ·rw [if_pos c44] at H; have c44b0 := beq_iff_eq.mpr c44; have c44b1 := bne_eq_false_iff_eq.mpr c44; clear c44; replace H := Option.bind_eq_some_iff.mp H; obtain ⟨⟨t321, t322⟩, A450, H⟩ := H; replace H : (some (t321, t322)) = some (r1, r2) := H; have A45 := Aside0.mk A450; clear A450; simp only [Option.some.injEq, Prod.mk.injEq] at H; obtain ⟨rfl, rfl⟩ := H
     go_enter Tryz.func37, Tryz.ntmps37
     go_wp2_with (first | ((with_reducible refine gate_callee (f := 59) rfl ?_); refine goesL_ (some 15) rfl rfl Tryz.func59 (by kernel_rfl) rfl #[.slice A0 l0.length c0] rfl Sqz.auM ?_; (with_reducible refine (impl_FormValid.calls k _ _ l0 true _ ?side1 ?side2 A2.out).mono ?_); (case side1 => exact Sqz.mvC (HR0.out)); (case side2 => exact HC0.out); rintro e w46 ⟨rfl, hb⟩; refine ⟨_, rfl, ?_⟩; replace HB := Aside0.mk (below_step (Sqz.auHB) hb); (try clear hb)) | ((with_reducible refine gate_callee (f := 80) rfl ?_); refine goesL_ (some 79) rfl rfl Tryz.func80 (by kernel_rfl) rfl #[.slice A0 l0.length c0] rfl Sqz.auM ?_; (with_reducible refine (hz k _ _ l0 t321 t322 _ ?side1 ?side2 A45.out).mono ?_); (case side1 => exact Sqz.mvC ((Kd.C_below HR0.out HB.out))); (case side2 => exact HC0.out); rintro e w47 ⟨v323, rfl, ho0, hb⟩; refine ⟨_, rfl, ?_⟩; have HO324 := Aside0.mk (Kd.R_lower ho0 (below_size (Sqz.auHB))); replace HB := Aside0.mk (below_step (Sqz.auHB) hb); (try clear hb); (try clear ho0)))
     go_ret2
     exact ⟨_, Sqz.auR, (Sqz.mvR HO324.out), Sqz.auHB⟩
    ·rw [if_neg c44] at H; have c44b0 := beq_eq_false_iff_ne.mpr c44; have c44b1 := bne_iff_ne.mpr c44; simp only [Option.some.injEq, Prod.mk.injEq] at H; obtain ⟨rfl, rfl⟩ := H
     go_enter Tryz.func37, Tryz.ntmps37
     go_wp2_with (first | ((with_reducible refine gate_callee (f := 59) rfl ?_); refine goesL_ (some 15) rfl rfl Tryz.func59 (by kernel_rfl) rfl #[.slice A0 l0.length c0] rfl Sqz.auM ?_; (with_reducible refine (impl_FormValid.calls k _ _ l0 true _ ?side1 ?side2 A2.out).mono ?_); (case side1 => exact Sqz.mvC (HR0.out)); (case side2 => exact HC0.out); rintro e w48 ⟨rfl, hb⟩; refine ⟨_, rfl, ?_⟩; replace HB := Aside0.mk (below_step (Sqz.auHB) hb); (try clear hb)))
     go_ret2
     exact ⟨_, Sqz.auR, by first | exact Kd.R_nil _ _ _ _ _ | exact Kd.N_nil _ _ _ _ _ | exact Kd.V_nil _ _ _ _ _ | exact Kd.Q_nil _ _ _ _ _ | exact Kd.S_nil _ _ _ _ _, Sqz.auHB⟩
 ·replace c3 := Bool.eq_false_iff.mpr c3; subst c3; have H1 : (some (([] : List Int), false)) = some (r1, r2) := by rw [if_neg (show ¬ (false = true) by decide)] at H; exact H
  clear H; have H := H1; clear H1; simp only [Option.some.injEq, Prod.mk.injEq] at H; obtain ⟨rfl, rfl⟩ := H
  go_enter Tryz.func37, Tryz.ntmps37
  go_wp2_with (first | ((with_reducible refine gate_callee (f := 59) rfl ?_); refine goesL_ (some 15) rfl rfl Tryz.func59 (by kernel_rfl) rfl #[.slice A0 l0.length c0] rfl Sqz.auM ?_; (with_reducible refine (impl_FormValid.calls k _ _ l0 false _ ?side1 ?side2 A2.out).mono ?_); (case side1 => exact Sqz.mvC (HR0.out)); (case side2 => exact HC0.out); rintro e w49 ⟨rfl, hb⟩; refine ⟨_, rfl, ?_⟩; replace HB := Aside0.mk (below_step (Sqz.auHB) hb); (try clear hb)))
  go_ret2
  exact ⟨_, Sqz.auR, by first | exact Kd.R_nil _ _ _ _ _ | exact Kd.N_nil _ _ _ _ _ | exact Kd.V_nil _ _ _ _ _ | exact Kd.Q_nil _ _ _ _ _ | exact Kd.S_nil _ _ _ _ _, Sqz.auHB⟩

def impl_ZeroFindC.f (k : Nat) (l0 : List Int) : Option (List Int × Bool) := impl_ZeroFindG.f (fun _ _ => none) k l0
theorem impl_ZeroFindC.calls (k : Nat) (A0 : Option Addr) (c0 : Nat) (l0 : List Int) (r1 : List Int) (r2 : Bool) (w : World) (hr0 : Kd.C (Kd.int .i64) w A0 l0.length l0) (hc0 : l0.length ≤ c0) (h : impl_ZeroFindC.f k l0 = some (r1, r2)) :
  Calls Tryz.prog 37 #[.slice A0 l0.length c0] w fun e w' => ∃ v0_ : Value, e = .returned (.tuple #[v0_, .bool r2]) ∧ Kd.R (Kd.int .i64) 3 w' w.heap.size (fun _ => True) v0_ r1 ∧ Below w.heap.size w w' := impl_ZeroFindG.calls (fun _ _ => none) (fun _ _ _ _ _ _ _ _ _ h => by cases h) k A0 c0 l0 r1 r2 w hr0 hc0 h
mutual
def impl_zeroOfFour.l0 : Nat → Int → Int → Int → Int → Int → Option (List Int × Bool)
 | 0, _, _, _, _, _ => none
 | k + 1, x4, x5, x6, x7, x8 => if x8 ≤ 3 then (impl_zeroOfFour.l1 k x4 x5 x6 x7 x8 0) else (some (([] : List Int), false))
def impl_zeroOfFour.l1 : Nat → Int → Int → Int → Int → Int → Int → Option (List Int × Bool)
 | 0, _, _, _, _, _, _ => none
 | k + 1, x4, x5, x6, x7, x8, x9 => if x9 ≤ 3 then (if x8 = 0 then (impl_zeroOfFour.j2 k x4 x5 x6 x7 x8 x9 (x9 == 0)) else (impl_zeroOfFour.j2 k x4 x5 x6 x7 x8 x9 false)) else (impl_zeroOfFour.l0 k x4 x5 x6 x7 (wrap64 (x8 + 1)))
def impl_zeroOfFour.j2 : Nat → Int → Int → Int → Int → Int → Int → Bool → Option (List Int × Bool)
 | 0, _, _, _, _, _, _, _ => none
 | k + 1, x4, x5, x6, x7, x8, x9, x40 => if x40 = true then (impl_zeroOfFour.l1 k x4 x5 x6 x7 x8 (wrap64 (x9 + 1))) else (if (wrap64 ((wrap64 ((wrap64 (x4 * x8)) * x8)) + (wrap64 ((wrap64 (x5 * x9)) * x9)))) = 0 then ((impl_plain.f k (([x8, x9, 0, 0] : List Int))).bind fun t192 => (some (t192, true))) else ((impl_coreOf.f k (wrap64 ((wrap64 ((wrap64 (x4 * x8)) * x8)) + (wrap64 ((wrap64 (x5 * x9)) * x9))))).bind fun bt195 => ((impl_ZeroFindC.f k (([x6, x7, bt195.1] : List Int))).bind fun bt200 => (if bt200.2 = true then (if 2 < (bt200.1.length : Int) then (if 0 < (bt200.1.length : Int) then (if 1 < (bt200.1.length : Int) then ((impl_plain.f k (([wrap64 (x8 * (rd bt200.1 2)), wrap64 (x9 * (rd bt200.1 2)), wrap64 (bt195.2 * (rd bt200.1 0)), wrap64 (bt195.2 * (rd bt200.1 1))] : List Int))).bind fun t211 => (some (t211, true))) else (none)) else (none)) else (none)) else (impl_zeroOfFour.l1 k x4 x5 x6 x7 x8 (wrap64 (x9 + 1)))))))
end
def impl_zeroOfFour.f (k : Nat) (l0 : List Int) : Option (List Int × Bool) := if 0 < (l0.length : Int) then (if 1 < (l0.length : Int) then (if 2 < (l0.length : Int) then (if 3 < (l0.length : Int) then (impl_zeroOfFour.l0 k (rd l0 0) (rd l0 1) (rd l0 2) (rd l0 3) 0) else (none)) else (none)) else (none)) else (none)
def impl_zeroOfFour.T1 : Bool × List (List Nat × List Nat) := (true, [([], []), ([0], [0]), ([1], [1]), ([], []), ([3], [3]), ([4], [4]), ([], []), ([6], [6]), ([7], [7]), ([], []), ([9], [9]), ([10], [10]), ([2, 0, 1, 2], [2]), ([5, 12, 0, 1, 2, 3, 4, 5, 12], [5]), ([8, 13, 0, 1, 2, 3, 4, 5, 6, 7, 8, 12, 13], [8]), ([11, 14, 0, 1, 2, 3, 4, 5, 6, 7, 8, 9, 10, 11, 12, 13, 14], [11])])
def impl_zeroOfFour.B1 : List Nat := [0, 1, 3, 0, 8, 24, 0, 64, 192, 0, 512, 1536, 7, 4159, 12799, 32767]
theorem impl_zeroOfFour.tab1 : rtab .any (opsOf Tryz.f80 1) = impl_zeroOfFour.T1 := by kernel_rfl
theorem impl_zeroOfFour.bits1 : waitsOk impl_zeroOfFour.T1.2 impl_zeroOfFour.B1 = true := by kernel_rfl
def impl_zeroOfFour.T15 : Bool × List (List Nat × List Nat) := (true, [([], []), ([], []), ([1], [1]), ([2], [2]), ([0, 3], [0, 3]), ([], []), ([], []), ([6], [6]), ([7], [7]), ([5, 8], [5, 8]), ([], []), ([], []), ([11], [11]), ([12], [12]), ([10, 13], [10, 13]), ([], []), ([], []), ([16], [16]), ([17], [17]), ([15, 18], [15, 18]), ([4, 9, 14, 19], [4, 9, 14, 19]), ([20], [20]), ([21, 21, 0, 1, 2, 3, 4, 5, 6, 7, 8, 9, 10, 11, 12, 13, 14, 15, 16, 17, 18, 19, 20, 21], [21]), ([22, 0, 1, 2, 3, 4, 5, 6, 7, 8, 9, 10, 11, 12, 13, 14, 15, 16, 17, 18, 19, 20, 21, 22], [])])
def impl_zeroOfFour.B15 : List Nat := [0, 0, 2, 6, 15, 0, 0, 64, 192, 480, 0, 0, 2048, 6144, 15360, 0, 0, 65536, 196608, 491520, 1048575, 2097151, 4194303, 8388607]
theorem impl_zeroOfFour.tab15 : rtab .any (opsOf Tryz.f80 15) = impl_zeroOfFour.T15 := by kernel_rfl
theorem impl_zeroOfFour.bits15 : waitsOk impl_zeroOfFour.T15.2 impl_zeroOfFour.B15 = true := by kernel_rfl
set_option maxHeartbeats 8000000 in
set_option maxRecDepth 100000 in
theorem impl_zeroOfFour.calls (k : Nat) (A0 : Option Addr) (c0 : Nat) (l0 : List Int) (r1 : List Int) (r2 : Bool) (w : World) (hr0 : Kd.C (Kd.int .i64) w A0 l0.length l0) (hc0 : l0.length ≤ c0) (h : impl_zeroOfFour.f k l0 = some (r1, r2)) :
  Calls Tryz.prog 80 #[.slice A0 l0.length c0] w fun e w' => ∃ v0_ : Value, e = .returned (.tuple #[v0_, .bool r2]) ∧ Kd.R (Kd.int .i64) 3 w' w.heap.size (fun _ => True) v0_ r1 ∧ Below w.heap.size w w' := by
 have HR0 := Aside0.mk hr0; have HC0 := Aside0.mk hc0; clear hr0 hc0; have HB := Aside0.mk (Below.refl w.heap.size w); have H : (if 0 < (l0.length : Int) then (if 1 < (l0.length : Int) then (if 2 < (l0.length : Int) then (if 3 < (l0.length : Int) then (impl_zeroOfFour.l0 k (rd l0 0) (rd l0 1) (rd l0 2) (rd l0 3) 0) else (none)) else (none)) else (none)) else (none)) = some (r1, r2) := h; clear h
 by_cases c2 : 0 < (l0.length : Int)
 ·rw [if_pos c2] at H; have c2b0 := decide_eq_true c2; have c2b1 : decide (0 < l0.length) = true := decide_eq_true (by omega); clear c2
  by_cases c3 : 1 < (l0.length : Int)
  ·rw [if_pos c3] at H; have c3b0 := decide_eq_true c3; have c3b1 : decide (1 < l0.length) = true := decide_eq_true (by omega); clear c3
   by_cases c4 : 2 < (l0.length : Int)
   ·rw [if_pos c4] at H; have c4b0 := decide_eq_true c4; have c4b1 : decide (2 < l0.length) = true := decide_eq_true (by omega); clear c4
    by_cases c5 : 3 < (l0.length : Int)
    ·rw [if_pos c5] at H; have c5b0 := decide_eq_true c5; have c5b1 : decide (3 < l0.length) = true := decide_eq_true (by omega); clear c5; have H' := Aside0.mk H; clear H
     go_enter Tryz.func80, Tryz.ntmps80
     try go_wp2
     have n0_ := Aside0.mk (below_drew1 HB.out); clear HB; have HB := n0_; clear n0_; have p185 : 0 ≤ (0 : Int) := (by omega); have q185 : 0 < (l0.length : Int) := Sqz.od; obtain ⟨ad185, e185, hx185_0⟩ := Kd.at_int HR0.out 0 p185 q185; have hw185_0 := hx185_0; (try rw [show ((0 : Int)).toNat = 0 from rfl] at hw185_0); (try rw [show 0 * 1 = 0 from rfl] at hw185_0); (try rw [Addr.add_zero'] at hw185_0); cases e185; have qi185 : (0 < l0.length) = True := eq_true (by omega); (try rw [show ((0 : Int)).toNat = 0 from rfl] at hx185_0); (try rw [Addr.add_zero'] at hx185_0); replace hx185_0 := (HB.out.cell (World.block_lt_of_cell? w _ hx185_0)).trans hx185_0; replace p185 := eq_true p185; replace q185 := eq_true q185; have p186 : 0 ≤ (1 : Int) := (by omega); have q186 : 1 < (l0.length : Int) := Sqz.od; obtain ⟨ad186, e186, hx186_0⟩ := Kd.at_int HR0.out 1 p186 q186; have hw186_0 := hx186_0; (try rw [show ((1 : Int)).toNat = 1 from rfl] at hw186_0); (try rw [show 1 * 1 = 1 from rfl] at hw186_0); (try simp only [Nat.reduceMul, Nat.reduceEqDiff, Go.Addr.add, ↓reduceIte] at hw186_0); obtain rfl : ad185 = ad186 := (by injection e186); (try simp only [show (1 : Int).toNat = 1 from rfl, Nat.reduceMul, Nat.reduceEqDiff, Go.Addr.add, ↓reduceIte] at hx186_0); have qi186 : (1 < l0.length) = True := eq_true (by omega); (try rw [show ((1 : Int)).toNat = 1 from rfl] at hx186_0); replace hx186_0 := (HB.out.cell (World.block_lt_of_cell? w _ hx186_0)).trans hx186_0; replace p186 := eq_true p186; replace q186 := eq_true q186; have p187 : 0 ≤ (2 : Int) := (by omega); have q187 : 2 < (l0.length : Int) := Sqz.od; obtain ⟨ad187, e187, hx187_0⟩ := Kd.at_int HR0.out 2 p187 q187; have hw187_0 := hx187_0; (try rw [show ((2 : Int)).toNat = 2 from rfl] at hw187_0); (try rw [show 2 * 1 = 2 from rfl] at hw187_0); (try simp only [Nat.reduceMul, Nat.reduceEqDiff, Go.Addr.add, ↓reduceIte] at hw187_0); obtain rfl : ad185 = ad187 := (by injection e187); (try simp only [show (2 : Int).toNat = 2 from rfl, Nat.reduceMul, Nat.reduceEqDiff, Go.Addr.add, ↓reduceIte] at hx187_0); have qi187 : (2 < l0.length) = True := eq_true (by omega); (try rw [show ((2 : Int)).toNat = 2 from rfl] at hx187_0); replace hx187_0 := (HB.out.cell (World.block_lt_of_cell? w _ hx187_0)).trans hx187_0; replace p187 := eq_true p187; replace q187 := eq_true q187; have p188 : 0 ≤ (3 : Int) := (by omega); have q188 : 3 < (l0.length : Int) := Sqz.od; obtain ⟨ad188, e188, hx188_0⟩ := Kd.at_int HR0.out 3 p188 q188; have hw188_0 := hx188_0; (try rw [show ((3 : Int)).toNat = 3 from rfl] at hw188_0); (try rw [show 3 * 1 = 3 from rfl] at hw188_0); (try simp only [Nat.reduceMul, Nat.reduceEqDiff, Go.Addr.add, ↓reduceIte] at hw188_0); obtain rfl : ad185 = ad188 := (by injection e188); (try simp only [show (3 : Int).toNat = 3 from rfl, Nat.reduceMul, Nat.reduceEqDiff, Go.Addr.add, ↓reduceIte] at hx188_0); have qi188 : (3 < l0.length) = True := eq_true (by omega); (try rw [show ((3 : Int)).toNat = 3 from rfl] at hx188_0); replace hx188_0 := (HB.out.cell (World.block_lt_of_cell? w _ hx188_0)).trans hx188_0; replace p188 := eq_true p188; replace q188 := eq_true q188; refine start_ (n := 16) (S := fun w' => w'.cell? ad185 = some (.int .i64 (rd l0 0)) ∧ w'.cell? ⟨ad185.block, ad185.off + 1, none⟩ = some (.int .i64 (rd l0 1)) ∧ w'.cell? ⟨ad185.block, ad185.off + 2, none⟩ = some (.int .i64 (rd l0 2)) ∧ w'.cell? ⟨ad185.block, ad185.off + 3, none⟩ = some (.int .i64 (rd l0 3))) (ds := []) #[false, false, false, false, false, false, false, false, false, false, false, false, false, false, false, false] (by kernel_rfl) rfl rfl ⟨((HB.out.cell (World.block_lt_of_cell? w _ hw185_0)).trans hw185_0), ((HB.out.cell (World.block_lt_of_cell? w _ hw186_0)).trans hw186_0), ((HB.out.cell (World.block_lt_of_cell? w _ hw187_0)).trans hw187_0), ((HB.out.cell (World.block_lt_of_cell? w _ hw188_0)).trans hw188_0)⟩ (fun hHeld => ?_); refine with_tabW impl_zeroOfFour.tab1 impl_zeroOfFour.bits1 (fun HT_ HW_ => ?_)
     generalize w.drew = w6 at HB hx185_0 hx186_0 hx187_0 hx188_0 hHeld ⊢; refine Sqz.pu 0 (some 15) ?_; refine Sqz.pu 1 (some 16) ?_; refine Sqz.pu 3 (some 18) ?_; refine Sqz.pu 4 (some 19) ?_; refine Sqz.pu 6 (some 21) ?_; refine Sqz.pu 7 (some 22) ?_; refine Sqz.pu 9 (some 24) ?_; refine Sqz.pu 10 (some 25) ?_; refine Sqz.ta4 2 (some 17) ?_; refine Sqz.pu 12 (some 4) ?_; refine Sqz.ta4 5 (some 20) ?_; refine Sqz.pu 13 (some 5) ?_; refine Sqz.ta4 8 (some 23) ?_; refine Sqz.pu 14 (some 6) ?_; refine Sqz.ta4 11 (some 26) ?_; refine Sqz.pu 15 (some 7) ?_
     refine done_ (done_of HT_.out (by kernel_rfl)) ?_
     try go_wp2
     go_loopg [8] k (fun kq v8 w' => ∃ (x8_1 : Int), v8 = .int .i64 x8_1 ∧ Aside0 (impl_zeroOfFour.l0 kq (rd l0 0) (rd l0 1) (rd l0 2) (rd l0 3) x8_1 = some (r1, r2)) ∧ Aside0 (kq ≤ k) ∧ Aside0 (Below w.heap.size w w'))
     case atStart => exact ⟨(0), Sqz.auS, H', ⟨Nat.le_refl _⟩, ⟨Sqz.auHB⟩⟩
     case round =>
      clear H'
      try clear p1
      try clear q1
      try clear hx1
      try clear qi1
      try clear c2
      try clear c2b0
      try clear c2b1
      try clear p2
      try clear c3
      try clear c3b0
      try clear c3b1
      try clear c4
      try clear c4b0
      try clear c4b1
      try clear c5
      try clear c5b0
      try clear c5b1
      try clear hx185_0
      try clear hx186_0
      try clear hx187_0
      try clear hx188_0
      try clear p185
      try clear p186
      try clear p187
      try clear p188
      try clear q185
      try clear q186
      try clear q187
      try clear q188
      obtain ⟨x8_1, rfl, HA, HK1, HB⟩ := hrel; cases gk with
      | zero => exact absurd HA.out (by simp [impl_zeroOfFour.l0])
      | succ k1 =>
       have H := HA.out; clear HA; simp only [impl_zeroOfFour.l0] at H
       by_cases c7 : x8_1 ≤ 3
       ·rw [if_pos c7] at H; have c7b0 := decide_eq_true c7; clear c7; have H' := Aside0.mk H; clear H; go_wp2
        go_loopg [9] k1 (fun kq v9 w' => ∃ (x9_2 : Int), v9 = .int .i64 x9_2 ∧ Aside0 (impl_zeroOfFour.l1 kq (rd l0 0) (rd l0 1) (rd l0 2) (rd l0 3) x8_1 x9_2 = some (r1, r2)) ∧ Aside0 (kq ≤ k1) ∧ Aside0 (Below w.heap.size w w'))
        case atStart => exact ⟨(0), Sqz.auS, H', ⟨Nat.le_refl _⟩, ⟨Sqz.auHB⟩⟩
        case round =>
         clear H'
         try clear p1
         try clear q1
         try clear hx1
         try clear qi1
         try clear c2
         try clear c2b0
         try clear c2b1
         try clear p2
         try clear c3
         try clear c3b0
         try clear c3b1
         try clear c4
         try clear c4b0
         try clear c4b1
         try clear c5
         try clear c5b0
         try clear c5b1
         try clear c7
         try clear c7b0
         try clear hx185_0
         try clear hx186_0
         try clear hx187_0
         try clear hx188_0
         try clear p1
         try clear p185
         try clear p186
         try clear p187
         try clear p188
         try clear p2
         try clear q1
         try clear q185
         try clear q186
         try clear q187
         try clear q188
         obtain ⟨x9_2, rfl, HA, HK2, HB⟩ := hrel; cases gk with
         | zero => exact absurd HA.out (by simp [impl_zeroOfFour.l1])
         | succ k2 =>
          have H := HA.out; clear HA; simp only [impl_zeroOfFour.l1] at H
          by_cases c8 : x9_2 ≤ 3
          ·rw [if_pos c8] at H; have c8b0 := decide_eq_true c8; clear c8; have HC9 := Aside0.mk H; clear H
           go_upto_region 8 with (fail)
           go_cut [40] (fun v40 wc => ∃ (kq : Nat) (x40_8 : Bool), v40 = .bool x40_8 ∧ Aside0 (impl_zeroOfFour.j2 kq (rd l0 0) (rd l0 1) (rd l0 2) (rd l0 3) x8_1 x9_2 x40_8 = some (r1, r2)) ∧ Aside0 (kq ≤ k2) ∧ Aside0 (Below w.heap.size w wc))
           case first =>
            have H := HC9.out; clear HC9
            by_cases c10 : x8_1 = 0
            ·rw [if_pos c10] at H; have c10b0 := beq_iff_eq.mpr c10; have c10b1 := bne_eq_false_iff_eq.mpr c10; clear c10
             (first | rw [c10b0] | (simp only [i64_w, i32_w]; rw [c10b0]) | skip)
             have H' := Aside0.mk H; clear H; go_wp2
             go_meet
             case rel => exact ⟨_, ((x9_2 == 0)), Sqz.auS, H', ⟨by have := HK1.out; have := HK2.out; first | omega | exact Nat.le_refl _⟩, ⟨Sqz.auHB⟩⟩
            ·rw [if_neg c10] at H; have c10b0 := beq_eq_false_iff_ne.mpr c10; have c10b1 := bne_iff_ne.mpr c10
             (first | rw [c10b0] | (simp only [i64_w, i32_w]; rw [c10b0]) | skip)
             have H' := Aside0.mk H; clear H; go_wp2
             go_meet
             case rel => exact ⟨_, (false), Sqz.auS, H', ⟨by have := HK1.out; have := HK2.out; first | omega | exact Nat.le_refl _⟩, ⟨Sqz.auHB⟩⟩
           case rest =>
            clear HC9
            try clear c1
            try clear p1
            try clear q1
            try clear hx1
            try clear qi1
            try clear c2
            try clear c2b0
            try clear c2b1
            try clear p2
            try clear c3
            try clear c3b0
            try clear c3b1
            try clear c4
            try clear c4b0
            try clear c4b1
            try clear c5
            try clear c5b0
            try clear c5b1
            try clear c7
            try clear c7b0
            try clear c8
            try clear c8b0
            try clear c10
            try clear c10b0
            try clear c10b1
            try clear hx185_0
            try clear hx186_0
            try clear hx187_0
            try clear hx188_0
            try clear p1
            try clear p185
            try clear p186
            try clear p187
            try clear p188
            try clear p2
            try clear q1
            try clear q185
            try clear q186
            try clear q187
            try clear q188
            obtain ⟨kq, x40_8, rfl, HA, HJ8, HB⟩ := hcut; cases kq with
            | zero => exact absurd HA.out (by simp [impl_zeroOfFour.j2])
            | succ kj8 =>
             have H := HA.out; clear HA; simp only [impl_zeroOfFour.j2] at H
             by_cases c11 : x40_8 = true
             ·subst c11; have H1 : (impl_zeroOfFour.l1 kj8 (rd l0 0) (rd l0 1) (rd l0 2) (rd l0 3) x8_1 (wrap64 (x9_2 + 1))) = some (r1, r2) := by rw [if_pos rfl] at H; exact H
              clear H; have H := H1; clear H1; have H' := Aside0.mk H; clear H; go_wp2
              go_roundg kj8
              case measure => have := HK1.out; have := HK2.out; have := HJ8.out; omega
              case rel => exact ⟨(wrap64 (x9_2 + 1)), Sqz.auS, H', ⟨by have := HK1.out; have := HK2.out; have := HJ8.out; omega⟩, ⟨Sqz.auHB⟩⟩
             ·replace c11 := Bool.eq_false_iff.mpr c11; subst c11; have H1 : (if (wrap64 ((wrap64 ((wrap64 ((rd l0 0) * x8_1)) * x8_1)) + (wrap64 ((wrap64 ((rd l0 1) * x9_2)) * x9_2)))) = 0 then ((impl_plain.f kj8 (([x8_1, x9_2, 0, 0] : List Int))).bind fun t192 => (some (t192, true))) else ((impl_coreOf.f kj8 (wrap64 ((wrap64 ((wrap64 ((rd l0 0) * x8_1)) * x8_1)) + (wrap64 ((wrap64 ((rd l0 1) * x9_2)) * x9_2))))).bind fun bt195 => ((impl_ZeroFindC.f kj8 (([(rd l0 2), (rd l0 3), bt195.1] : List Int))).bind fun bt200 => (if bt200.2 = true then (if 2 < (bt200.1.length : Int) then (if 0 < (bt200.1.length : Int) then (if 1 < (bt200.1.length : Int) then ((impl_plain.f kj8 (([wrap64 (x8_1 * (rd bt200.1 2)), wrap64 (x9_2 * (rd bt200.1 2)), wrap64 (bt195.2 * (rd bt200.1 0)), wrap64 (bt195.2 * (rd bt200.1 1))] : List Int))).bind fun t211 => (some (t211, true))) else (none)) else (none)) else (none)) else (impl_zeroOfFour.l1 kj8 (rd l0 0) (rd l0 1) (rd l0 2) (rd l0 3) x8_1 (wrap64 (x9_2 + 1))))))) = some (r1, r2) := by rw [if_neg (show ¬ (false = true) by decide)] at H; exact H
              clear H; have H := H1; clear H1
              by_cases c12 : (wrap64 ((wrap64 ((wrap64 ((rd l0 0) * x8_1)) * x8_1)) + (wrap64 ((wrap64 ((rd l0 1) * x9_2)) * x9_2)))) = 0
              ·rw [if_pos c12] at H; have c12b0 := beq_iff_eq.mpr c12; have c12b1 := bne_eq_false_iff_eq.mpr c12; clear c12; obtain ⟨y189, hyy⟩ : ∃ y_ : List Int, y_ = (([x8_1, x9_2, 0, 0] : List Int)) := ⟨_, rfl⟩
               replace H : ((impl_plain.f kj8 y189).bind fun t192 => (some (t192, true))) = some (r1, r2) := Sqz.auY
               have Ny189 := Aside0.mk hyy; clear hyy; obtain ⟨t192, A13, H⟩ := Sqz.be H; simp only [Option.some.injEq, Prod.mk.injEq] at H; obtain ⟨rfl, rfl⟩ := H
               go_wp2_with (first | ((with_reducible refine gate_dst (N := 56) rfl ?_); refine Kd.R_lit (Kd.int .i64) _ 3 ?hg (N := 56) ?hd (xs := ([x8_1, x9_2, 0, 0] : List Int)) (inner := [.int .i64 x8_1, .int .i64 x9_2, .int .i64 0, .int .i64 0]) (ok := fun _ => True) (okp := fun _ => True) ?hr ?hp (fun _ hk => hk) trivial (Below.refl _ _) (Nat.le_refl _) (by simp) ?_; (case hd => rfl); (case hg => rfl); (case hr => first | (go_simp; done) | (go_simp; rfl)); (case hp => exact (Reps.one (show Kd.M (Kd.int .i64) _ _ _ x8_1 [.int .i64 x8_1] from rfl) (Reps.one (show Kd.M (Kd.int .i64) _ _ _ x9_2 [.int .i64 x9_2] from rfl) (Reps.one (show Kd.M (Kd.int .i64) _ _ _ 0 [.int .i64 0] from rfl) (Reps.one (show Kd.M (Kd.int .i64) _ _ _ 0 [.int .i64 0] from rfl) (Reps.none _ _)))))); intro v190 w14 ho15 hb hg_ hnew_; clear hg_ hnew_; (first | rw [← Ny189.out] at ho15 | (simp only [Int.reduceToNat] at ho15; rw [← Ny189.out] at ho15)); have HO191 := Aside0.mk (Kd.R_lower ho15 (below_size (Sqz.auHB))); replace HB := Aside0.mk (below_step (Sqz.auHB) hb); clear hb ho15; obtain ⟨Ao16, co16, eo16⟩ := Kd.R_slice HO191.out; subst eo16) | ((with_reducible refine gate_callee (f := 77) rfl ?_); refine goesL_ (some 57) rfl rfl Tryz.func77 (by kernel_rfl) rfl #[.slice Ao16 y189.length co16] rfl Sqz.auM ?_; (with_reducible refine (impl_plain.calls kj8 _ _ y189 t192 _ ?side1 ?side2 A13.out).mono ?_); (case side1 => exact Sqz.mvC ((Kd.R_reads' HO191.out).2.2)); (case side2 => exact (Kd.R_reads' HO191.out).2.1); rintro e w17 ⟨v193, rfl, ho0, hb⟩; refine ⟨_, rfl, ?_⟩; have HO194 := Aside0.mk (Kd.R_lower (Kd.R_new' ho0 (Kd.R_lt ((Sqz.mvR HO191.out)))) (below_size (Sqz.auHB))); replace HO191 := Aside0.mk (Kd.R_elder' ((Sqz.mvR HO191.out)) (Kd.R_base ho0) hb); replace HB := Aside0.mk (below_step (Sqz.auHB) hb); (try clear hb); (try clear ho0)))
               go_ret2
               exact ⟨_, Sqz.auR, (Sqz.mvR (Kd.R_mono HO194.out (fun _ hk => trivial))), Sqz.auHB⟩
              ·rw [if_neg c12] at H; have c12b0 := beq_eq_false_iff_ne.mpr c12; have c12b1 := bne_iff_ne.mpr c12; replace H := Option.bind_eq_some_iff.mp H; obtain ⟨⟨t195, t196⟩, A180, H⟩ := H; replace H : ((impl_ZeroFindC.f kj8 (([(rd l0 2), (rd l0 3), t195] : List Int))).bind fun bt200 => (if bt200.2 = true then (if 2 < (bt200.1.length : Int) then (if 0 < (bt200.1.length : Int) then (if 1 < (bt200.1.length : Int) then ((impl_plain.f kj8 (([wrap64 (x8_1 * (rd bt200.1 2)), wrap64 (x9_2 * (rd bt200.1 2)), wrap64 (t196 * (rd bt200.1 0)), wrap64 (t196 * (rd bt200.1 1))] : List Int))).bind fun t211 => (some (t211, true))) else (none)) else (none)) else (none)) else (impl_zeroOfFour.l1 kj8 (rd l0 0) (rd l0 1) (rd l0 2) (rd l0 3) x8_1 (wrap64 (x9_2 + 1))))) = some (r1, r2) := H; have A18 := Aside0.mk A180; clear A180; obtain ⟨y197, hyy⟩ : ∃ y_ : List Int, y_ = (([(rd l0 2), (rd l0 3), t195] : List Int)) := ⟨_, rfl⟩
               replace H : ((impl_ZeroFindC.f kj8 y197).bind fun bt200 => (if bt200.2 = true then (if 2 < (bt200.1.length : Int) then (if 0 < (bt200.1.length : Int) then (if 1 < (bt200.1.length : Int) then ((impl_plain.f kj8 (([wrap64 (x8_1 * (rd bt200.1 2)), wrap64 (x9_2 * (rd bt200.1 2)), wrap64 (t196 * (rd bt200.1 0)), wrap64 (t196 * (rd bt200.1 1))] : List Int))).bind fun t211 => (some (t211, true))) else (none)) else (none)) else (none)) else (impl_zeroOfFour.l1 kj8 (rd l0 0) (rd l0 1) (rd l0 2) (rd l0 3) x8_1 (wrap64 (x9_2 + 1))))) = some (r1, r2) := Sqz.auY
               have Ny197 := Aside0.mk hyy; clear hyy; replace H := Option.bind_eq_some_iff.mp H; obtain ⟨⟨t200, t201⟩, A190, H⟩ := H; replace H : (if t201 = true then (if 2 < (t200.length : Int) then (if 0 < (t200.length : Int) then (if 1 < (t200.length : Int) then ((impl_plain.f kj8 (([wrap64 (x8_1 * (rd t200 2)), wrap64 (x9_2 * (rd t200 2)), wrap64 (t196 * (rd t200 0)), wrap64 (t196 * (rd t200 1))] : List Int))).bind fun t211 => (some (t211, true))) else (none)) else (none)) else (none)) else (impl_zeroOfFour.l1 kj8 (rd l0 0) (rd l0 1) (rd l0 2) (rd l0 3) x8_1 (wrap64 (x9_2 + 1)))) = some (r1, r2) := H; have A19 := Aside0.mk A190; clear A190
               by_cases c20 : t201 = true
               ·subst c20; have H1 : (if 2 < (t200.length : Int) then (if 0 < (t200.length : Int) then (if 1 < (t200.length : Int) then ((impl_plain.f kj8 (([wrap64 (x8_1 * (rd t200 2)), wrap64 (x9_2 * (rd t200 2)), wrap64 (t196 * (rd t200 0)), wrap64 (t196 * (rd t200 1))] : List Int))).bind fun t211 => (some (t211, true))) else (none)) else (none)) else (none)) = some (r1, r2) := by rw [if_pos rfl] at H; exact H
                clear H; have H := H1; clear H1
                by_cases c21 : 2 < (t200.length : Int)
                ·rw [if_pos c21] at H; have c21b0 := decide_eq_true c21; have c21b1 : decide (2 < t200.length) = true := decide_eq_true (by omega); clear c21
                 by_cases c22 : 0 < (t200.length : Int)
                 ·rw [if_pos c22] at H; have c22b0 := decide_eq_true c22; have c22b1 : decide (0 < t200.length) = true := decide_eq_true (by omega); clear c22
                  by_cases c23 : 1 < (t200.length : Int)
                  ·rw [if_pos c23] at H; have c23b0 := decide_eq_true c23; have c23b1 : decide (1 < t200.length) = true := decide_eq_true (by omega); clear c23; obtain ⟨y208, hyy⟩ : ∃ y_ : List Int, y_ = (([wrap64 (x8_1 * (rd t200 2)), wrap64 (x9_2 * (rd t200 2)), wrap64 (t196 * (rd t200 0)), wrap64 (t196 * (rd t200 1))] : List Int)) := ⟨_, rfl⟩
                   replace H : ((impl_plain.f kj8 y208).bind fun t211 => (some (t211, true))) = some (r1, r2) := Sqz.auY
                   have Ny208 := Aside0.mk hyy; clear hyy; obtain ⟨t211, A24, H⟩ := Sqz.be H; simp only [Option.some.injEq, Prod.mk.injEq] at H; obtain ⟨rfl, rfl⟩ := H
                   try go_wp2_with (first | ((with_reducible refine gate_callee (f := 61) rfl ?_); refine goesL_ (some 60) rfl rfl Tryz.func61 (by kernel_rfl) rfl #[.int .i64 (wrap64 ((wrap64 ((wrap64 ((rd l0 0) * x8_1)) * x8_1)) + (wrap64 ((wrap64 ((rd l0 1) * x9_2)) * x9_2))))] rfl Sqz.auM ?_; (with_reducible refine (impl_coreOf.calls kj8 (wrap64 ((wrap64 ((wrap64 ((rd l0 0) * x8_1)) * x8_1)) + (wrap64 ((wrap64 ((rd l0 1) * x9_2)) * x9_2)))) t195 t196 _ A18.out).mono ?_); rintro e w25 ⟨rfl, hb⟩; refine ⟨_, rfl, ?_⟩; replace HB := Aside0.mk (below_step (Sqz.auHB) hb); (try clear hb)) | ((with_reducible refine gate_dst (N := 67) rfl ?_); refine Kd.R_lit (Kd.int .i64) _ 3 ?hg (N := 67) ?hd (xs := ([(rd l0 2), (rd l0 3), t195] : List Int)) (inner := [.int .i64 (rd l0 2), .int .i64 (rd l0 3), .int .i64 t195]) (ok := fun _ => True) (okp := fun _ => True) ?hr ?hp (fun _ hk => hk) trivial (Below.refl _ _) (Nat.le_refl _) (by simp) ?_; (case hd => rfl); (case hg => rfl); (case hr => first | (go_simp; done) | (go_simp; rfl)); (case hp => exact (Reps.one (show Kd.M (Kd.int .i64) _ _ _ (rd l0 2) [.int .i64 (rd l0 2)] from rfl) (Reps.one (show Kd.M (Kd.int .i64) _ _ _ (rd l0 3) [.int .i64 (rd l0 3)] from rfl) (Reps.one (show Kd.M (Kd.int .i64) _ _ _ t195 [.int .i64 t195] from rfl) (Reps.none _ _))))); intro v198 w26 ho27 hb hg_ hnew_; clear hg_ hnew_; (first | rw [← Ny197.out] at ho27 | (simp only [Int.reduceToNat] at ho27; rw [← Ny197.out] at ho27)); have HO199 := Aside0.mk (Kd.R_lower ho27 (below_size (Sqz.auHB))); replace HB := Aside0.mk (below_step (Sqz.auHB) hb); clear hb ho27; obtain ⟨Ao28, co28, eo28⟩ := Kd.R_slice HO199.out; subst eo28) | ((with_reducible refine gate_callee (f := 37) rfl ?_); refine goesL_ (some 68) rfl rfl Tryz.func37 (by kernel_rfl) rfl #[.slice Ao28 y197.length co28] rfl Sqz.auM ?_; (with_reducible refine (impl_ZeroFindC.calls kj8 _ _ y197 t200 true _ ?side1 ?side2 A19.out).mono ?_); (case side1 => exact Sqz.mvC ((Kd.R_reads' HO199.out).2.2)); (case side2 => exact (Kd.R_reads' HO199.out).2.1); rintro e w29 ⟨v202, rfl, ho0, hb⟩; refine ⟨_, rfl, ?_⟩; have HO203 := Aside0.mk (Kd.R_lower (Kd.R_new' ho0 (Kd.R_lt ((Sqz.mvR HO199.out)))) (below_size (Sqz.auHB))); replace HO199 := Aside0.mk (Kd.R_elder' ((Sqz.mvR HO199.out)) (Kd.R_base ho0) hb); replace HB := Aside0.mk (below_step (Sqz.auHB) hb); (try clear hb); (try clear ho0)))
                   have n0_ := Aside0.mk (Kd.R_drew HO199.out); have n1_ := Aside0.mk (Kd.R_drew HO203.out); have n2_ := Aside0.mk (below_drew1 HB.out); clear HO199; clear HO203; clear HB; have HO199 := n0_; have HO203 := n1_; have HB := n2_; clear n0_ n1_ n2_; obtain ⟨Ao31, co31, eo31⟩ := Kd.R_slice HO203.out
                   (first | subst eo31 | (injection eo31 with f1_ f2_ f3_; have f4_ := f1_.symm; have f5_ := f3_.symm; clear f1_ f2_ f3_; subst f4_; subst f5_))
                   have p204 : 0 ≤ (2 : Int) := (by omega); have q204 : 2 < (t200.length : Int) := Sqz.od; obtain ⟨ad204, e204, hx204_0⟩ := Kd.at_int (Kd.R_reads' HO203.out).2.2 2 p204 q204; cases e204; (try simp only [show (2 : Int).toNat = 2 from rfl, Nat.reduceMul, Nat.reduceEqDiff, Go.Addr.add, ↓reduceIte] at hx204_0); have qi204 : (2 < t200.length) = True := eq_true (by omega); (try rw [show ((2 : Int)).toNat = 2 from rfl] at hx204_0); replace p204 := eq_true p204; replace q204 := eq_true q204; have p205 : 0 ≤ (2 : Int) := (by omega); have q205 : 2 < (t200.length : Int) := Sqz.od; obtain ⟨ad205, e205, hx205_0⟩ := Kd.at_int (Kd.R_reads' HO203.out).2.2 2 p205 q205; obtain rfl : ad204 = ad205 := (by injection e205); (try simp only [show (2 : Int).toNat = 2 from rfl, Nat.reduceMul, Nat.reduceEqDiff, Go.Addr.add, ↓reduceIte] at hx205_0); have qi205 : (2 < t200.length) = True := eq_true (by omega); (try rw [show ((2 : Int)).toNat = 2 from rfl] at hx205_0); replace p205 := eq_true p205; replace q205 := eq_true q205; have p206 : 0 ≤ (0 : Int) := (by omega); have q206 : 0 < (t200.length : Int) := Sqz.od; obtain ⟨ad206, e206, hx206_0⟩ := Kd.at_int (Kd.R_reads' HO203.out).2.2 0 p206 q206; obtain rfl : ad204 = ad206 := (by injection e206); have qi206 : (0 < t200.length) = True := eq_true (by omega); (try rw [show ((0 : Int)).toNat = 0 from rfl] at hx206_0); (try rw [Addr.add_zero'] at hx206_0); replace p206 := eq_true p206; replace q206 := eq_true q206; have p207 : 0 ≤ (1 : Int) := (by omega); have q207 : 1 < (t200.length : Int) := Sqz.od; obtain ⟨ad207, e207, hx207_0⟩ := Kd.at_int (Kd.R_reads' HO203.out).2.2 1 p207 q207; obtain rfl : ad204 = ad207 := (by injection e207); (try simp only [show (1 : Int).toNat = 1 from rfl, Nat.reduceMul, Nat.reduceEqDiff, Go.Addr.add, ↓reduceIte] at hx207_0); have qi207 : (1 < t200.length) = True := eq_true (by omega); (try rw [show ((1 : Int)).toNat = 1 from rfl] at hx207_0); replace p207 := eq_true p207; replace q207 := eq_true q207; refine start_ (n := 24) (S := fun w' => w'.cell? ⟨ad204.block, ad204.off + 2, none⟩ = some (.int .i64 (rd t200 2)) ∧ w'.cell? ⟨ad204.block, ad204.off + 2, none⟩ = some (.int .i64 (rd t200 2)) ∧ w'.cell? ad204 = some (.int .i64 (rd t200 0)) ∧ w'.cell? ⟨ad204.block, ad204.off + 1, none⟩ = some (.int .i64 (rd t200 1))) (ds := []) #[false, false, false, false, false, false, false, false, false, false, false, false, false, false, false, false, false, false, false, false, false, false, false, false] (by kernel_rfl) rfl rfl ⟨hx204_0, hx205_0, hx206_0, hx207_0⟩ (fun hHeld => ?_); refine with_tabW impl_zeroOfFour.tab15 impl_zeroOfFour.bits15 (fun HT_ HW_ => ?_); generalize w29.drew = w30 at HO199 HO203 HB hx204_0 hx205_0 hx206_0 hx207_0 hHeld ⊢; refine Sqz.pu 0 (some 72) ?_; refine Sqz.pu 1 (some 73) ?_; refine Sqz.pu 2 (some 74) ?_; refine Sqz.pu 5 (some 77) ?_; refine Sqz.pu 6 (some 78) ?_; refine Sqz.pu 7 (some 79) ?_; refine Sqz.pu 10 (some 82) ?_; refine Sqz.pu 11 (some 83) ?_; refine Sqz.pu 12 (some 84) ?_; refine Sqz.pu 15 (some 87) ?_; refine Sqz.pu 16 (some 88) ?_; refine Sqz.pu 17 (some 89) ?_; refine Sqz.ta4 3 (some 75) ?_; refine Sqz.pu 4 (some 76) ?_; refine Sqz.ta4 8 (some 80) ?_; refine Sqz.pu 9 (some 81) ?_; refine Sqz.ta4 13 (some 85) ?_; refine Sqz.pu 14 (some 86) ?_; refine Sqz.ta4 18 (some 90) ?_; refine Sqz.pu 19 (some 91) ?_
                   refine one_ (i := 20) (N := some 92) #[true, true, true, true, true, true, true, true, true, true, true, true, true, true, true, true, true, true, true, true, true, false, false, false] rfl rfl (one_of HT_.out (by kernel_rfl)) (by decide) (fun K hK => ?_); refine Kd.R_lit_step (Kd.int .i64) _ 3 ?hg (N := 92) ?hd (xs := ([wrap64 (x8_1 * (rd t200 2)), wrap64 (x9_2 * (rd t200 2)), wrap64 (t196 * (rd t200 0)), wrap64 (t196 * (rd t200 1))] : List Int)) (inner := [.int .i64 (wrap64 (x8_1 * (rd t200 2))), .int .i64 (wrap64 (x9_2 * (rd t200 2))), .int .i64 (wrap64 (t196 * (rd t200 0))), .int .i64 (wrap64 (t196 * (rd t200 1)))]) (ok := fun _ => True) (okp := fun _ => True) ?hr ?hp (fun _ hk => hk) trivial (Below.refl _ _) (Nat.le_refl _) (by simp) ?_; (case hd => rfl); (case hg => rfl); (case hr => first | (go_simp; done) | (go_simp; rfl)); (case hp => exact (Reps.one (show Kd.M (Kd.int .i64) _ _ _ (wrap64 (x8_1 * (rd t200 2))) [.int .i64 (wrap64 (x8_1 * (rd t200 2)))] from rfl) (Reps.one (show Kd.M (Kd.int .i64) _ _ _ (wrap64 (x9_2 * (rd t200 2))) [.int .i64 (wrap64 (x9_2 * (rd t200 2)))] from rfl) (Reps.one (show Kd.M (Kd.int .i64) _ _ _ (wrap64 (t196 * (rd t200 0))) [.int .i64 (wrap64 (t196 * (rd t200 0)))] from rfl) (Reps.one (show Kd.M (Kd.int .i64) _ _ _ (wrap64 (t196 * (rd t200 1))) [.int .i64 (wrap64 (t196 * (rd t200 1)))] from rfl) (Reps.none _ _)))))); intro v209 w32 ho33 hb hg_ hnew_; have HS0_ := (hb.cell (World.block_lt_of_cell? _ _ (hHeld.1))).trans (hHeld.1); have HS1_ := (hb.cell (World.block_lt_of_cell? _ _ (hHeld.2.1))).trans (hHeld.2.1); have HS2_ := (hb.cell (World.block_lt_of_cell? _ _ (hHeld.2.2.1))).trans (hHeld.2.2.1); have HS3_ := (hb.cell (World.block_lt_of_cell? _ _ (hHeld.2.2.2))).trans (hHeld.2.2.2); clear hg_ hnew_
                   (first | rw [← Ny208.out] at ho33 | (simp only [Int.reduceToNat] at ho33; rw [← Ny208.out] at ho33))
                   have n0_ := Aside0.mk (Kd.R_elder' ((Sqz.mvR HO199.out)) (Kd.R_base ho33) hb); have n1_ := Aside0.mk (Kd.R_elder' ((Sqz.mvR HO203.out)) (Kd.R_base ho33) hb); have n2_ := Aside0.mk (Kd.R_lower (Kd.R_new' (Kd.R_new' ho33 (Kd.R_lt ((Sqz.mvR HO199.out)))) (Kd.R_lt ((Sqz.mvR HO203.out)))) (below_size (Sqz.auHB))); have n3_ := Aside0.mk (below_step (Sqz.auHB) hb); clear HO199; clear HO203; clear HB; have HO199 := n0_; have HO203 := n1_; have HO210 := n2_; have HB := n3_; clear n0_ n1_ n2_ n3_; clear hb ho33; obtain ⟨Ao34, co34, eo34⟩ := Kd.R_slice HO210.out
                   (first | subst eo34 | (injection eo34 with f1_ f2_ f3_; have f4_ := f1_.symm; have f5_ := f3_.symm; clear f1_ f2_ f3_; subst f4_; subst f5_))
                   refine hK.out _ _ ⟨HS0_, HS1_, HS2_, HS3_⟩ (fun hHeld => ?_); clear hK K; refine norm_ (a' := ?_) ?_ ?_; rotate_left
                   ·show Act.put _ (some 92) _ = _
                    simp only [Act.put, List.setIfInBounds_toArray, List.set_cons_zero, List.set_cons_succ, i64_w, i32_w]; rfl
                   refine one_ (i := 21) (N := some 93) #[true, true, true, true, true, true, true, true, true, true, true, true, true, true, true, true, true, true, true, true, true, true, false, false] rfl rfl (one_of HT_.out (by kernel_rfl)) (by decide) (fun K hK => ?_); refine goes_ Tryz.func77 (by kernel_rfl) rfl #[.slice Ao34 y208.length co34] (by rfl) rfl rfl Sqz.auM ?_
                   with_reducible refine (impl_plain.calls kj8 _ _ y208 t211 _ ?side1 ?side2 A24.out).mono ?_
                   (case side1 => exact Sqz.mvC ((Kd.R_reads' HO210.out).2.2))
                   (case side2 => exact (Kd.R_reads' HO210.out).2.1)
                   rintro e w35 ⟨v212, rfl, ho0, hb⟩; have HS0_ := (hb.cell (World.block_lt_of_cell? _ _ (hHeld.1))).trans (hHeld.1); have HS1_ := (hb.cell (World.block_lt_of_cell? _ _ (hHeld.2.1))).trans (hHeld.2.1); have HS2_ := (hb.cell (World.block_lt_of_cell? _ _ (hHeld.2.2.1))).trans (hHeld.2.2.1); have HS3_ := (hb.cell (World.block_lt_of_cell? _ _ (hHeld.2.2.2))).trans (hHeld.2.2.2); refine ⟨_, rfl, ?_⟩; have n0_ := Aside0.mk (Kd.R_elder' ((Sqz.mvR HO199.out)) (Kd.R_base ho0) hb); have n1_ := Aside0.mk (Kd.R_elder' ((Sqz.mvR HO203.out)) (Kd.R_base ho0) hb); have n2_ := Aside0.mk (Kd.R_elder' ((Sqz.mvR HO210.out)) (Kd.R_base ho0) hb); have n3_ := Aside0.mk (Kd.R_lower (Kd.R_new' (Kd.R_new' (Kd.R_new' ho0 (Kd.R_lt ((Sqz.mvR HO199.out)))) (Kd.R_lt ((Sqz.mvR HO203.out)))) (Kd.R_lt ((Sqz.mvR HO210.out)))) (below_size (Sqz.auHB))); have n4_ := Aside0.mk (below_step (Sqz.auHB) hb); clear HO199; clear HO203; clear HO210; clear HB; have HO199 := n0_; have HO203 := n1_; have HO210 := n2_; have HO213 := n3_; have HB := n4_; clear n0_ n1_ n2_ n3_ n4_; (try clear hb); (try clear hb2); (try clear hk); (try clear hi); (try clear ho0); refine hK.out _ _ ⟨HS0_, HS1_, HS2_, HS3_⟩ (fun hHeld => ?_); clear hK K; refine norm_ (a' := ?_) ?_ ?_; rotate_left
                   ·show Act.put _ (some 93) _ = _
                    simp only [Act.put, List.setIfInBounds_toArray, List.set_cons_zero, List.set_cons_succ, i64_w, i32_w]; rfl
                   refine Sqz.pu 22 (some 2) ?_; refine Sqz.pu 23 (some 3) ?_
                   refine done_ (done_of HT_.out (by kernel_rfl)) ?_
                   try go_wp2
                   go_ret2
                   exact ⟨_, Sqz.auR, (Sqz.mvR (Kd.R_mono HO213.out (fun _ hk => trivial))), Sqz.auHB⟩
                  ·rw [if_neg c23] at H; exact absurd H (by simp)
                 ·rw [if_neg c22] at H; exact absurd H (by simp)
                ·rw [if_neg c21] at H; exact absurd H (by simp)
               ·replace c20 := Bool.eq_false_iff.mpr c20; subst c20; have H1 : (impl_zeroOfFour.l1 kj8 (rd l0 0) (rd l0 1) (rd l0 2) (rd l0 3) x8_1 (wrap64 (x9_2 + 1))) = some (r1, r2) := by rw [if_neg (show ¬ (false = true) by decide)] at H; exact H
                clear H; have H := H1; clear H1; have H' := Aside0.mk H; clear H
                go_wp2_with (first | ((with_reducible refine gate_callee (f := 61) rfl ?_); refine goesL_ (some 60) rfl rfl Tryz.func61 (by kernel_rfl) rfl #[.int .i64 (wrap64 ((wrap64 ((wrap64 ((rd l0 0) * x8_1)) * x8_1)) + (wrap64 ((wrap64 ((rd l0 1) * x9_2)) * x9_2))))] rfl Sqz.auM ?_; (with_reducible refine (impl_coreOf.calls kj8 (wrap64 ((wrap64 ((wrap64 ((rd l0 0) * x8_1)) * x8_1)) + (wrap64 ((wrap64 ((rd l0 1) * x9_2)) * x9_2)))) t195 t196 _ A18.out).mono ?_); rintro e w36 ⟨rfl, hb⟩; refine ⟨_, rfl, ?_⟩; replace HB := Aside0.mk (below_step (Sqz.auHB) hb); (try clear hb)) | ((with_reducible refine gate_dst (N := 67) rfl ?_); refine Kd.R_lit (Kd.int .i64) _ 3 ?hg (N := 67) ?hd (xs := ([(rd l0 2), (rd l0 3), t195] : List Int)) (inner := [.int .i64 (rd l0 2), .int .i64 (rd l0 3), .int .i64 t195]) (ok := fun _ => True) (okp := fun _ => True) ?hr ?hp (fun _ hk => hk) trivial (Below.refl _ _) (Nat.le_refl _) (by simp) ?_; (case hd => rfl); (case hg => rfl); (case hr => first | (go_simp; done) | (go_simp; rfl)); (case hp => exact (Reps.one (show Kd.M (Kd.int .i64) _ _ _ (rd l0 2) [.int .i64 (rd l0 2)] from rfl) (Reps.one (show Kd.M (Kd.int .i64) _ _ _ (rd l0 3) [.int .i64 (rd l0 3)] from rfl) (Reps.one (show Kd.M (Kd.int .i64) _ _ _ t195 [.int .i64 t195] from rfl) (Reps.none _ _))))); intro v198 w37 ho38 hb hg_ hnew_; clear hg_ hnew_; (first | rw [← Ny197.out] at ho38 | (simp only [Int.reduceToNat] at ho38; rw [← Ny197.out] at ho38)); have HO199 := Aside0.mk (Kd.R_lower ho38 (below_size (Sqz.auHB))); replace HB := Aside0.mk (below_step (Sqz.auHB) hb); clear hb ho38; obtain ⟨Ao39, co39, eo39⟩ := Kd.R_slice HO199.out; subst eo39) | ((with_reducible refine gate_callee (f := 37) rfl ?_); refine goesL_ (some 68) rfl rfl Tryz.func37 (by kernel_rfl) rfl #[.slice Ao39 y197.length co39] rfl Sqz.auM ?_; (with_reducible refine (impl_ZeroFindC.calls kj8 _ _ y197 t200 false _ ?side1 ?side2 A19.out).mono ?_); (case side1 => exact Sqz.mvC ((Kd.R_reads' HO199.out).2.2)); (case side2 => exact (Kd.R_reads' HO199.out).2.1); rintro e w40 ⟨v202, rfl, ho0, hb⟩; refine ⟨_, rfl, ?_⟩; have HO203 := Aside0.mk (Kd.R_lower (Kd.R_new' ho0 (Kd.R_lt ((Sqz.mvR HO199.out)))) (below_size (Sqz.auHB))); replace HO199 := Aside0.mk (Kd.R_elder' ((Sqz.mvR HO199.out)) (Kd.R_base ho0) hb); replace HB := Aside0.mk (below_step (Sqz.auHB) hb); (try clear hb); (try clear ho0)))
                go_roundg kj8
                case measure => have := HK1.out; have := HK2.out; have := HJ8.out; omega
                case rel => exact ⟨(wrap64 (x9_2 + 1)), Sqz.auS, H', ⟨by have := HK1.out; have := HK2.out; have := HJ8.out; omega⟩, ⟨Sqz.auHB⟩⟩
          ·rw [if_neg c8] at H; have c8b0 := decide_eq_false c8; clear c8; have H' := Aside0.mk H; clear H; go_wp2
           go_roundg k2
           case measure => have := HK1.out; have := HK2.out; omega
           case rel => exact ⟨(wrap64 (x8_1 + 1)), Sqz.auS, H', ⟨by have := HK1.out; have := HK2.out; omega⟩, ⟨Sqz.auHB⟩⟩
       ·rw [if_neg c7] at H; have c7b0 := decide_eq_false c7; clear c7; simp only [Option.some.injEq, Prod.mk.injEq] at H; obtain ⟨rfl, rfl⟩ := H; go_wp2; go_ret2
        exact ⟨_, Sqz.auR, by first | exact Kd.R_nil _ _ _ _ _ | exact Kd.N_nil _ _ _ _ _ | exact Kd.V_nil _ _ _ _ _ | exact Kd.Q_nil _ _ _ _ _ | exact Kd.S_nil _ _ _ _ _, Sqz.auHB⟩
    ·rw [if_neg c5] at H; exact absurd H (by simp)
   ·rw [if_neg c4] at H; exact absurd H (by simp)
  ·rw [if_neg c3] at H; exact absurd H (by simp)
 ·rw [if_neg c2] at H; exact absurd H (by simp)

end

end Go.Proofs.YtacfcoilmdhgnaaGreatDoor.PFnExecuteZero
