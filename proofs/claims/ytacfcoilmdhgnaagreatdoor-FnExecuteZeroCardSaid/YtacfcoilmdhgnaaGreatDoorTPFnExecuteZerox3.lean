/- A function's Lean twin and its walk, written by a program of this session. -/
import Derived.Test.YtacfcoilmdhgnaaGreatDoorTPFnExecuteZerox0
import Derived.Test.YtacfcoilmdhgnaaGreatDoorTPFnExecuteZerox1
import Derived.Test.YtacfcoilmdhgnaaGreatDoorTPFnExecuteZerox2
namespace Go.Proofs.YtacfcoilmdhgnaaGreatDoor.PFnExecuteZero
open Go.RowKit Go.Proofs.YtacfcoilmdhgnaaGreatDoorW.PrintWords Go.Proofs.YtacfcoilmdhgnaaGreatDoorW.PrintLast Go.Proofs.YtacfcoilmdhgnaaGreatDoorW.PrintMore
attribute [local go_sem] max2_int min2_int max_two min_two max_three min_three max_four min_four   -- for this text's walks alone
set_option linter.unusedVariables false
set_option linter.unusedSimpArgs false

/-! ### impl_ZeroNormal: function 78 -/
mutual
def impl_ZeroNormal.j0 : Nat → List Int → Bool → Option (List Int × List Int × Bool)
 | 0, _, _ => none
 | k + 1, x0, x21 => if x21 = true then (some (([] : List Int), ([] : List Int), false)) else ((slices_Clone_int_int.f x0).bind fun t136 => (impl_ZeroNormal.l0 k t136 (([1, 1, 1] : List Int)) x0 (x0.length : Int) 0))
def impl_ZeroNormal.l0 : Nat → List Int → List Int → List Int → Int → Int → Option (List Int × List Int × Bool)
 | 0, _, _, _, _, _ => none
 | k + 1, x5, x6, x25, x26, x27 => if x27 < x26 then (if 0 ≤ x27 then (if x27 < (x25.length : Int) then ((impl_coreOf.f k (rd x25 x27)).bind fun bt143 => (if x27 < (x5.length : Int) then (if 0 ≤ (Int.tmod (wrap64 (x27 + 1)) 3) then (if (Int.tmod (wrap64 (x27 + 1)) 3) < (x6.length : Int) then ((some (x6.set ((Int.tmod (wrap64 (x27 + 1)) 3) : Int).toNat (wrap64 ((rd x6 (Int.tmod (wrap64 (x27 + 1)) 3)) * bt143.2)) : List Int)).bind fun y147 => (if 0 ≤ (Int.tmod (wrap64 (x27 + 2)) 3) then (if (Int.tmod (wrap64 (x27 + 2)) 3) < (x6.length : Int) then (impl_ZeroNormal.l0 k (x5.set (x27 : Int).toNat bt143.1) (y147.set ((Int.tmod (wrap64 (x27 + 2)) 3) : Int).toNat (wrap64 ((rd y147 (Int.tmod (wrap64 (x27 + 2)) 3)) * bt143.2))) x25 x26 (wrap64 (x27 + 1))) else (none)) else (none))) else (none)) else (none)) else (none))) else (none)) else (none)) else (impl_ZeroNormal.l1 k x5 x6)
def impl_ZeroNormal.l1 : Nat → List Int → List Int → Option (List Int × List Int × Bool)
 | 0, _, _ => none
 | k + 1, x5, x6 => (impl_sharedPrime.f k x5).bind fun bt150 => (if bt150.2.2 = 0 then (some (x5, x6, true)) else (if 0 ≤ bt150.1 then (if bt150.1 < (x5.length : Int) then ((some (x5.set (bt150.1 : Int).toNat (wrap64 (Int.tdiv (rd x5 bt150.1) bt150.2.2)) : List Int)).bind fun y154 => (if 0 ≤ bt150.2.1 then (if bt150.2.1 < (x5.length : Int) then ((some (y154.set (bt150.2.1 : Int).toNat (wrap64 (Int.tdiv (rd y154 bt150.2.1) bt150.2.2)) : List Int)).bind fun y156 => (if 0 ≤ (wrap64 ((wrap64 (3 - bt150.1)) - bt150.2.1)) then (if (wrap64 ((wrap64 (3 - bt150.1)) - bt150.2.1)) < (x5.length : Int) then (if (Int.tmod (rd y156 (wrap64 ((wrap64 (3 - bt150.1)) - bt150.2.1))) bt150.2.2) = 0 then (impl_ZeroNormal.l1 k (y156.set ((wrap64 ((wrap64 (3 - bt150.1)) - bt150.2.1)) : Int).toNat (wrap64 (Int.tdiv (rd y156 (wrap64 ((wrap64 (3 - bt150.1)) - bt150.2.1))) bt150.2.2))) x6) else (if (wrap64 ((wrap64 (3 - bt150.1)) - bt150.2.1)) < (x6.length : Int) then (impl_ZeroNormal.l1 k (y156.set ((wrap64 ((wrap64 (3 - bt150.1)) - bt150.2.1)) : Int).toNat (wrap64 ((rd y156 (wrap64 ((wrap64 (3 - bt150.1)) - bt150.2.1))) * bt150.2.2))) (x6.set ((wrap64 ((wrap64 (3 - bt150.1)) - bt150.2.1)) : Int).toNat (wrap64 ((rd x6 (wrap64 ((wrap64 (3 - bt150.1)) - bt150.2.1))) * bt150.2.2)))) else (none))) else (none)) else (none))) else (none)) else (none))) else (none)) else (none)))
end
def impl_ZeroNormal.f (k : Nat) (l0 : List Int) : Option (List Int × List Int × Bool) := (impl_FormValid.f k l0).bind fun t135 => (if t135 = true then (impl_ZeroNormal.j0 k l0 ((l0.length : Int) != 3)) else (impl_ZeroNormal.j0 k l0 true))
set_option maxHeartbeats 8000000 in
set_option maxRecDepth 100000 in
theorem impl_ZeroNormal.calls (k : Nat) (A0 : Option Addr) (c0 : Nat) (l0 : List Int) (r1 : List Int) (r2 : List Int) (r3 : Bool) (w : World) (hr0 : Kd.C (Kd.int .i64) w A0 l0.length l0) (hc0 : l0.length ≤ c0) (h : impl_ZeroNormal.f k l0 = some (r1, r2, r3)) :
  Calls Tryz.prog 78 #[.slice A0 l0.length c0] w fun e w' => ∃ v0_ v1_ : Value, e = .returned (.tuple #[v0_, v1_, .bool r3]) ∧ Kd.R (Kd.int .i64) 3 w' w.heap.size (fun k_ => some k_ ≠ (v1_ : Value).ownBlock) v0_ r1 ∧ Kd.R (Kd.int .i64) 3 w' w.heap.size (fun k_ => some k_ ≠ (v0_ : Value).ownBlock) v1_ r2 ∧ Below w.heap.size w w' := by
 have HR0 := Aside0.mk hr0; have HC0 := Aside0.mk hc0; clear hr0 hc0; have HB := Aside0.mk (Below.refl w.heap.size w); have H : ((impl_FormValid.f k l0).bind fun t135 => (if t135 = true then (impl_ZeroNormal.j0 k l0 ((l0.length : Int) != 3)) else (impl_ZeroNormal.j0 k l0 true))) = some (r1, r2, r3) := h; clear h; have HC2 := Aside0.mk H; clear H
 go_enter Tryz.func78, Tryz.ntmps78
 go_upto_region 1 with (fail)
 go_cut [21] (fun v21 wc => ∃ (kq : Nat) (x21_1 : Bool), v21 = .bool x21_1 ∧ Aside0 (impl_ZeroNormal.j0 kq l0 x21_1 = some (r1, r2, r3)) ∧ Aside0 (kq ≤ k) ∧ Aside0 (Below w.heap.size w wc))
 case first =>
  have H := HC2.out; clear HC2; obtain ⟨t135, A3, H⟩ := Sqz.be H
  by_cases c4 : t135 = true
  ·subst c4; have H1 : (impl_ZeroNormal.j0 k l0 ((l0.length : Int) != 3)) = some (r1, r2, r3) := by rw [if_pos rfl] at H; exact H
   clear H; have H := H1; clear H1; have H' := Aside0.mk H; clear H
   go_wp2_with (first | ((with_reducible refine gate_callee (f := 59) rfl ?_); refine goesL_ (some 15) rfl rfl Tryz.func59 (by kernel_rfl) rfl #[.slice A0 l0.length c0] rfl Sqz.auM ?_; (with_reducible refine (impl_FormValid.calls k _ _ l0 true _ ?side1 ?side2 A3.out).mono ?_); (case side1 => exact Sqz.mvC ((Kd.C_below HR0.out HB.out))); (case side2 => exact HC0.out); rintro e w5 ⟨rfl, hb⟩; refine ⟨_, rfl, ?_⟩; replace HB := Aside0.mk (below_step (Sqz.auHB) hb); (try clear hb)))
   go_meet
   case rel => exact ⟨_, (((l0.length : Int) != 3)), Sqz.auS, H', ⟨Sqz.auN⟩, ⟨Sqz.auHB⟩⟩
  ·replace c4 := Bool.eq_false_iff.mpr c4; subst c4; have H1 : (impl_ZeroNormal.j0 k l0 true) = some (r1, r2, r3) := by rw [if_neg (show ¬ (false = true) by decide)] at H; exact H
   clear H; have H := H1; clear H1; have H' := Aside0.mk H; clear H
   go_wp2_with (first | ((with_reducible refine gate_callee (f := 59) rfl ?_); refine goesL_ (some 15) rfl rfl Tryz.func59 (by kernel_rfl) rfl #[.slice A0 l0.length c0] rfl Sqz.auM ?_; (with_reducible refine (impl_FormValid.calls k _ _ l0 false _ ?side1 ?side2 A3.out).mono ?_); (case side1 => exact Sqz.mvC ((Kd.C_below HR0.out HB.out))); (case side2 => exact HC0.out); rintro e w6 ⟨rfl, hb⟩; refine ⟨_, rfl, ?_⟩; replace HB := Aside0.mk (below_step (Sqz.auHB) hb); (try clear hb)))
   go_meet
   case rel => exact ⟨_, (true), Sqz.auS, H', ⟨Sqz.auN⟩, ⟨Sqz.auHB⟩⟩
 case rest =>
  clear HC2
  try clear p2
  try clear c4
  try clear c5
  obtain ⟨kq, x21_1, rfl, HA, HJ1, HB⟩ := hcut; cases kq with
  | zero => exact absurd HA.out (by simp [impl_ZeroNormal.j0])
  | succ kj1 =>
   have H := HA.out; clear HA; simp only [impl_ZeroNormal.j0] at H
   by_cases c7 : x21_1 = true
   ·subst c7; have H1 : (some (([] : List Int), ([] : List Int), false)) = some (r1, r2, r3) := by rw [if_pos rfl] at H; exact H
    clear H; have H := H1; clear H1; simp only [Option.some.injEq, Prod.mk.injEq] at H; obtain ⟨rfl, rfl, rfl⟩ := H; go_wp2
    go_ret3
    exact ⟨_, _, Sqz.auR, by first | exact Kd.R_nil _ _ _ _ _ | exact Kd.N_nil _ _ _ _ _ | exact Kd.V_nil _ _ _ _ _ | exact Kd.Q_nil _ _ _ _ _ | exact Kd.S_nil _ _ _ _ _, by first | exact Kd.R_nil _ _ _ _ _ | exact Kd.N_nil _ _ _ _ _ | exact Kd.V_nil _ _ _ _ _ | exact Kd.Q_nil _ _ _ _ _ | exact Kd.S_nil _ _ _ _ _, Sqz.auHB⟩
   ·replace c7 := Bool.eq_false_iff.mpr c7; subst c7; have H1 : ((slices_Clone_int_int.f l0).bind fun t136 => (impl_ZeroNormal.l0 kj1 t136 (([1, 1, 1] : List Int)) l0 (l0.length : Int) 0)) = some (r1, r2, r3) := by rw [if_neg (show ¬ (false = true) by decide)] at H; exact H
    clear H; have H := H1; clear H1; obtain ⟨t136, A8, H⟩ := Sqz.be H; obtain ⟨y139, hyy⟩ : ∃ y_ : List Int, y_ = (([1, 1, 1] : List Int)) := ⟨_, rfl⟩
    replace H : (impl_ZeroNormal.l0 kj1 t136 y139 l0 (l0.length : Int) 0) = some (r1, r2, r3) := Sqz.auY
    have Ny139 := Aside0.mk hyy; clear hyy; have H' := Aside0.mk H; clear H
    go_wp2_with (first | ((with_reducible refine gate_callee (f := 87) rfl ?_); refine goesL_ (some 23) rfl rfl Tryz.func87 (by kernel_rfl) rfl #[.slice A0 l0.length c0] rfl Sqz.auM ?_; (with_reducible refine (slices_Clone_int_int.calls _ _ l0 t136 _ ?side1 ?side2 A8.out).mono ?_); (case side1 => exact Sqz.mvC ((Kd.C_below HR0.out HB.out))); (case side2 => exact HC0.out); rintro e w9 ⟨v137, rfl, ho0, hb⟩; refine ⟨_, rfl, ?_⟩; have HO138 := Aside0.mk (Kd.R_lower ho0 (below_size (Sqz.auHB))); replace HB := Aside0.mk (below_step (Sqz.auHB) hb); (try clear hb); (try clear ho0)) | ((with_reducible refine gate_dst (N := 24) rfl ?_); (try (refine gate_guard (by rfl) ?_; dsimp only)); refine Kd.R_lit (Kd.int .i64) _ 3 ?hg (N := 24) ?hd (xs := ([1, 1, 1] : List Int)) (inner := [.int .i64 1, .int .i64 1, .int .i64 1]) (ok := fun _ => True) (okp := fun _ => True) ?hr ?hp (fun _ hk => hk) trivial (Below.refl _ _) (Nat.le_refl _) (by simp) ?_; (case hd => rfl); (case hg => rfl); (case hr => first | (go_simp; done) | (go_simp; rfl)); (case hp => exact (Reps.one (show Kd.M (Kd.int .i64) _ _ _ 1 [.int .i64 1] from rfl) (Reps.one (show Kd.M (Kd.int .i64) _ _ _ 1 [.int .i64 1] from rfl) (Reps.one (show Kd.M (Kd.int .i64) _ _ _ 1 [.int .i64 1] from rfl) (Reps.none _ _))))); intro v140 w10 ho11 hb hg_ hnew_; clear hg_ hnew_; (first | rw [← Ny139.out] at ho11 | (simp only [Int.reduceToNat] at ho11; rw [← Ny139.out] at ho11)); have HO141 := Aside0.mk (Kd.R_lower (Kd.R_new' ho11 (Kd.R_lt ((Sqz.mvR HO138.out)))) (below_size (Sqz.auHB))); replace HO138 := Aside0.mk (Kd.R_elder' ((Sqz.mvR HO138.out)) (Kd.R_base ho11) hb); replace HB := Aside0.mk (below_step (Sqz.auHB) hb); clear hb ho11))
    go_loopg [27] kj1 (fun kq v27 w' => ∃ (x5_2 : List Int) (x6_2 : List Int) (x27_2 : Int), v27 = .int .i64 x27_2 ∧ Aside0 (impl_ZeroNormal.l0 kq x5_2 x6_2 l0 (l0.length : Int) x27_2 = some (r1, r2, r3)) ∧ Aside0 (kq ≤ kj1) ∧ Aside0 (Kd.R (Kd.int .i64) 3 w' w.heap.size (fun k_ => some k_ ≠ (v140 : Value).ownBlock) v137 x5_2) ∧ Aside0 (Kd.R (Kd.int .i64) 3 w' w.heap.size (fun k_ => some k_ ≠ (v137 : Value).ownBlock) v140 x6_2) ∧ Aside0 (Below w.heap.size w w'))
    case atStart => exact ⟨(t136), (y139), (0), Sqz.auS, H', ⟨Nat.le_refl _⟩, ⟨(Sqz.mvR (Kd.R_mono HO138.out (fun _ hk => (by first | exact hk.2 | exact trivial))))⟩, ⟨(Sqz.mvR (Kd.R_mono HO141.out (fun _ hk => (by first | exact hk.2 | exact trivial))))⟩, ⟨Sqz.auHB⟩⟩
    case round =>
     clear H'
     try clear p2
     try clear c4
     try clear c5
     try clear c7
     try clear c8
     try clear p2
     obtain ⟨x5_2, x6_2, x27_2, rfl, HA, HK2, HO_5, HO_6, HB⟩ := hrel; cases gk with
     | zero => exact absurd HA.out (by simp [impl_ZeroNormal.l0])
     | succ k2 =>
      have H := HA.out; clear HA; simp only [impl_ZeroNormal.l0] at H
      by_cases c12 : x27_2 < (l0.length : Int)
      ·rw [if_pos c12] at H; have c12b0 := decide_eq_true c12; clear c12
       by_cases c13 : 0 ≤ x27_2
       ·rw [if_pos c13] at H; have c13b0 := decide_eq_true c13; clear c13
        by_cases c14 : x27_2 < (l0.length : Int)
        ·rw [if_pos c14] at H; have c14b0 := decide_eq_true c14; clear c14; replace H := Option.bind_eq_some_iff.mp H; obtain ⟨⟨t143, t144⟩, A150, H⟩ := H; replace H : (if x27_2 < (x5_2.length : Int) then (if 0 ≤ (Int.tmod (wrap64 (x27_2 + 1)) 3) then (if (Int.tmod (wrap64 (x27_2 + 1)) 3) < (x6_2.length : Int) then ((some (x6_2.set ((Int.tmod (wrap64 (x27_2 + 1)) 3) : Int).toNat (wrap64 ((rd x6_2 (Int.tmod (wrap64 (x27_2 + 1)) 3)) * t144)) : List Int)).bind fun y147 => (if 0 ≤ (Int.tmod (wrap64 (x27_2 + 2)) 3) then (if (Int.tmod (wrap64 (x27_2 + 2)) 3) < (x6_2.length : Int) then (impl_ZeroNormal.l0 k2 (x5_2.set (x27_2 : Int).toNat t143) (y147.set ((Int.tmod (wrap64 (x27_2 + 2)) 3) : Int).toNat (wrap64 ((rd y147 (Int.tmod (wrap64 (x27_2 + 2)) 3)) * t144))) l0 (l0.length : Int) (wrap64 (x27_2 + 1))) else (none)) else (none))) else (none)) else (none)) else (none)) = some (r1, r2, r3) := H; have A15 := Aside0.mk A150; clear A150
         by_cases c16 : x27_2 < (x5_2.length : Int)
         ·rw [if_pos c16] at H; have c16b0 := decide_eq_true c16; clear c16; obtain ⟨y145, hyy⟩ : ∃ y_ : List Int, y_ = (x5_2.set (x27_2 : Int).toNat t143) := ⟨_, rfl⟩
          replace H : (if 0 ≤ (Int.tmod (wrap64 (x27_2 + 1)) 3) then (if (Int.tmod (wrap64 (x27_2 + 1)) 3) < (x6_2.length : Int) then ((some (x6_2.set ((Int.tmod (wrap64 (x27_2 + 1)) 3) : Int).toNat (wrap64 ((rd x6_2 (Int.tmod (wrap64 (x27_2 + 1)) 3)) * t144)) : List Int)).bind fun y147 => (if 0 ≤ (Int.tmod (wrap64 (x27_2 + 2)) 3) then (if (Int.tmod (wrap64 (x27_2 + 2)) 3) < (x6_2.length : Int) then (impl_ZeroNormal.l0 k2 y145 (y147.set ((Int.tmod (wrap64 (x27_2 + 2)) 3) : Int).toNat (wrap64 ((rd y147 (Int.tmod (wrap64 (x27_2 + 2)) 3)) * t144))) l0 (l0.length : Int) (wrap64 (x27_2 + 1))) else (none)) else (none))) else (none)) else (none)) = some (r1, r2, r3) := Sqz.auY
          have Ny145 := Aside0.mk hyy; clear hyy; obtain ⟨ji18, hji18⟩ : ∃ j_ : Int, (Int.tmod (wrap64 (x27_2 + 1)) 3) = j_ := ⟨_, rfl⟩
          replace H : (if 0 ≤ (ji18) then (if (ji18) < (x6_2.length : Int) then ((some (x6_2.set ((ji18) : Int).toNat (wrap64 ((rd x6_2 (ji18)) * t144)) : List Int)).bind fun y147 => (if 0 ≤ (Int.tmod (wrap64 (x27_2 + 2)) 3) then (if (Int.tmod (wrap64 (x27_2 + 2)) 3) < (x6_2.length : Int) then (impl_ZeroNormal.l0 k2 y145 (y147.set ((Int.tmod (wrap64 (x27_2 + 2)) 3) : Int).toNat (wrap64 ((rd y147 (Int.tmod (wrap64 (x27_2 + 2)) 3)) * t144))) l0 (l0.length : Int) (wrap64 (x27_2 + 1))) else (none)) else (none))) else (none)) else (none)) = some (r1, r2, r3) := by first | (rw [hji18] at H; exact H) | (simp only [hji18] at H ⊢; exact H)
          (try rw [hji18] at A15)
          by_cases c19 : 0 ≤ (ji18)
          ·rw [if_pos c19] at H; have c19b0 := decide_eq_true c19; clear c19
           by_cases c20 : (ji18) < (x6_2.length : Int)
           ·rw [if_pos c20] at H; have c20b0 := decide_eq_true c20; clear c20; obtain ⟨y147, hyy⟩ : ∃ y_ : List Int, y_ = (x6_2.set ((ji18) : Int).toNat (wrap64 ((rd x6_2 (ji18)) * t144))) := ⟨_, rfl⟩
            replace H : (if 0 ≤ (Int.tmod (wrap64 (x27_2 + 2)) 3) then (if (Int.tmod (wrap64 (x27_2 + 2)) 3) < (x6_2.length : Int) then (impl_ZeroNormal.l0 k2 y145 (y147.set ((Int.tmod (wrap64 (x27_2 + 2)) 3) : Int).toNat (wrap64 ((rd y147 (Int.tmod (wrap64 (x27_2 + 2)) 3)) * t144))) l0 (l0.length : Int) (wrap64 (x27_2 + 1))) else (none)) else (none)) = some (r1, r2, r3) := Sqz.auY
            have Ny147 := Aside0.mk hyy; clear hyy; obtain ⟨ji22, hji22⟩ : ∃ j_ : Int, (Int.tmod (wrap64 (x27_2 + 2)) 3) = j_ := ⟨_, rfl⟩
            replace H : (if 0 ≤ (ji22) then (if (ji22) < (x6_2.length : Int) then (impl_ZeroNormal.l0 k2 y145 (y147.set ((ji22) : Int).toNat (wrap64 ((rd y147 (ji22)) * t144))) l0 (l0.length : Int) (wrap64 (x27_2 + 1))) else (none)) else (none)) = some (r1, r2, r3) := by first | (rw [hji22] at H; exact H) | (simp only [hji22] at H ⊢; exact H)
            (try rw [hji22] at A15)
            by_cases c23 : 0 ≤ (ji22)
            ·rw [if_pos c23] at H; have c23b0 := decide_eq_true c23; clear c23
             by_cases c24 : (ji22) < (x6_2.length : Int)
             ·rw [if_pos c24] at H; have c24b0 := decide_eq_true c24; clear c24; obtain ⟨y149, hyy⟩ : ∃ y_ : List Int, y_ = (y147.set ((ji22) : Int).toNat (wrap64 ((rd y147 (ji22)) * t144))) := ⟨_, rfl⟩
              replace H : (impl_ZeroNormal.l0 k2 y145 y149 l0 (l0.length : Int) (wrap64 (x27_2 + 1))) = some (r1, r2, r3) := Sqz.auY
              have Ny149 := Aside0.mk hyy; clear hyy; have H' := Aside0.mk H; clear H; have p142 : 0 ≤ (x27_2 : Int) := Sqz.od; have q142 : x27_2 < (l0.length : Int) := Sqz.od; obtain ⟨ad142, e142, hx142_0⟩ := Kd.at_int HR0.out x27_2 p142 q142; cases e142; replace hx142_0 := (HB.out.cell (World.block_lt_of_cell? w _ hx142_0)).trans hx142_0; replace p142 := eq_true p142; replace q142 := eq_true q142
              go_wp2_with (first | ((with_reducible refine gate_callee (f := 61) rfl ?_); refine goesL_ (some 36) rfl rfl Tryz.func61 (by kernel_rfl) rfl #[.int .i64 (rd l0 x27_2)] rfl Sqz.auM ?_; (with_reducible refine (impl_coreOf.calls k2 (rd l0 x27_2) t143 t144 _ A15.out).mono ?_); rintro e w26 ⟨rfl, hb⟩; refine ⟨_, rfl, ?_⟩; replace HO_5 := Aside0.mk (Kd.R_below ((Sqz.mvR HO_5.out)) hb); replace HO_6 := Aside0.mk (Kd.R_below ((Sqz.mvR HO_6.out)) hb); replace HB := Aside0.mk (below_step (Sqz.auHB) hb); (try clear hb); have p17 : 0 ≤ (x27_2 : Int) := Sqz.od; have q17 : (x27_2 : Int) < ((x5_2.length : Int) : Int) := Sqz.od; obtain ⟨go17, co17, eo17, gb17, gl17, cl17, HG17⟩ := Kd.R_form HO_5.out (by omega); (first | cases eo17 | (injection eo17 with ea_ en_ ec_; (first | subst ea_ | (injection ea_ with ea_; subst ea_)); subst ec_; clear en_)); have GB17 := Aside0.mk gb17; have GG17 := Aside0.mk HG17; clear gb17 gl17 HG17; obtain ⟨hx17_0, hf17_0⟩ := Kd.R_celln 0 HO_5.out (x27_2 : Int) p17 q17; replace p17 := eq_true p17; replace q17 := eq_true q17; obtain ⟨hy27_, hz27_⟩ := Kd.R_celln 0 HO_5.out (x27_2 : Int) (Sqz.od) (Sqz.od); have HP27 := Kd.R_putg HO_5.out (x27_2 : Int) t143) | ((with_reducible refine gate_store (t := 3) (p := 39) rfl ?_); refine store_event (t := 3) (p := 39) (v := ?vo_w28) (w1 := (w26.setCell ⟨go17, (x27_2 : Int).toNat, none⟩ (.int .i64 t143))) ?hg ?ho ?hn ?hr ?_; (case ho => rfl); (case hg => rfl); (case hn => rfl); (case hr => first | (go_simp; done) | (go_simp; rfl)); intro w28 hw; have hg : w26.grownBy w28 (some go17) := (by rw [hw]; exact HP27.2); have hp_ : Kd.R (Kd.int .i64) 3 w28 w.heap.size (fun k_ => some k_ ≠ (v140 : Value).ownBlock) (.slice (some ⟨go17, 0, none⟩) x5_2.length co17) y145 := (by rw [hw, Ny145.out]; exact HP27.1); clear HP27; replace HO_5 := Aside0.mk (hp_); replace HO_6 := Aside0.mk (Kd.R_after (v := (.slice (some ⟨go17, 0, none⟩) x5_2.length co17)) (v1 := (.slice (some ⟨go17, 0, none⟩) x5_2.length co17)) (ok := (fun _ => True)) ((Sqz.mvR (Kd.R_mono HO_6.out (fun _ hk => ⟨trivial, hk⟩)))) hg (.inl rfl)); replace HB := Aside0.mk ((by rw [hw]; exact below_set (HB.out) GB17.out : Below w.heap.size w w28)); clear hg hw hp_; obtain ⟨Ao29, co29, eo29⟩ := Kd.R_slice HO_6.out; subst eo29; have p146 : 0 ≤ ((ji18) : Int) := Sqz.od; have q146 : (ji18) < (x6_2.length : Int) := Sqz.od; obtain ⟨ad146, e146, hx146_0⟩ := Kd.at_int (Kd.R_reads' HO_6.out).2.2 (ji18) p146 q146; cases e146; replace p146 := eq_true p146; replace q146 := eq_true q146; have p21 : 0 ≤ ((ji18) : Int) := Sqz.od; have q21 : ((ji18) : Int) < ((x6_2.length : Int) : Int) := Sqz.od; obtain ⟨go21, co21, eo21, gb21, gl21, cl21, HG21⟩ := Kd.R_form HO_6.out (by omega); (first | cases eo21 | (injection eo21 with ea_ en_ ec_; (first | subst ea_ | (injection ea_ with ea_; subst ea_)); subst ec_; clear en_)); have GB21 := Aside0.mk gb21; have GG21 := Aside0.mk HG21; clear gb21 gl21 HG21; (first | simp only [add_plain] at hx146_0 | skip); obtain ⟨hx21_0, hf21_0⟩ := Kd.R_celln 0 HO_6.out ((ji18) : Int) p21 q21; replace p21 := eq_true p21; replace q21 := eq_true q21; have n_ := Aside0.mk (Kd.R_mono (ok' := (fun k_ => some k_ ≠ (.slice (some ⟨go17, 0, none⟩) x5_2.length co17 : Value).ownBlock)) HO_6.out (fun k_ hk => hk.2)); clear HO_6; have HO_6 := n_; clear n_; obtain ⟨hy30_, hz30_⟩ := Kd.R_celln 0 HO_6.out ((ji18) : Int) (Sqz.od) (Sqz.od); have HP30 := Kd.R_putg HO_6.out ((ji18) : Int) (wrap64 ((rd x6_2 (ji18)) * t144))) | ((with_reducible refine gate_store (t := 3) (p := 48) rfl ?_); refine store_event (t := 3) (p := 48) (v := ?vo_w31) (w1 := (w28.setCell ⟨go21, ((ji18) : Int).toNat, none⟩ (.int .i64 (wrap64 ((rd x6_2 (ji18)) * t144))))) ?hg ?ho ?hn ?hr ?_; (case ho => rfl); (case hg => rfl); (case hn => rfl); (case hr => first | (go_simp; done) | (go_simp; rfl)); intro w31 hw; have hg : w28.grownBy w31 (some go21) := (by rw [hw]; exact HP30.2); have hp_ : Kd.R (Kd.int .i64) 3 w31 w.heap.size (fun k_ => some k_ ≠ (.slice (some ⟨go17, 0, none⟩) x5_2.length co17 : Value).ownBlock) (.slice (some ⟨go21, 0, none⟩) x6_2.length co29) y147 := (by rw [hw, Ny147.out]; exact HP30.1); clear HP30; replace HO_5 := Aside0.mk (Kd.R_after (v := (.slice (some ⟨go21, 0, none⟩) x6_2.length co29)) (v1 := (.slice (some ⟨go21, 0, none⟩) x6_2.length co29)) (ok := (fun _ => True)) ((Sqz.mvR (Kd.R_mono HO_5.out (fun _ hk => ⟨trivial, hk⟩)))) hg (.inl rfl)); replace HO_6 := Aside0.mk (hp_); replace HB := Aside0.mk ((by rw [hw]; exact below_set (HB.out) GB21.out : Below w.heap.size w w31)); clear hg hw hp_; have p148 : 0 ≤ ((ji22) : Int) := Sqz.od; have q148 : (ji22) < (y147.length : Int) := (by have h_ : ((ji22) : Int) < ((x6_2.length : Int) : Int) := Sqz.od; first | (have e_ := (Kd.R_reads' HO_6.out).1; omega) | simpa only [Ny147.out, List.length_set] using h_); have ql148 : (((ji22) : Int) < ((x6_2.length : Int) : Int)) = True := eq_true (Sqz.od); obtain ⟨ad148, e148, hx148_0⟩ := Kd.at_int (Kd.R_reads' HO_6.out).2.2 (ji22) p148 q148; obtain rfl : (⟨go21, 0, none⟩ : Addr) = ad148 := (by injection e148); (first | simp only [add_plain] at hx148_0 | simp only [add_at] at hx148_0 | simp only [Addr.add, Nat.zero_add] at hx148_0 | skip); replace p148 := eq_true p148; replace q148 := eq_true q148; have p25 : 0 ≤ ((ji22) : Int) := Sqz.od; have q25 : ((ji22) : Int) < ((x6_2.length : Int) : Int) := Sqz.od; obtain ⟨hx25_0, hf25_0⟩ := Kd.R_celln 0 HO_6.out ((ji22) : Int) p25 q25; replace p25 := eq_true p25; replace q25 := eq_true q25; obtain ⟨hy32_, hz32_⟩ := Kd.R_celln 0 HO_6.out ((ji22) : Int) (Sqz.od) (Sqz.od); have HP32 := Kd.R_putg HO_6.out ((ji22) : Int) (wrap64 ((rd y147 (ji22)) * t144))) | ((with_reducible refine gate_store (t := 3) (p := 57) rfl ?_); refine store_event (t := 3) (p := 57) (v := ?vo_w33) (w1 := (w31.setCell ⟨go21, ((ji22) : Int).toNat, none⟩ (.int .i64 (wrap64 ((rd y147 (ji22)) * t144))))) ?hg ?ho ?hn ?hr ?_; (case ho => rfl); (case hg => rfl); (case hn => rfl); (case hr => first | (go_simp; done) | (go_simp; rfl)); intro w33 hw; have hg : w31.grownBy w33 (some go21) := (by rw [hw]; exact HP32.2); have hp_ : Kd.R (Kd.int .i64) 3 w33 w.heap.size (fun k_ => some k_ ≠ (.slice (some ⟨go17, 0, none⟩) x5_2.length co17 : Value).ownBlock) (.slice (some ⟨go21, 0, none⟩) x6_2.length co29) y149 := (by rw [hw, Ny149.out]; exact HP32.1); clear HP32; replace HO_5 := Aside0.mk (Kd.R_after (v := (.slice (some ⟨go21, 0, none⟩) x6_2.length co29)) (v1 := (.slice (some ⟨go21, 0, none⟩) x6_2.length co29)) (ok := (fun _ => True)) ((Sqz.mvR HO_5.out)) hg (.inl rfl)); replace HO_6 := Aside0.mk (hp_); replace HB := Aside0.mk ((by rw [hw]; exact below_set (HB.out) GB21.out : Below w.heap.size w w33)); clear hg hw hp_))
              go_roundg k2
              case measure => have := HJ1.out; have := HK2.out; omega
              case rel => exact ⟨(y145), (y149), (wrap64 (x27_2 + 1)), Sqz.auS, H', ⟨by have := HJ1.out; have := HK2.out; omega⟩, ⟨(Sqz.mvR (Kd.R_mono HO_5.out (fun _ hk => (by first | exact hk.2 | exact trivial))))⟩, ⟨(Sqz.mvR HO_6.out)⟩, ⟨Sqz.auHB⟩⟩
             ·rw [if_neg c24] at H; exact absurd H (by simp)
            ·rw [if_neg c23] at H; exact absurd H (by simp)
           ·rw [if_neg c20] at H; exact absurd H (by simp)
          ·rw [if_neg c19] at H; exact absurd H (by simp)
         ·rw [if_neg c16] at H; exact absurd H (by simp)
        ·rw [if_neg c14] at H; exact absurd H (by simp)
       ·rw [if_neg c13] at H; exact absurd H (by simp)
      ·rw [if_neg c12] at H; have c12b0 := decide_eq_false c12; clear c12; have H' := Aside0.mk H; clear H; go_wp2
       go_loopg [] k2 (fun kq w' => ∃ (x5_3 : List Int) (x6_3 : List Int), Aside0 (impl_ZeroNormal.l1 kq x5_3 x6_3 = some (r1, r2, r3)) ∧ Aside0 (kq ≤ k2) ∧ Aside0 (Kd.R (Kd.int .i64) 3 w' w.heap.size (fun k_ => some k_ ≠ (v140 : Value).ownBlock) v137 x5_3) ∧ Aside0 (Kd.R (Kd.int .i64) 3 w' w.heap.size (fun k_ => some k_ ≠ (v137 : Value).ownBlock) v140 x6_3) ∧ Aside0 (Below w.heap.size w w'))
       case atStart => exact ⟨(x5_2), (x6_2), H', ⟨Nat.le_refl _⟩, ⟨(Sqz.mvR HO_5.out)⟩, ⟨(Sqz.mvR HO_6.out)⟩, ⟨Sqz.auHB⟩⟩
       case round =>
        clear H'
        try clear c1
        try clear p1
        try clear q1
        try clear hx1
        try clear hf1
        try clear c2
        try clear p2
        try clear q2
        try clear hx2
        try clear hf2
        try clear c4
        try clear c5
        try clear c6
        try clear p6
        try clear c7
        try clear c8
        try clear c12
        try clear c12b0
        try clear c13
        try clear c13b0
        try clear c14
        try clear c14b0
        try clear p14
        try clear q14
        try clear hx14
        try clear c16
        try clear c16b0
        try clear p17
        try clear q17
        try clear hx17
        try clear hf17
        try clear c19
        try clear c19b0
        try clear c20
        try clear c20b0
        try clear p21
        try clear q21
        try clear hx21
        try clear hf21
        try clear c23
        try clear c23b0
        try clear c24
        try clear c24b0
        try clear p25
        try clear q25
        try clear hx25
        try clear hf25
        try clear hx142_0
        try clear hx146_0
        try clear hx148_0
        try clear hx17_0
        try clear hx21_0
        try clear hx25_0
        try clear p142
        try clear p146
        try clear p148
        try clear p17
        try clear p2
        try clear p21
        try clear p25
        try clear q142
        try clear q146
        try clear q148
        try clear q17
        try clear q21
        try clear q25
        obtain ⟨x5_3, x6_3, HA, HK3, HO_5, HO_6, HB⟩ := hrel; cases gk with
        | zero => exact absurd HA.out (by simp [impl_ZeroNormal.l1])
        | succ k3 =>
         have H := HA.out; clear HA; simp only [impl_ZeroNormal.l1] at H; replace H := Option.bind_eq_some_iff.mp H; obtain ⟨⟨t150, t151, t152⟩, A340, H⟩ := H; replace H : (if t152 = 0 then (some (x5_3, x6_3, true)) else (if 0 ≤ t150 then (if t150 < (x5_3.length : Int) then ((some (x5_3.set (t150 : Int).toNat (wrap64 (Int.tdiv (rd x5_3 t150) t152)) : List Int)).bind fun y154 => (if 0 ≤ t151 then (if t151 < (x5_3.length : Int) then ((some (y154.set (t151 : Int).toNat (wrap64 (Int.tdiv (rd y154 t151) t152)) : List Int)).bind fun y156 => (if 0 ≤ (wrap64 ((wrap64 (3 - t150)) - t151)) then (if (wrap64 ((wrap64 (3 - t150)) - t151)) < (x5_3.length : Int) then (if (Int.tmod (rd y156 (wrap64 ((wrap64 (3 - t150)) - t151))) t152) = 0 then (impl_ZeroNormal.l1 k3 (y156.set ((wrap64 ((wrap64 (3 - t150)) - t151)) : Int).toNat (wrap64 (Int.tdiv (rd y156 (wrap64 ((wrap64 (3 - t150)) - t151))) t152))) x6_3) else (if (wrap64 ((wrap64 (3 - t150)) - t151)) < (x6_3.length : Int) then (impl_ZeroNormal.l1 k3 (y156.set ((wrap64 ((wrap64 (3 - t150)) - t151)) : Int).toNat (wrap64 ((rd y156 (wrap64 ((wrap64 (3 - t150)) - t151))) * t152))) (x6_3.set ((wrap64 ((wrap64 (3 - t150)) - t151)) : Int).toNat (wrap64 ((rd x6_3 (wrap64 ((wrap64 (3 - t150)) - t151))) * t152)))) else (none))) else (none)) else (none))) else (none)) else (none))) else (none)) else (none))) = some (r1, r2, r3) := H; have A34 := Aside0.mk A340; clear A340
         by_cases c35 : t152 = 0
         ·rw [if_pos c35] at H; have c35b0 := beq_iff_eq.mpr c35; have c35b1 := bne_eq_false_iff_eq.mpr c35; clear c35; simp only [Option.some.injEq, Prod.mk.injEq] at H; obtain ⟨rfl, rfl, rfl⟩ := H; obtain ⟨Ao36, co36, eo36⟩ := Kd.R_slice HO_5.out; subst eo36
          go_wp2_with (first | ((with_reducible refine gate_callee (f := 135) rfl ?_); refine goesL_ (some 61) rfl rfl Tryz.func135 (by kernel_rfl) rfl #[.slice Ao36 x5_3.length co36] rfl Sqz.auM ?_; (with_reducible refine (impl_sharedPrime.calls k3 _ _ x5_3 t150 t151 t152 _ ?side1 ?side2 A34.out).mono ?_); (case side1 => exact Sqz.mvC ((Kd.R_reads' HO_5.out).2.2)); (case side2 => exact (Kd.R_reads' HO_5.out).2.1); rintro e w37 ⟨rfl, hb⟩; refine ⟨_, rfl, ?_⟩; replace HO_5 := Aside0.mk (Kd.R_below ((Sqz.mvR HO_5.out)) hb); replace HO_6 := Aside0.mk (Kd.R_below ((Sqz.mvR HO_6.out)) hb); replace HB := Aside0.mk (below_step (Sqz.auHB) hb); (try clear hb)))
          go_ret3
          exact ⟨_, _, Sqz.auR, (Sqz.mvR HO_5.out), (Sqz.mvR HO_6.out), Sqz.auHB⟩
         ·rw [if_neg c35] at H; have c35b0 := beq_eq_false_iff_ne.mpr c35; have c35b1 := bne_iff_ne.mpr c35
          by_cases c38 : 0 ≤ t150
          ·rw [if_pos c38] at H; have c38b0 := decide_eq_true c38; clear c38
           by_cases c39 : t150 < (x5_3.length : Int)
           ·rw [if_pos c39] at H; have c39b0 := decide_eq_true c39; clear c39; obtain ⟨y154, hyy⟩ : ∃ y_ : List Int, y_ = (x5_3.set (t150 : Int).toNat (wrap64 (Int.tdiv (rd x5_3 t150) t152))) := ⟨_, rfl⟩
            replace H : (if 0 ≤ t151 then (if t151 < (x5_3.length : Int) then ((some (y154.set (t151 : Int).toNat (wrap64 (Int.tdiv (rd y154 t151) t152)) : List Int)).bind fun y156 => (if 0 ≤ (wrap64 ((wrap64 (3 - t150)) - t151)) then (if (wrap64 ((wrap64 (3 - t150)) - t151)) < (x5_3.length : Int) then (if (Int.tmod (rd y156 (wrap64 ((wrap64 (3 - t150)) - t151))) t152) = 0 then (impl_ZeroNormal.l1 k3 (y156.set ((wrap64 ((wrap64 (3 - t150)) - t151)) : Int).toNat (wrap64 (Int.tdiv (rd y156 (wrap64 ((wrap64 (3 - t150)) - t151))) t152))) x6_3) else (if (wrap64 ((wrap64 (3 - t150)) - t151)) < (x6_3.length : Int) then (impl_ZeroNormal.l1 k3 (y156.set ((wrap64 ((wrap64 (3 - t150)) - t151)) : Int).toNat (wrap64 ((rd y156 (wrap64 ((wrap64 (3 - t150)) - t151))) * t152))) (x6_3.set ((wrap64 ((wrap64 (3 - t150)) - t151)) : Int).toNat (wrap64 ((rd x6_3 (wrap64 ((wrap64 (3 - t150)) - t151))) * t152)))) else (none))) else (none)) else (none))) else (none)) else (none)) = some (r1, r2, r3) := Sqz.auY
            have Ny154 := Aside0.mk hyy; clear hyy
            by_cases c41 : 0 ≤ t151
            ·rw [if_pos c41] at H; have c41b0 := decide_eq_true c41; clear c41
             by_cases c42 : t151 < (x5_3.length : Int)
             ·rw [if_pos c42] at H; have c42b0 := decide_eq_true c42; clear c42; obtain ⟨y156, hyy⟩ : ∃ y_ : List Int, y_ = (y154.set (t151 : Int).toNat (wrap64 (Int.tdiv (rd y154 t151) t152))) := ⟨_, rfl⟩
              replace H : (if 0 ≤ (wrap64 ((wrap64 (3 - t150)) - t151)) then (if (wrap64 ((wrap64 (3 - t150)) - t151)) < (x5_3.length : Int) then (if (Int.tmod (rd y156 (wrap64 ((wrap64 (3 - t150)) - t151))) t152) = 0 then (impl_ZeroNormal.l1 k3 (y156.set ((wrap64 ((wrap64 (3 - t150)) - t151)) : Int).toNat (wrap64 (Int.tdiv (rd y156 (wrap64 ((wrap64 (3 - t150)) - t151))) t152))) x6_3) else (if (wrap64 ((wrap64 (3 - t150)) - t151)) < (x6_3.length : Int) then (impl_ZeroNormal.l1 k3 (y156.set ((wrap64 ((wrap64 (3 - t150)) - t151)) : Int).toNat (wrap64 ((rd y156 (wrap64 ((wrap64 (3 - t150)) - t151))) * t152))) (x6_3.set ((wrap64 ((wrap64 (3 - t150)) - t151)) : Int).toNat (wrap64 ((rd x6_3 (wrap64 ((wrap64 (3 - t150)) - t151))) * t152)))) else (none))) else (none)) else (none)) = some (r1, r2, r3) := Sqz.auY
              have Ny156 := Aside0.mk hyy; clear hyy; obtain ⟨ji44, hji44⟩ : ∃ j_ : Int, (wrap64 ((wrap64 (3 - t150)) - t151)) = j_ := ⟨_, rfl⟩
              replace H : (if 0 ≤ (ji44) then (if (ji44) < (x5_3.length : Int) then (if (Int.tmod (rd y156 (ji44)) t152) = 0 then (impl_ZeroNormal.l1 k3 (y156.set ((ji44) : Int).toNat (wrap64 (Int.tdiv (rd y156 (ji44)) t152))) x6_3) else (if (ji44) < (x6_3.length : Int) then (impl_ZeroNormal.l1 k3 (y156.set ((ji44) : Int).toNat (wrap64 ((rd y156 (ji44)) * t152))) (x6_3.set ((ji44) : Int).toNat (wrap64 ((rd x6_3 (ji44)) * t152)))) else (none))) else (none)) else (none)) = some (r1, r2, r3) := by first | (rw [hji44] at H; exact H) | (simp only [hji44] at H ⊢; exact H)
              (try rw [hji44] at A34); have hji44w : (IntKind.i64.wrap ((wrap64 (3 - t150)) - t151)) = ji44 := (i64_w _).trans hji44
              by_cases c45 : 0 ≤ (ji44)
              ·rw [if_pos c45] at H; have c45b0 := decide_eq_true c45; clear c45
               by_cases c46 : (ji44) < (x5_3.length : Int)
               ·rw [if_pos c46] at H; have c46b0 := decide_eq_true c46; clear c46
                by_cases c47 : (Int.tmod (rd y156 (ji44)) t152) = 0
                ·rw [if_pos c47] at H; have c47b0 := beq_iff_eq.mpr c47; have c47b1 := bne_eq_false_iff_eq.mpr c47; clear c47; obtain ⟨y159, hyy⟩ : ∃ y_ : List Int, y_ = (y156.set ((ji44) : Int).toNat (wrap64 (Int.tdiv (rd y156 (ji44)) t152))) := ⟨_, rfl⟩
                 replace H : (impl_ZeroNormal.l1 k3 y159 x6_3) = some (r1, r2, r3) := Sqz.auY
                 have Ny159 := Aside0.mk hyy; clear hyy; have H' := Aside0.mk H; clear H; obtain ⟨Ao49, co49, eo49⟩ := Kd.R_slice HO_5.out; subst eo49
                 go_wp2_with (first | ((with_reducible refine gate_callee (f := 135) rfl ?_); refine goesL_ (some 61) rfl rfl Tryz.func135 (by kernel_rfl) rfl #[.slice Ao49 x5_3.length co49] rfl Sqz.auM ?_; (with_reducible refine (impl_sharedPrime.calls k3 _ _ x5_3 t150 t151 t152 _ ?side1 ?side2 A34.out).mono ?_); (case side1 => exact Sqz.mvC ((Kd.R_reads' HO_5.out).2.2)); (case side2 => exact (Kd.R_reads' HO_5.out).2.1); rintro e w50 ⟨rfl, hb⟩; refine ⟨_, rfl, ?_⟩; replace HO_5 := Aside0.mk (Kd.R_below ((Sqz.mvR HO_5.out)) hb); replace HO_6 := Aside0.mk (Kd.R_below ((Sqz.mvR HO_6.out)) hb); replace HB := Aside0.mk (below_step (Sqz.auHB) hb); (try clear hb); have p153 : 0 ≤ (t150 : Int) := Sqz.od; have q153 : t150 < (x5_3.length : Int) := Sqz.od; obtain ⟨ad153, e153, hx153_0⟩ := Kd.at_int (Kd.R_reads' HO_5.out).2.2 t150 p153 q153; cases e153; replace p153 := eq_true p153; replace q153 := eq_true q153; have p40 : 0 ≤ (t150 : Int) := Sqz.od; have q40 : (t150 : Int) < ((x5_3.length : Int) : Int) := Sqz.od; obtain ⟨go40, co40, eo40, gb40, gl40, cl40, HG40⟩ := Kd.R_form HO_5.out (by omega); (first | cases eo40 | (injection eo40 with ea_ en_ ec_; (first | subst ea_ | (injection ea_ with ea_; subst ea_)); subst ec_; clear en_)); have GB40 := Aside0.mk gb40; have GG40 := Aside0.mk HG40; clear gb40 gl40 HG40; (first | simp only [add_plain] at hx153_0 | skip); obtain ⟨hx40_0, hf40_0⟩ := Kd.R_celln 0 HO_5.out (t150 : Int) p40 q40; replace p40 := eq_true p40; replace q40 := eq_true q40; obtain ⟨hy51_, hz51_⟩ := Kd.R_celln 0 HO_5.out (t150 : Int) (Sqz.od) (Sqz.od); have HP51 := Kd.R_putg HO_5.out (t150 : Int) (wrap64 (Int.tdiv (rd x5_3 t150) t152))) | ((with_reducible refine gate_store (t := 3) (p := 79) rfl ?_); refine store_event (t := 3) (p := 79) (v := ?vo_w52) (w1 := (w50.setCell ⟨go40, (t150 : Int).toNat, none⟩ (.int .i64 (wrap64 (Int.tdiv (rd x5_3 t150) t152))))) ?hg ?ho ?hn ?hr ?_; (case ho => rfl); (case hg => rfl); (case hn => rfl); (case hr => first | (go_simp; done) | (go_simp; rfl)); intro w52 hw; have hg : w50.grownBy w52 (some go40) := (by rw [hw]; exact HP51.2); have hp_ : Kd.R (Kd.int .i64) 3 w52 w.heap.size (fun k_ => some k_ ≠ (v140 : Value).ownBlock) (.slice (some ⟨go40, 0, none⟩) x5_3.length co49) y154 := (by rw [hw, Ny154.out]; exact HP51.1); clear HP51; replace HO_5 := Aside0.mk (hp_); replace HO_6 := Aside0.mk (Kd.R_after (v := (.slice (some ⟨go40, 0, none⟩) x5_3.length co49)) (v1 := (.slice (some ⟨go40, 0, none⟩) x5_3.length co49)) (ok := (fun _ => True)) ((Sqz.mvR (Kd.R_mono HO_6.out (fun _ hk => ⟨trivial, hk⟩)))) hg (.inl rfl)); replace HB := Aside0.mk ((by rw [hw]; exact below_set (HB.out) GB40.out : Below w.heap.size w w52)); clear hg hw hp_; have p155 : 0 ≤ (t151 : Int) := Sqz.od; have q155 : t151 < (y154.length : Int) := (by have h_ : (t151 : Int) < ((x5_3.length : Int) : Int) := Sqz.od; first | (have e_ := (Kd.R_reads' HO_5.out).1; omega) | simpa only [Ny154.out, List.length_set] using h_); have ql155 : ((t151 : Int) < ((x5_3.length : Int) : Int)) = True := eq_true (Sqz.od); obtain ⟨ad155, e155, hx155_0⟩ := Kd.at_int (Kd.R_reads' HO_5.out).2.2 t151 p155 q155; obtain rfl : (⟨go40, 0, none⟩ : Addr) = ad155 := (by injection e155); (first | simp only [add_plain] at hx155_0 | simp only [add_at] at hx155_0 | simp only [Addr.add, Nat.zero_add] at hx155_0 | skip); replace p155 := eq_true p155; replace q155 := eq_true q155; have p43 : 0 ≤ (t151 : Int) := Sqz.od; have q43 : (t151 : Int) < ((x5_3.length : Int) : Int) := Sqz.od; obtain ⟨hx43_0, hf43_0⟩ := Kd.R_celln 0 HO_5.out (t151 : Int) p43 q43; replace p43 := eq_true p43; replace q43 := eq_true q43; obtain ⟨hy53_, hz53_⟩ := Kd.R_celln 0 HO_5.out (t151 : Int) (Sqz.od) (Sqz.od); have HP53 := Kd.R_putg HO_5.out (t151 : Int) (wrap64 (Int.tdiv (rd y154 t151) t152))) | ((with_reducible refine gate_store (t := 3) (p := 86) rfl ?_); refine store_event (t := 3) (p := 86) (v := ?vo_w54) (w1 := (w52.setCell ⟨go40, (t151 : Int).toNat, none⟩ (.int .i64 (wrap64 (Int.tdiv (rd y154 t151) t152))))) ?hg ?ho ?hn ?hr ?_; (case ho => rfl); (case hg => rfl); (case hn => rfl); (case hr => first | (go_simp; done) | (go_simp; rfl)); intro w54 hw; have hg : w52.grownBy w54 (some go40) := (by rw [hw]; exact HP53.2); have hp_ : Kd.R (Kd.int .i64) 3 w54 w.heap.size (fun k_ => some k_ ≠ (v140 : Value).ownBlock) (.slice (some ⟨go40, 0, none⟩) x5_3.length co49) y156 := (by rw [hw, Ny156.out]; exact HP53.1); clear HP53; replace HO_5 := Aside0.mk (hp_); replace HO_6 := Aside0.mk (Kd.R_after (v := (.slice (some ⟨go40, 0, none⟩) x5_3.length co49)) (v1 := (.slice (some ⟨go40, 0, none⟩) x5_3.length co49)) (ok := (fun _ => True)) ((Sqz.mvR HO_6.out)) hg (.inl rfl)); replace HB := Aside0.mk ((by rw [hw]; exact below_set (HB.out) GB40.out : Below w.heap.size w w54)); clear hg hw hp_; have p157 : 0 ≤ ((ji44) : Int) := Sqz.od; have q157 : (ji44) < (y156.length : Int) := (by have h_ : ((ji44) : Int) < ((x5_3.length : Int) : Int) := Sqz.od; first | (have e_ := (Kd.R_reads' HO_5.out).1; omega) | simpa only [Ny154.out, Ny156.out, List.length_set] using h_); have ql157 : (((ji44) : Int) < ((x5_3.length : Int) : Int)) = True := eq_true (Sqz.od); obtain ⟨ad157, e157, hx157_0⟩ := Kd.at_int (Kd.R_reads' HO_5.out).2.2 (ji44) p157 q157; obtain rfl : (⟨go40, 0, none⟩ : Addr) = ad157 := (by injection e157); (first | simp only [add_plain] at hx157_0 | simp only [add_at] at hx157_0 | simp only [Addr.add, Nat.zero_add] at hx157_0 | skip); replace p157 := eq_true p157; replace q157 := eq_true q157; have p158 : 0 ≤ ((ji44) : Int) := Sqz.od; have q158 : (ji44) < (y156.length : Int) := (by have h_ : ((ji44) : Int) < ((x5_3.length : Int) : Int) := Sqz.od; first | (have e_ := (Kd.R_reads' HO_5.out).1; omega) | simpa only [Ny154.out, Ny156.out, List.length_set] using h_); have ql158 : (((ji44) : Int) < ((x5_3.length : Int) : Int)) = True := eq_true (Sqz.od); obtain ⟨ad158, e158, hx158_0⟩ := Kd.at_int (Kd.R_reads' HO_5.out).2.2 (ji44) p158 q158; obtain rfl : (⟨go40, 0, none⟩ : Addr) = ad158 := (by injection e158); (first | simp only [add_plain] at hx158_0 | simp only [add_at] at hx158_0 | simp only [Addr.add, Nat.zero_add] at hx158_0 | skip); replace p158 := eq_true p158; replace q158 := eq_true q158; have p48 : 0 ≤ ((ji44) : Int) := Sqz.od; have q48 : ((ji44) : Int) < ((x5_3.length : Int) : Int) := Sqz.od; obtain ⟨hx48_0, hf48_0⟩ := Kd.R_celln 0 HO_5.out ((ji44) : Int) p48 q48; replace p48 := eq_true p48; replace q48 := eq_true q48; obtain ⟨hy55_, hz55_⟩ := Kd.R_celln 0 HO_5.out ((ji44) : Int) (Sqz.od) (Sqz.od); have HP55 := Kd.R_putg HO_5.out ((ji44) : Int) (wrap64 (Int.tdiv (rd y156 (ji44)) t152))) | ((with_reducible refine gate_store (t := 3) (p := 100) rfl ?_); refine store_event (t := 3) (p := 100) (v := ?vo_w56) (w1 := (w54.setCell ⟨go40, ((ji44) : Int).toNat, none⟩ (.int .i64 (wrap64 (Int.tdiv (rd y156 (ji44)) t152))))) ?hg ?ho ?hn ?hr ?_; (case ho => rfl); (case hg => rfl); (case hn => rfl); (case hr => first | (go_simp; done) | (go_simp; rfl)); intro w56 hw; have hg : w54.grownBy w56 (some go40) := (by rw [hw]; exact HP55.2); have hp_ : Kd.R (Kd.int .i64) 3 w56 w.heap.size (fun k_ => some k_ ≠ (v140 : Value).ownBlock) (.slice (some ⟨go40, 0, none⟩) x5_3.length co49) y159 := (by rw [hw, Ny159.out]; exact HP55.1); clear HP55; replace HO_5 := Aside0.mk (hp_); replace HO_6 := Aside0.mk (Kd.R_after (v := (.slice (some ⟨go40, 0, none⟩) x5_3.length co49)) (v1 := (.slice (some ⟨go40, 0, none⟩) x5_3.length co49)) (ok := (fun _ => True)) ((Sqz.mvR HO_6.out)) hg (.inl rfl)); replace HB := Aside0.mk ((by rw [hw]; exact below_set (HB.out) GB40.out : Below w.heap.size w w56)); clear hg hw hp_))
                 go_roundg k3
                 case measure => have := HJ1.out; have := HK2.out; have := HK3.out; omega
                 case rel => exact ⟨(y159), (x6_3), H', ⟨by have := HJ1.out; have := HK2.out; have := HK3.out; omega⟩, ⟨(Sqz.mvR HO_5.out)⟩, ⟨(Sqz.mvR (Kd.R_mono HO_6.out (fun _ hk => (by first | exact hk.2 | exact trivial))))⟩, ⟨Sqz.auHB⟩⟩
                ·rw [if_neg c47] at H; have c47b0 := beq_eq_false_iff_ne.mpr c47; have c47b1 := bne_iff_ne.mpr c47; obtain ⟨y161, hyy⟩ : ∃ y_ : List Int, y_ = (y156.set ((ji44) : Int).toNat (wrap64 ((rd y156 (ji44)) * t152))) := ⟨_, rfl⟩
                 replace H : (if (ji44) < (x6_3.length : Int) then (impl_ZeroNormal.l1 k3 y161 (x6_3.set ((ji44) : Int).toNat (wrap64 ((rd x6_3 (ji44)) * t152)))) else (none)) = some (r1, r2, r3) := Sqz.auY
                 have Ny161 := Aside0.mk hyy; clear hyy
                 by_cases c58 : (ji44) < (x6_3.length : Int)
                 ·rw [if_pos c58] at H; have c58b0 := decide_eq_true c58; clear c58; obtain ⟨y163, hyy⟩ : ∃ y_ : List Int, y_ = (x6_3.set ((ji44) : Int).toNat (wrap64 ((rd x6_3 (ji44)) * t152))) := ⟨_, rfl⟩
                  replace H : (impl_ZeroNormal.l1 k3 y161 y163) = some (r1, r2, r3) := Sqz.auY
                  have Ny163 := Aside0.mk hyy; clear hyy; have H' := Aside0.mk H; clear H; obtain ⟨Ao60, co60, eo60⟩ := Kd.R_slice HO_5.out; subst eo60
                  go_wp2_with (first | ((with_reducible refine gate_callee (f := 135) rfl ?_); refine goesL_ (some 61) rfl rfl Tryz.func135 (by kernel_rfl) rfl #[.slice Ao60 x5_3.length co60] rfl Sqz.auM ?_; (with_reducible refine (impl_sharedPrime.calls k3 _ _ x5_3 t150 t151 t152 _ ?side1 ?side2 A34.out).mono ?_); (case side1 => exact Sqz.mvC ((Kd.R_reads' HO_5.out).2.2)); (case side2 => exact (Kd.R_reads' HO_5.out).2.1); rintro e w61 ⟨rfl, hb⟩; refine ⟨_, rfl, ?_⟩; replace HO_5 := Aside0.mk (Kd.R_below ((Sqz.mvR HO_5.out)) hb); replace HO_6 := Aside0.mk (Kd.R_below ((Sqz.mvR HO_6.out)) hb); replace HB := Aside0.mk (below_step (Sqz.auHB) hb); (try clear hb); have p153 : 0 ≤ (t150 : Int) := Sqz.od; have q153 : t150 < (x5_3.length : Int) := Sqz.od; obtain ⟨ad153, e153, hx153_0⟩ := Kd.at_int (Kd.R_reads' HO_5.out).2.2 t150 p153 q153; cases e153; replace p153 := eq_true p153; replace q153 := eq_true q153; have p40 : 0 ≤ (t150 : Int) := Sqz.od; have q40 : (t150 : Int) < ((x5_3.length : Int) : Int) := Sqz.od; obtain ⟨go40, co40, eo40, gb40, gl40, cl40, HG40⟩ := Kd.R_form HO_5.out (by omega); (first | cases eo40 | (injection eo40 with ea_ en_ ec_; (first | subst ea_ | (injection ea_ with ea_; subst ea_)); subst ec_; clear en_)); have GB40 := Aside0.mk gb40; have GG40 := Aside0.mk HG40; clear gb40 gl40 HG40; (first | simp only [add_plain] at hx153_0 | skip); obtain ⟨hx40_0, hf40_0⟩ := Kd.R_celln 0 HO_5.out (t150 : Int) p40 q40; replace p40 := eq_true p40; replace q40 := eq_true q40; obtain ⟨hy62_, hz62_⟩ := Kd.R_celln 0 HO_5.out (t150 : Int) (Sqz.od) (Sqz.od); have HP62 := Kd.R_putg HO_5.out (t150 : Int) (wrap64 (Int.tdiv (rd x5_3 t150) t152))) | ((with_reducible refine gate_store (t := 3) (p := 79) rfl ?_); refine store_event (t := 3) (p := 79) (v := ?vo_w63) (w1 := (w61.setCell ⟨go40, (t150 : Int).toNat, none⟩ (.int .i64 (wrap64 (Int.tdiv (rd x5_3 t150) t152))))) ?hg ?ho ?hn ?hr ?_; (case ho => rfl); (case hg => rfl); (case hn => rfl); (case hr => first | (go_simp; done) | (go_simp; rfl)); intro w63 hw; have hg : w61.grownBy w63 (some go40) := (by rw [hw]; exact HP62.2); have hp_ : Kd.R (Kd.int .i64) 3 w63 w.heap.size (fun k_ => some k_ ≠ (v140 : Value).ownBlock) (.slice (some ⟨go40, 0, none⟩) x5_3.length co60) y154 := (by rw [hw, Ny154.out]; exact HP62.1); clear HP62; replace HO_5 := Aside0.mk (hp_); replace HO_6 := Aside0.mk (Kd.R_after (v := (.slice (some ⟨go40, 0, none⟩) x5_3.length co60)) (v1 := (.slice (some ⟨go40, 0, none⟩) x5_3.length co60)) (ok := (fun _ => True)) ((Sqz.mvR (Kd.R_mono HO_6.out (fun _ hk => ⟨trivial, hk⟩)))) hg (.inl rfl)); replace HB := Aside0.mk ((by rw [hw]; exact below_set (HB.out) GB40.out : Below w.heap.size w w63)); clear hg hw hp_; have p155 : 0 ≤ (t151 : Int) := Sqz.od; have q155 : t151 < (y154.length : Int) := (by have h_ : (t151 : Int) < ((x5_3.length : Int) : Int) := Sqz.od; first | (have e_ := (Kd.R_reads' HO_5.out).1; omega) | simpa only [Ny154.out, List.length_set] using h_); have ql155 : ((t151 : Int) < ((x5_3.length : Int) : Int)) = True := eq_true (Sqz.od); obtain ⟨ad155, e155, hx155_0⟩ := Kd.at_int (Kd.R_reads' HO_5.out).2.2 t151 p155 q155; obtain rfl : (⟨go40, 0, none⟩ : Addr) = ad155 := (by injection e155); (first | simp only [add_plain] at hx155_0 | simp only [add_at] at hx155_0 | simp only [Addr.add, Nat.zero_add] at hx155_0 | skip); replace p155 := eq_true p155; replace q155 := eq_true q155; have p43 : 0 ≤ (t151 : Int) := Sqz.od; have q43 : (t151 : Int) < ((x5_3.length : Int) : Int) := Sqz.od; obtain ⟨hx43_0, hf43_0⟩ := Kd.R_celln 0 HO_5.out (t151 : Int) p43 q43; replace p43 := eq_true p43; replace q43 := eq_true q43; obtain ⟨hy64_, hz64_⟩ := Kd.R_celln 0 HO_5.out (t151 : Int) (Sqz.od) (Sqz.od); have HP64 := Kd.R_putg HO_5.out (t151 : Int) (wrap64 (Int.tdiv (rd y154 t151) t152))) | ((with_reducible refine gate_store (t := 3) (p := 86) rfl ?_); refine store_event (t := 3) (p := 86) (v := ?vo_w65) (w1 := (w63.setCell ⟨go40, (t151 : Int).toNat, none⟩ (.int .i64 (wrap64 (Int.tdiv (rd y154 t151) t152))))) ?hg ?ho ?hn ?hr ?_; (case ho => rfl); (case hg => rfl); (case hn => rfl); (case hr => first | (go_simp; done) | (go_simp; rfl)); intro w65 hw; have hg : w63.grownBy w65 (some go40) := (by rw [hw]; exact HP64.2); have hp_ : Kd.R (Kd.int .i64) 3 w65 w.heap.size (fun k_ => some k_ ≠ (v140 : Value).ownBlock) (.slice (some ⟨go40, 0, none⟩) x5_3.length co60) y156 := (by rw [hw, Ny156.out]; exact HP64.1); clear HP64; replace HO_5 := Aside0.mk (hp_); replace HO_6 := Aside0.mk (Kd.R_after (v := (.slice (some ⟨go40, 0, none⟩) x5_3.length co60)) (v1 := (.slice (some ⟨go40, 0, none⟩) x5_3.length co60)) (ok := (fun _ => True)) ((Sqz.mvR HO_6.out)) hg (.inl rfl)); replace HB := Aside0.mk ((by rw [hw]; exact below_set (HB.out) GB40.out : Below w.heap.size w w65)); clear hg hw hp_; have p157 : 0 ≤ ((ji44) : Int) := Sqz.od; have q157 : (ji44) < (y156.length : Int) := (by have h_ : ((ji44) : Int) < ((x5_3.length : Int) : Int) := Sqz.od; first | (have e_ := (Kd.R_reads' HO_5.out).1; omega) | simpa only [Ny154.out, Ny156.out, List.length_set] using h_); have ql157 : (((ji44) : Int) < ((x5_3.length : Int) : Int)) = True := eq_true (Sqz.od); obtain ⟨ad157, e157, hx157_0⟩ := Kd.at_int (Kd.R_reads' HO_5.out).2.2 (ji44) p157 q157; obtain rfl : (⟨go40, 0, none⟩ : Addr) = ad157 := (by injection e157); (first | simp only [add_plain] at hx157_0 | simp only [add_at] at hx157_0 | simp only [Addr.add, Nat.zero_add] at hx157_0 | skip); replace p157 := eq_true p157; replace q157 := eq_true q157; have p160 : 0 ≤ ((ji44) : Int) := Sqz.od; have q160 : (ji44) < (y156.length : Int) := (by have h_ : ((ji44) : Int) < ((x5_3.length : Int) : Int) := Sqz.od; first | (have e_ := (Kd.R_reads' HO_5.out).1; omega) | simpa only [Ny154.out, Ny156.out, List.length_set] using h_); have ql160 : (((ji44) : Int) < ((x5_3.length : Int) : Int)) = True := eq_true (Sqz.od); obtain ⟨ad160, e160, hx160_0⟩ := Kd.at_int (Kd.R_reads' HO_5.out).2.2 (ji44) p160 q160; obtain rfl : (⟨go40, 0, none⟩ : Addr) = ad160 := (by injection e160); (first | simp only [add_plain] at hx160_0 | simp only [add_at] at hx160_0 | simp only [Addr.add, Nat.zero_add] at hx160_0 | skip); replace p160 := eq_true p160; replace q160 := eq_true q160; have p57 : 0 ≤ ((ji44) : Int) := Sqz.od; have q57 : ((ji44) : Int) < ((x5_3.length : Int) : Int) := Sqz.od; obtain ⟨hx57_0, hf57_0⟩ := Kd.R_celln 0 HO_5.out ((ji44) : Int) p57 q57; replace p57 := eq_true p57; replace q57 := eq_true q57; obtain ⟨hy66_, hz66_⟩ := Kd.R_celln 0 HO_5.out ((ji44) : Int) (Sqz.od) (Sqz.od); have HP66 := Kd.R_putg HO_5.out ((ji44) : Int) (wrap64 ((rd y156 (ji44)) * t152))) | ((with_reducible refine gate_store (t := 3) (p := 107) rfl ?_); refine store_event (t := 3) (p := 107) (v := ?vo_w67) (w1 := (w65.setCell ⟨go40, ((ji44) : Int).toNat, none⟩ (.int .i64 (wrap64 ((rd y156 (ji44)) * t152))))) ?hg ?ho ?hn ?hr ?_; (case ho => rfl); (case hg => rfl); (case hn => rfl); (case hr => first | (go_simp; done) | (go_simp; rfl)); intro w67 hw; have hg : w65.grownBy w67 (some go40) := (by rw [hw]; exact HP66.2); have hp_ : Kd.R (Kd.int .i64) 3 w67 w.heap.size (fun k_ => some k_ ≠ (v140 : Value).ownBlock) (.slice (some ⟨go40, 0, none⟩) x5_3.length co60) y161 := (by rw [hw, Ny161.out]; exact HP66.1); clear HP66; replace HO_5 := Aside0.mk (hp_); replace HO_6 := Aside0.mk (Kd.R_after (v := (.slice (some ⟨go40, 0, none⟩) x5_3.length co60)) (v1 := (.slice (some ⟨go40, 0, none⟩) x5_3.length co60)) (ok := (fun _ => True)) ((Sqz.mvR HO_6.out)) hg (.inl rfl)); replace HB := Aside0.mk ((by rw [hw]; exact below_set (HB.out) GB40.out : Below w.heap.size w w67)); clear hg hw hp_; obtain ⟨Ao68, co68, eo68⟩ := Kd.R_slice HO_6.out; subst eo68; have p162 : 0 ≤ ((ji44) : Int) := Sqz.od; have q162 : (ji44) < (x6_3.length : Int) := Sqz.od; obtain ⟨ad162, e162, hx162_0⟩ := Kd.at_int (Kd.R_reads' HO_6.out).2.2 (ji44) p162 q162; cases e162; replace p162 := eq_true p162; replace q162 := eq_true q162; have p59 : 0 ≤ ((ji44) : Int) := Sqz.od; have q59 : ((ji44) : Int) < ((x6_3.length : Int) : Int) := Sqz.od; obtain ⟨go59, co59, eo59, gb59, gl59, cl59, HG59⟩ := Kd.R_form HO_6.out (by omega); (first | cases eo59 | (injection eo59 with ea_ en_ ec_; (first | subst ea_ | (injection ea_ with ea_; subst ea_)); subst ec_; clear en_)); have GB59 := Aside0.mk gb59; have GG59 := Aside0.mk HG59; clear gb59 gl59 HG59; (first | simp only [add_plain] at hx162_0 | skip); obtain ⟨hx59_0, hf59_0⟩ := Kd.R_celln 0 HO_6.out ((ji44) : Int) p59 q59; replace p59 := eq_true p59; replace q59 := eq_true q59; have n_ := Aside0.mk (Kd.R_mono (ok' := (fun k_ => some k_ ≠ (.slice (some ⟨go40, 0, none⟩) x5_3.length co60 : Value).ownBlock)) HO_6.out (fun k_ hk => hk.2)); clear HO_6; have HO_6 := n_; clear n_; obtain ⟨hy69_, hz69_⟩ := Kd.R_celln 0 HO_6.out ((ji44) : Int) (Sqz.od) (Sqz.od); have HP69 := Kd.R_putg HO_6.out ((ji44) : Int) (wrap64 ((rd x6_3 (ji44)) * t152))) | ((with_reducible refine gate_store (t := 3) (p := 114) rfl ?_); refine store_event (t := 3) (p := 114) (v := ?vo_w70) (w1 := (w67.setCell ⟨go59, ((ji44) : Int).toNat, none⟩ (.int .i64 (wrap64 ((rd x6_3 (ji44)) * t152))))) ?hg ?ho ?hn ?hr ?_; (case ho => rfl); (case hg => rfl); (case hn => rfl); (case hr => first | (go_simp; done) | (go_simp; rfl)); intro w70 hw; have hg : w67.grownBy w70 (some go59) := (by rw [hw]; exact HP69.2); have hp_ : Kd.R (Kd.int .i64) 3 w70 w.heap.size (fun k_ => some k_ ≠ (.slice (some ⟨go40, 0, none⟩) x5_3.length co60 : Value).ownBlock) (.slice (some ⟨go59, 0, none⟩) x6_3.length co68) y163 := (by rw [hw, Ny163.out]; exact HP69.1); clear HP69; replace HO_5 := Aside0.mk (Kd.R_after (v := (.slice (some ⟨go59, 0, none⟩) x6_3.length co68)) (v1 := (.slice (some ⟨go59, 0, none⟩) x6_3.length co68)) (ok := (fun _ => True)) ((Sqz.mvR (Kd.R_mono HO_5.out (fun _ hk => ⟨trivial, hk⟩)))) hg (.inl rfl)); replace HO_6 := Aside0.mk (hp_); replace HB := Aside0.mk ((by rw [hw]; exact below_set (HB.out) GB59.out : Below w.heap.size w w70)); clear hg hw hp_))
                  go_roundg k3
                  case measure => have := HJ1.out; have := HK2.out; have := HK3.out; omega
                  case rel => exact ⟨(y161), (y163), H', ⟨by have := HJ1.out; have := HK2.out; have := HK3.out; omega⟩, ⟨(Sqz.mvR (Kd.R_mono HO_5.out (fun _ hk => (by first | exact hk.2 | exact trivial))))⟩, ⟨(Sqz.mvR HO_6.out)⟩, ⟨Sqz.auHB⟩⟩
                 ·rw [if_neg c58] at H; exact absurd H (by simp)
               ·rw [if_neg c46] at H; exact absurd H (by simp)
              ·rw [if_neg c45] at H; exact absurd H (by simp)
             ·rw [if_neg c42] at H; exact absurd H (by simp)
            ·rw [if_neg c41] at H; exact absurd H (by simp)
           ·rw [if_neg c39] at H; exact absurd H (by simp)
          ·rw [if_neg c38] at H; exact absurd H (by simp)

/-! ### impl_product: function 65 -/
def impl_product.l0 : Nat → Int → List Int → Int → Int → Option (Int)
 | 0, _, _, _, _ => none
 | k + 1, x3, x6, x7, x8 => if x8 < x7 then (if 0 ≤ x8 then (if x8 < (x6.length : Int) then (impl_product.l0 k (wrap64 (x3 * (rd x6 x8))) x6 x7 (wrap64 (x8 + 1))) else (none)) else (none)) else (some x3)
def impl_product.f (k : Nat) (l0 : List Int) : Option (Int) := impl_product.l0 k 1 l0 (l0.length : Int) 0
set_option maxHeartbeats 8000000 in
set_option maxRecDepth 100000 in
theorem impl_product.calls (k : Nat) (A0 : Option Addr) (c0 : Nat) (l0 : List Int) (r : Int) (w : World) (hr0 : Kd.C (Kd.int .i64) w A0 l0.length l0) (hc0 : l0.length ≤ c0) (h : impl_product.f k l0 = some r) :
  Calls Tryz.prog 65 #[.slice A0 l0.length c0] w fun e w' => e = .returned (.int .i64 r) ∧ Drawn0 w w' := by
 have HR0 := Aside0.mk hr0; have HC0 := Aside0.mk hc0; clear hr0 hc0; have H : (impl_product.l0 k 1 l0 (l0.length : Int) 0) = some r := h; clear h; have H' := Aside0.mk H; clear H
 go_enter Tryz.func65, Tryz.ntmps65
 go_wp2
 go_loopg [3, 8] k (fun kq v3 v8 w' => ∃ (x3_1 : Int) (x8_1 : Int), v3 = .int .i64 x3_1 ∧ v8 = .int .i64 x8_1 ∧ Aside0 (impl_product.l0 kq x3_1 l0 (l0.length : Int) x8_1 = some r) ∧ Aside0 (kq ≤ k) ∧ Drawn0 w w')
 case atStart => exact ⟨(1), (0), Sqz.auS, Sqz.auS, H', ⟨Nat.le_refl _⟩, by repeat (first | exact Drawn0.refl _ | apply Drawn0.step)⟩
 case round =>
  clear H'; obtain ⟨x3_1, x8_1, rfl, rfl, HA, HK1, ⟨m1, rfl⟩⟩ := hrel; cases gk with
  | zero => exact absurd HA.out (by simp [impl_product.l0])
  | succ k1 =>
   have H := HA.out; clear HA; simp only [impl_product.l0] at H
   by_cases c2 : x8_1 < (l0.length : Int)
   ·rw [if_pos c2] at H; have c2b0 := decide_eq_true c2; clear c2
    by_cases c3 : 0 ≤ x8_1
    ·rw [if_pos c3] at H; have c3b0 := decide_eq_true c3; clear c3
     by_cases c4 : x8_1 < (l0.length : Int)
     ·rw [if_pos c4] at H; have c4b0 := decide_eq_true c4; clear c4; have H' := Aside0.mk H; clear H; have p164 : 0 ≤ (x8_1 : Int) := Sqz.od; have q164 : x8_1 < (l0.length : Int) := Sqz.od; obtain ⟨ad164, e164, hx164_0⟩ := Kd.at_int HR0.out x8_1 p164 q164; cases e164; replace p164 := eq_true p164; replace q164 := eq_true q164; go_wp2
      go_roundg k1
      case measure => have := HK1.out; omega
      case rel => exact ⟨(wrap64 (x3_1 * (rd l0 x8_1))), (wrap64 (x8_1 + 1)), Sqz.auS, Sqz.auS, H', ⟨by have := HK1.out; omega⟩, by repeat (first | exact Drawn0.refl _ | apply Drawn0.step)⟩
     ·rw [if_neg c4] at H; exact absurd H (by simp)
    ·rw [if_neg c3] at H; exact absurd H (by simp)
   ·rw [if_neg c2] at H; have c2b0 := decide_eq_false c2; clear c2; obtain rfl := Option.some.inj H; go_wp2; go_ret
    exact ⟨Sqz.auS, by repeat (first | exact Drawn0.refl _ | apply Drawn0.step)⟩

/-! ### impl_squareRoot: function 110 -/
def impl_squareRoot.l0 : Nat → Int → Int → Int → Option (Int × Bool)
 | 0, _, _, _ => none
 | k + 1, x0, x4, x5 => if x5 > 0 then (if (wrap64 ((wrap64 (x4 + x5)) * (wrap64 (x4 + x5)))) ≤ x0 then (impl_squareRoot.l0 k x0 (wrap64 (x4 + x5)) (wrap64 (Int.tdiv x5 2))) else (impl_squareRoot.l0 k x0 x4 (wrap64 (Int.tdiv x5 2)))) else (some (x4, ((wrap64 (x4 * x4)) == x0)))
def impl_squareRoot.f (k : Nat) (a0 : Int) : Option (Int × Bool) := if a0 < 0 then (some (0, false)) else (impl_squareRoot.l0 k a0 0 1073741824)
set_option maxHeartbeats 8000000 in
set_option maxRecDepth 100000 in
theorem impl_squareRoot.calls (k : Nat) (a0 : Int) (r1 : Int) (r2 : Bool) (w : World) (h : impl_squareRoot.f k a0 = some (r1, r2)) :
  Calls Tryz.prog 110 #[.int .i64 a0] w fun e w' => e = .returned (.tuple #[.int .i64 r1, .bool r2]) ∧ Drawn0 w w' := by
 have H : (if a0 < 0 then (some (0, false)) else (impl_squareRoot.l0 k a0 0 1073741824)) = some (r1, r2) := h; clear h
 by_cases c2 : a0 < 0
 ·rw [if_pos c2] at H; have c2b0 := decide_eq_true c2; clear c2; simp only [Option.some.injEq, Prod.mk.injEq] at H; obtain ⟨rfl, rfl⟩ := H
  go_enter Tryz.func110, Tryz.ntmps110
  go_wp2; go_ret2
  exact ⟨Sqz.auS, by repeat (first | exact Drawn0.refl _ | apply Drawn0.step)⟩
 ·rw [if_neg c2] at H; have c2b0 := decide_eq_false c2; clear c2; have H' := Aside0.mk H; clear H
  go_enter Tryz.func110, Tryz.ntmps110
  go_wp2
  go_loopg [4, 5] k (fun kq v4 v5 w' => ∃ (x4_1 : Int) (x5_1 : Int), v4 = .int .i64 x4_1 ∧ v5 = .int .i64 x5_1 ∧ Aside0 (impl_squareRoot.l0 kq a0 x4_1 x5_1 = some (r1, r2)) ∧ Aside0 (kq ≤ k) ∧ Drawn0 w w')
  case atStart => exact ⟨(0), (1073741824), Sqz.auS, Sqz.auS, H', ⟨Nat.le_refl _⟩, by repeat (first | exact Drawn0.refl _ | apply Drawn0.step)⟩
  case round =>
   clear H'
   try clear c1
   try clear c2
   try clear c2b0
   try clear p2
   obtain ⟨x4_1, x5_1, rfl, rfl, HA, HK1, ⟨m1, rfl⟩⟩ := hrel; cases gk with
   | zero => exact absurd HA.out (by simp [impl_squareRoot.l0])
   | succ k1 =>
    have H := HA.out; clear HA; simp only [impl_squareRoot.l0] at H
    by_cases c3 : x5_1 > 0
    ·rw [if_pos c3] at H; have c3b0 : decide (0 < x5_1) = true := decide_eq_true c3; clear c3
     by_cases c4 : (wrap64 ((wrap64 (x4_1 + x5_1)) * (wrap64 (x4_1 + x5_1)))) ≤ a0
     ·rw [if_pos c4] at H; have c4b0 := decide_eq_true c4; clear c4; have H' := Aside0.mk H; clear H; go_wp2
      go_roundg k1
      case measure => have := HK1.out; omega
      case rel => exact ⟨(wrap64 (x4_1 + x5_1)), (wrap64 (Int.tdiv x5_1 2)), Sqz.auS, Sqz.auS, H', ⟨by have := HK1.out; omega⟩, by repeat (first | exact Drawn0.refl _ | apply Drawn0.step)⟩
     ·rw [if_neg c4] at H; have c4b0 := decide_eq_false c4; clear c4; have H' := Aside0.mk H; clear H; go_wp2
      go_roundg k1
      case measure => have := HK1.out; omega
      case rel => exact ⟨(x4_1), (wrap64 (Int.tdiv x5_1 2)), Sqz.auS, Sqz.auS, H', ⟨by have := HK1.out; omega⟩, by repeat (first | exact Drawn0.refl _ | apply Drawn0.step)⟩
    ·rw [if_neg c3] at H; have c3b0 : decide (0 < x5_1) = false := decide_eq_false c3; clear c3; simp only [Option.some.injEq, Prod.mk.injEq] at H; obtain ⟨rfl, rfl⟩ := H; go_wp2; go_ret2
     exact ⟨Sqz.auS, by repeat (first | exact Drawn0.refl _ | apply Drawn0.step)⟩

end Go.Proofs.YtacfcoilmdhgnaaGreatDoor.PFnExecuteZero
