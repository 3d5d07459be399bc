/- A function's Lean twin and its walk, written by a program of this session. -/
import Derived.Test.YtacfcoilmdhgnaaGreatDoorTPFnExecuteValuex0
import Derived.Test.YtacfcoilmdhgnaaGreatDoorTPFnExecuteValuex1
import Derived.Test.YtacfcoilmdhgnaaGreatDoorTPFnExecuteValuex2
import Derived.Test.YtacfcoilmdhgnaaGreatDoorTPFnExecuteValuex6
namespace Go.Proofs.YtacfcoilmdhgnaaGreatDoor.PFnExecuteValue
open Go.RowKit Go.Proofs.YtacfcoilmdhgnaaGreatDoorW.PrintWords Go.Proofs.YtacfcoilmdhgnaaGreatDoorW.PrintLast Go.Proofs.YtacfcoilmdhgnaaGreatDoorW.PrintMore
attribute [local go_sem] max2_int min2_int max_two min_two max_three min_three max_four min_four   -- for this text's walks alone
set_option linter.unusedVariables false
set_option linter.unusedSimpArgs false

/-! ### impl_ValueFind: function 40 -/
mutual
def impl_ValueFind.j0 : Nat → List Int → Int → Bool → Option (List Int × Int × Bool)
 | 0, _, _, _ => none
 | k + 1, x0, x1, x33 => if x33 = true then (some (([] : List Int), 0, false)) else ((impl_ZeroFind.f k x0).bind fun bt195 => (if bt195.2 = true then (impl_ValueFind.l0 k x0 x1 (([] : List Int)) bt195.1 0) else ((slices_Clone_int_int.f x0).bind fun t208 => (if t208.length < 17592186044416 then ((impl_ZeroFind.f k (t208 ++ [wrap64 (-x1)])).bind fun bt214 => (if bt214.2 = true then (if 0 ≤ (x0.length : Int) then (if (x0.length : Int) ≤ (bt214.1.length : Int) then (if (x0.length : Int) < (bt214.1.length : Int) then (impl_ValueFind.j3 k (bt214.1.take ((x0.length : Int) : Int).toNat) (rd bt214.1 (x0.length : Int))) else (none)) else (none)) else (none)) else (some (([] : List Int), 0, false)))) else (none)))))
def impl_ValueFind.j3 : Nat → List Int → Int → Option (List Int × Int × Bool)
 | 0, _, _ => none
 | k + 1, x7, x8 => (slices_Clone_int_int.f x7).bind fun t223 => (if t223.length < 17592186044416 then ((impl_gcd.f k (t223 ++ [x8])).bind fun t229 => (if x8 < 0 then (impl_ValueFind.j4 k x7 x8 (wrap64 (-t229))) else (impl_ValueFind.j4 k x7 x8 t229))) else (none))
def impl_ValueFind.j4 : Nat → List Int → Int → Int → Option (List Int × Int × Bool)
 | 0, _, _, _ => none
 | k + 1, x7, x8, x17 => impl_ValueFind.l2 k x8 x17 (([] : List Int)) x7 (x7.length : Int) 0
def impl_ValueFind.l2 : Nat → Int → Int → List Int → List Int → Int → Int → Option (List Int × Int × Bool)
 | 0, _, _, _, _, _, _ => none
 | k + 1, x8, x17, x18, x113, x114, x115 => if x115 < x114 then (if 0 ≤ x115 then (if x115 < (x113.length : Int) then (if x17 = 0 then (none) else (if x18.length < 17592186044416 then (impl_ValueFind.l2 k x8 x17 (x18 ++ [wrap64 (Int.tdiv (rd x113 x115) x17)]) x113 x114 (wrap64 (x115 + 1))) else (none))) else (none)) else (none)) else (if x17 = 0 then (none) else (some (x18, wrap64 (Int.tdiv x8 x17), true)))
def impl_ValueFind.l0 : Nat → List Int → Int → List Int → List Int → Int → Option (List Int × Int × Bool)
 | 0, _, _, _, _, _ => none
 | k + 1, x0, x1, x7, x9, x11 => if 0 ≤ x11 then (if x11 < (x9.length : Int) then (if (rd x9 x11) = 0 then (impl_ValueFind.l0 k x0 x1 x7 x9 (wrap64 (x11 + 1))) else (if x11 < (x0.length : Int) then (impl_ValueFind.l1 k x1 x7 (wrap64 ((wrap64 (2 * (rd x0 x11))) * (rd x9 x11))) x11 (rd x0 x11) x9 (x9.length : Int) 0) else (none))) else (none)) else (none)
def impl_ValueFind.l1 : Nat → Int → List Int → Int → Int → Int → List Int → Int → Int → Option (List Int × Int × Bool)
 | 0, _, _, _, _, _, _, _, _ => none
 | k + 1, x1, x7, x8, x11, x12, x59, x60, x61 => if x61 < x60 then (if 0 ≤ x61 then (if x61 < (x59.length : Int) then (if x7.length < 17592186044416 then (impl_ValueFind.l1 k x1 (x7 ++ [wrap64 ((rd x59 x61) * (wrap64 (x1 - x12)))]) x8 x11 x12 x59 x60 (wrap64 (x61 + 1))) else (none)) else (none)) else (none)) else (if 0 ≤ x11 then (if x11 < (x7.length : Int) then (impl_ValueFind.j3 k (x7.set (x11 : Int).toNat (wrap64 ((rd x7 x11) + x8))) x8) else (none)) else (none))
end
def impl_ValueFind.f (k : Nat) (l0 : List Int) (a1 : Int) : Option (List Int × Int × Bool) := (impl_FormValid.f k l0).bind fun t190 => (if t190 = true then (if (l0.length : Int) > 3 then (impl_ValueFind.j0 k l0 a1 true) else ((impl_valueOk.f a1).bind fun t191 => (impl_ValueFind.j0 k l0 a1 (!t191)))) else (impl_ValueFind.j0 k l0 a1 true))
set_option maxHeartbeats 8000000 in
set_option maxRecDepth 100000 in
theorem impl_ValueFind.calls (k : Nat) (A0 : Option Addr) (c0 : Nat) (l0 : List Int) (a1 : Int) (r1 : List Int) (r2 : Int) (r3 : Bool) (w : World) (hr0 : Kd.C (Kd.int .i64) w A0 l0.length l0) (hc0 : l0.length ≤ c0) (h : impl_ValueFind.f k l0 a1 = some (r1, r2, r3)) :
  Calls Tryz.prog 40 #[.slice A0 l0.length c0, .int .i64 a1] w fun e w' => ∃ v0_ : Value, e = .returned (.tuple #[v0_, .int .i64 r2, .bool r3]) ∧ Kd.R (Kd.int .i64) 3 w' w.heap.size (fun _ => True) v0_ r1 ∧ Below w.heap.size w w' := by
 have HR0 := Aside0.mk hr0; have HC0 := Aside0.mk hc0; clear hr0 hc0; have HB := Aside0.mk (Below.refl w.heap.size w); have H : ((impl_FormValid.f k l0).bind fun t190 => (if t190 = true then (if (l0.length : Int) > 3 then (impl_ValueFind.j0 k l0 a1 true) else ((impl_valueOk.f a1).bind fun t191 => (impl_ValueFind.j0 k l0 a1 (!t191)))) else (impl_ValueFind.j0 k l0 a1 true))) = some (r1, r2, r3) := h; clear h; have HC3 := Aside0.mk H; clear H
 go_enter Tryz.func40, Tryz.ntmps40
 go_upto_region 1 with (fail)
 go_cut [33] (fun v33 wc => ∃ (kq : Nat) (x33_2 : Bool), v33 = .bool x33_2 ∧ Aside0 (impl_ValueFind.j0 kq l0 a1 x33_2 = some (r1, r2, r3)) ∧ Aside0 (kq ≤ k) ∧ Aside0 (Below w.heap.size w wc))
 case first =>
  have H := HC3.out; clear HC3; obtain ⟨t190, A4, H⟩ := Sqz.be H
  by_cases c5 : t190 = true
  ·subst c5; have H1 : (if (l0.length : Int) > 3 then (impl_ValueFind.j0 k l0 a1 true) else ((impl_valueOk.f a1).bind fun t191 => (impl_ValueFind.j0 k l0 a1 (!t191)))) = some (r1, r2, r3) := by rw [if_pos rfl] at H; exact H
   clear H; have H := H1; clear H1
   by_cases c6 : (l0.length : Int) > 3
   ·rw [if_pos c6] at H; have c6b0 : decide (3 < (l0.length : Int)) = true := decide_eq_true c6; clear c6
    have H' := Aside0.mk H; clear H
    go_wp2_with ((go_at_call 59; (with_reducible refine (impl_FormValid.calls k _ _ l0 true _ ?side1 ?side2 A4.out).mono ?_); (case side1 => exact Sqz.mvC ((Kd.C_below HR0.out HB.out))); (case side2 => exact HC0.out); rintro e w7 ⟨rfl, hb⟩; replace HB := Aside0.mk (below_step (Sqz.auHB) hb); (try clear hb)))
    go_meet
    case rel => exact ⟨_, (true), Sqz.auS, H', ⟨Sqz.auN⟩, ⟨Sqz.auHB⟩⟩
   ·rw [if_neg c6] at H; have c6b0 : decide (3 < (l0.length : Int)) = false := decide_eq_false c6; clear c6
    obtain ⟨t191, A8, H⟩ := Sqz.be H; have H' := Aside0.mk H; clear H
    go_wp2_with (first | (go_at_call 59; (with_reducible refine (impl_FormValid.calls k _ _ l0 true _ ?side1 ?side2 A4.out).mono ?_); (case side1 => exact Sqz.mvC ((Kd.C_below HR0.out HB.out))); (case side2 => exact HC0.out); rintro e w9 ⟨rfl, hb⟩; replace HB := Aside0.mk (below_step (Sqz.auHB) hb); (try clear hb)) | (go_at_call 86; (with_reducible refine (impl_valueOk.calls a1 t191 _ A8.out).mono ?_); rintro e w' ⟨rfl, ⟨nd, rfl⟩⟩; (try first | exact ⟨rfl, _, World.drewN_drewN _ _ _⟩ | exact ⟨rfl, _, Eq.trans (World.drewN_drewN _ _ _) (congrArg (World.drewN _) (Nat.add_assoc _ _ _))⟩)))
    go_meet
    case rel => exact ⟨_, (!t191), Sqz.auS, H', ⟨Sqz.auN⟩, ⟨Sqz.auHB⟩⟩
  ·replace c5 := Bool.eq_false_iff.mpr c5; subst c5; have H1 : (impl_ValueFind.j0 k l0 a1 true) = some (r1, r2, r3) := by rw [if_neg (show ¬ (false = true) by decide)] at H; exact H
   clear H; have H := H1; clear H1; have H' := Aside0.mk H; clear H
   go_wp2_with ((go_at_call 59; (with_reducible refine (impl_FormValid.calls k _ _ l0 false _ ?side1 ?side2 A4.out).mono ?_); (case side1 => exact Sqz.mvC ((Kd.C_below HR0.out HB.out))); (case side2 => exact HC0.out); rintro e w10 ⟨rfl, hb⟩; replace HB := Aside0.mk (below_step (Sqz.auHB) hb); (try clear hb)))
   go_meet
   case rel => exact ⟨_, (true), Sqz.auS, H', ⟨Sqz.auN⟩, ⟨Sqz.auHB⟩⟩
 case rest =>
  clear HC3
  obtain ⟨kq, x33_2, rfl, HA, HJ2, HB⟩ := hcut; cases kq with
  | zero => exact absurd HA.out (by simp [impl_ValueFind.j0])
  | succ kj2 =>
   have H := HA.out; clear HA; simp only [impl_ValueFind.j0] at H
   by_cases c11 : x33_2 = true
   ·subst c11; have H1 : (some (([] : List Int), 0, false)) = some (r1, r2, r3) := by rw [if_pos rfl] at H; exact H
    clear H; have H := H1; clear H1; simp only [Option.some.injEq, Prod.mk.injEq] at H; obtain ⟨rfl, rfl, rfl⟩ := H; go_wp2
    go_ret3
    exact ⟨_, Sqz.auR, by first | exact Kd.R_nil _ _ _ _ _ | exact Kd.N_nil _ _ _ _ _ | exact Kd.V_nil _ _ _ _ _ | exact Kd.Q_nil _ _ _ _ _ | exact Kd.S_nil _ _ _ _ _, Sqz.auHB⟩
   ·replace c11 := Bool.eq_false_iff.mpr c11; subst c11; have H1 : ((impl_ZeroFind.f kj2 l0).bind fun bt195 => (if bt195.2 = true then (impl_ValueFind.l0 kj2 l0 a1 (([] : List Int)) bt195.1 0) else ((slices_Clone_int_int.f l0).bind fun t208 => (if t208.length < 17592186044416 then ((impl_ZeroFind.f kj2 (t208 ++ [wrap64 (-a1)])).bind fun bt214 => (if bt214.2 = true then (if 0 ≤ (l0.length : Int) then (if (l0.length : Int) ≤ (bt214.1.length : Int) then (if (l0.length : Int) < (bt214.1.length : Int) then (impl_ValueFind.j3 kj2 (bt214.1.take ((l0.length : Int) : Int).toNat) (rd bt214.1 (l0.length : Int))) else (none)) else (none)) else (none)) else (some (([] : List Int), 0, false)))) else (none))))) = some (r1, r2, r3) := by rw [if_neg (show ¬ (false = true) by decide)] at H; exact H
    clear H; have H := H1; clear H1; obtain ⟨y192, hyy⟩ : ∃ y_ : List Int, y_ = (([] : List Int)) := ⟨_, rfl⟩
    replace H : ((impl_ZeroFind.f kj2 l0).bind fun bt195 => (if bt195.2 = true then (impl_ValueFind.l0 kj2 l0 a1 y192 bt195.1 0) else ((slices_Clone_int_int.f l0).bind fun t208 => (if t208.length < 17592186044416 then ((impl_ZeroFind.f kj2 (t208 ++ [wrap64 (-a1)])).bind fun bt214 => (if bt214.2 = true then (if 0 ≤ (l0.length : Int) then (if (l0.length : Int) ≤ (bt214.1.length : Int) then (if (l0.length : Int) < (bt214.1.length : Int) then (impl_ValueFind.j3 kj2 (bt214.1.take ((l0.length : Int) : Int).toNat) (rd bt214.1 (l0.length : Int))) else (none)) else (none)) else (none)) else (some (([] : List Int), 0, false)))) else (none))))) = some (r1, r2, r3) := Sqz.auY
    have Ny192 := Aside0.mk hyy; clear hyy; replace H := Option.bind_eq_some_iff.mp H; obtain ⟨⟨t195, t196⟩, A120, H⟩ := H; replace H : (if t196 = true then (impl_ValueFind.l0 kj2 l0 a1 y192 t195 0) else ((slices_Clone_int_int.f l0).bind fun t208 => (if t208.length < 17592186044416 then ((impl_ZeroFind.f kj2 (t208 ++ [wrap64 (-a1)])).bind fun bt214 => (if bt214.2 = true then (if 0 ≤ (l0.length : Int) then (if (l0.length : Int) ≤ (bt214.1.length : Int) then (if (l0.length : Int) < (bt214.1.length : Int) then (impl_ValueFind.j3 kj2 (bt214.1.take ((l0.length : Int) : Int).toNat) (rd bt214.1 (l0.length : Int))) else (none)) else (none)) else (none)) else (some (([] : List Int), 0, false)))) else (none)))) = some (r1, r2, r3) := H; have A12 := Aside0.mk A120; clear A120; have HC13 := Aside0.mk H; clear H
    go_upto_if 40 with (first | ((with_reducible refine gate_dst (N := 34) rfl ?_); (try (refine gate_guard (by rfl) ?_; dsimp only)); refine Kd.R_lit (Kd.int .i64) _ 3 ?hg (N := 34) ?hd (xs := ([] : List Int)) (inner := []) (ok := fun _ => True) (okp := fun _ => True) ?hr ?hp (fun _ hk => hk) trivial (Below.refl _ _) (Nat.le_refl _) (by simp) ?_; (case hd => rfl); (case hg => rfl); (case hr => first | (go_simp; done) | (go_simp; rfl)); (case hp => exact (Reps.none _ _)); intro v193 w14 ho15 hb hg_ hnew_; clear hg_ hnew_; (first | rw [← Ny192.out] at ho15 | (simp only [Int.reduceToNat] at ho15; rw [← Ny192.out] at ho15)); have HO194 := Aside0.mk (Kd.R_lower ho15 (below_size (Sqz.auHB))); replace HB := Aside0.mk (below_step (Sqz.auHB) hb); clear hb ho15) | (go_at_call 37; (with_reducible refine (impl_ZeroFind.calls kj2 _ _ l0 t195 t196 _ ?side1 ?side2 A12.out).mono ?_); (case side1 => exact Sqz.mvC ((Kd.C_below HR0.out HB.out))); (case side2 => exact HC0.out); rintro e w16 ⟨v197, rfl, ho0, hb⟩; have HO198 := Aside0.mk (Kd.R_lower (Kd.R_new' ho0 (Kd.R_lt ((Sqz.mvR HO194.out)))) (below_size (Sqz.auHB))); replace HO194 := Aside0.mk (Kd.R_elder' ((Sqz.mvR HO194.out)) (Kd.R_base ho0) hb); replace HB := Aside0.mk (below_step (Sqz.auHB) hb); (try clear hb); (try clear ho0)))
    (try simp only [Act.put, List.setIfInBounds_toArray, List.set_cons_zero, List.set_cons_succ])
    go_cut [7, 8] (fun v7 v8 wc => ∃ (kq : Nat) (x7_12 : List Int) (x8_12 : Int), v8 = .int .i64 x8_12 ∧ Aside0 (impl_ValueFind.j3 kq x7_12 x8_12 = some (r1, r2, r3)) ∧ Aside0 (kq ≤ kj2) ∧ Aside0 (Kd.R (Kd.int .i64) 3 wc w.heap.size (fun _ => True) v7 x7_12) ∧ Aside0 (Below w.heap.size w wc))
    case first =>
     have H := HC13.out; clear HC13
     by_cases c17 : t196 = true
     ·subst c17; have H1 : (impl_ValueFind.l0 kj2 l0 a1 y192 t195 0) = some (r1, r2, r3) := by rw [if_pos rfl] at H; exact H
      clear H; have H := H1; clear H1; have H' := Aside0.mk H; clear H; go_wp2
      go_loopg [11] kj2 (fun kq v11 w' => ∃ (x11_2 : Int), v11 = .int .i64 x11_2 ∧ Aside0 (impl_ValueFind.l0 kq l0 a1 y192 t195 x11_2 = some (r1, r2, r3)) ∧ Aside0 (kq ≤ kj2) ∧ Aside0 (Kd.R (Kd.int .i64) 3 w' w.heap.size (fun k_ => some k_ ≠ (v197 : Value).ownBlock) v193 y192) ∧ Aside0 (Kd.R (Kd.int .i64) 3 w' w.heap.size (fun k_ => some k_ ≠ (v193 : Value).ownBlock) v197 t195) ∧ Aside0 (Below w.heap.size w w'))
      case atStart => exact ⟨(0), Sqz.auS, H', ⟨Nat.le_refl _⟩, ⟨(Sqz.mvR (Kd.R_mono HO194.out (fun _ hk => (by first | exact hk.2 | exact trivial))))⟩, ⟨(Sqz.mvR (Kd.R_mono HO198.out (fun _ hk => (by first | exact hk.2 | exact trivial))))⟩, ⟨Sqz.auHB⟩⟩
      case round =>
       clear H'
       obtain ⟨x11_2, rfl, HA, HK2, HO_7, HO_9, HB⟩ := hrel; cases gk with
       | zero => exact absurd HA.out (by simp [impl_ValueFind.l0])
       | succ k2 =>
        have H := HA.out; clear HA; simp only [impl_ValueFind.l0] at H
        by_cases c18 : 0 ≤ x11_2
        ·rw [if_pos c18] at H; have c18b0 := decide_eq_true c18; clear c18
         by_cases c19 : x11_2 < (t195.length : Int)
         ·rw [if_pos c19] at H; have c19b0 := decide_eq_true c19; clear c19
          by_cases c20 : (rd t195 x11_2) = 0
          ·rw [if_pos c20] at H; have c20b0 := beq_iff_eq.mpr c20; clear c20; have H' := Aside0.mk H; clear H; obtain ⟨Ao21, co21, eo21⟩ := Kd.R_slice HO_9.out; subst eo21; have p199 : 0 ≤ (x11_2 : Int) := Sqz.od; have q199 : x11_2 < (t195.length : Int) := Sqz.od; obtain ⟨ad199, e199, hx199_0⟩ := Kd.at_int (Kd.R_reads' HO_9.out).2.2 x11_2 p199 q199; cases e199; replace p199 := eq_true p199; replace q199 := eq_true q199; go_wp2
           go_roundg k2
           case measure => have := HJ2.out; have := HK2.out; omega
           case rel => exact ⟨(wrap64 (x11_2 + 1)), Sqz.auS, H', ⟨by have := HJ2.out; have := HK2.out; omega⟩, ⟨(Sqz.mvR HO_7.out)⟩, ⟨(Sqz.mvR HO_9.out)⟩, ⟨Sqz.auHB⟩⟩
          ·rw [if_neg c20] at H; have c20b0 := beq_eq_false_iff_ne.mpr c20
           by_cases c22 : x11_2 < (l0.length : Int)
           ·rw [if_pos c22] at H; have c22b0 := decide_eq_true c22; clear c22; have H' := Aside0.mk H; clear H; obtain ⟨Ao23, co23, eo23⟩ := Kd.R_slice HO_9.out; subst eo23; have p199 : 0 ≤ (x11_2 : Int) := Sqz.od; have q199 : x11_2 < (t195.length : Int) := Sqz.od; obtain ⟨ad199, e199, hx199_0⟩ := Kd.at_int (Kd.R_reads' HO_9.out).2.2 x11_2 p199 q199; cases e199; replace p199 := eq_true p199; replace q199 := eq_true q199; have p200 : 0 ≤ (x11_2 : Int) := Sqz.od; have q200 : x11_2 < (l0.length : Int) := Sqz.od; obtain ⟨ad200, e200, hx200_0⟩ := Kd.at_int HR0.out x11_2 p200 q200; cases e200; replace hx200_0 := (HB.out.cell (World.block_lt_of_cell? w _ hx200_0)).trans hx200_0; replace p200 := eq_true p200; replace q200 := eq_true q200; have p201 : 0 ≤ (x11_2 : Int) := Sqz.od; have q201 : x11_2 < (t195.length : Int) := Sqz.od; obtain ⟨ad201, e201, hx201_0⟩ := Kd.at_int (Kd.R_reads' HO_9.out).2.2 x11_2 p201 q201; obtain rfl : ad199 = ad201 := (by injection e201); replace p201 := eq_true p201; replace q201 := eq_true q201; go_wp2
            go_loopg [7, 61] k2 (fun kq v7 v61 w' => ∃ (x7_3 : List Int) (x61_3 : Int), v61 = .int .i64 x61_3 ∧ Aside0 (impl_ValueFind.l1 kq a1 x7_3 (wrap64 ((wrap64 (2 * (rd l0 x11_2))) * (rd t195 x11_2))) x11_2 (rd l0 x11_2) t195 (t195.length : Int) x61_3 = some (r1, r2, r3)) ∧ Aside0 (kq ≤ k2) ∧ Aside0 (Kd.R (Kd.int .i64) 3 w' w.heap.size (fun k_ => some k_ ≠ ((.slice (some ad199) t195.length co23) : Value).ownBlock) v7 x7_3) ∧ Aside0 (Kd.R (Kd.int .i64) 3 w' w.heap.size (fun k_ => some k_ ≠ (v7 : Value).ownBlock) (.slice (some ad199) t195.length co23) t195) ∧ Aside0 (Below w.heap.size w w'))
            case atStart => exact ⟨(y192), (0), Sqz.auS, H', ⟨Nat.le_refl _⟩, ⟨(Sqz.mvR HO_7.out)⟩, ⟨(Sqz.mvR HO_9.out)⟩, ⟨Sqz.auHB⟩⟩
            case round =>
             clear H'
             try clear c18b0
             try clear c19b0
             try clear c20
             try clear c20b0
             try clear c22b0
             try clear hx199_0
             try clear hx200_0
             try clear hx201_0
             try clear p199
             try clear p200
             try clear p201
             try clear q199
             try clear q200
             try clear q201
             obtain ⟨x7_3, x61_3, rfl, HA, HK3, HO_7, HO_59, HB⟩ := hrel; cases gk with
             | zero => exact absurd HA.out (by simp [impl_ValueFind.l1])
             | succ k3 =>
              have H := HA.out; clear HA; simp only [impl_ValueFind.l1] at H
              by_cases c24 : x61_3 < (t195.length : Int)
              ·rw [if_pos c24] at H; have c24b0 := decide_eq_true c24; clear c24
               by_cases c25 : 0 ≤ x61_3
               ·rw [if_pos c25] at H; have c25b0 := decide_eq_true c25; clear c25
                by_cases c26 : x61_3 < (t195.length : Int)
                ·rw [if_pos c26] at H; have c26b0 := decide_eq_true c26; clear c26
                 by_cases c27 : x7_3.length < 17592186044416
                 ·rw [if_pos c27] at H; have LMc27 := Aside0.mk c27; clear c27; obtain ⟨y203, hyy⟩ : ∃ y_ : List Int, y_ = (x7_3 ++ [wrap64 ((rd t195 x61_3) * (wrap64 (a1 - (rd l0 x11_2))))]) := ⟨_, rfl⟩
                  replace H : (impl_ValueFind.l1 k3 a1 y203 (wrap64 ((wrap64 (2 * (rd l0 x11_2))) * (rd t195 x11_2))) x11_2 (rd l0 x11_2) t195 (t195.length : Int) (wrap64 (x61_3 + 1))) = some (r1, r2, r3) := Sqz.auY
                  have Ny203 := Aside0.mk hyy; clear hyy; have H' := Aside0.mk H; clear H; have p202 : 0 ≤ (x61_3 : Int) := Sqz.od; have q202 : x61_3 < (t195.length : Int) := Sqz.od; obtain ⟨ad202, e202, hx202_0⟩ := Kd.at_int (Kd.R_reads' HO_59.out).2.2 x61_3 p202 q202; obtain rfl : ad199 = ad202 := (by injection e202); replace p202 := eq_true p202; replace q202 := eq_true q202
                  go_wp2_with (((with_reducible refine gate_builtin (b := .append) (xs := #[.tmp 65, .tmp 71]) rfl ?_); (try (refine gate_guard (by rfl) ?_; dsimp only)); at_builtin; refine Kd.R_append (Kd.int .i64) (w0 := w) w.heap.size rfl (.tmp 65) (.tmp 71) 27 3 (.int .i64 0) 8 rfl Tryz.underlying27 info3 rfl (by decide) (by omega) u7 x7_3 (wrap64 ((rd t195 x61_3) * (wrap64 (a1 - (rd l0 x11_2))))) [.int .i64 (wrap64 ((rd t195 x61_3) * (wrap64 (a1 - (rd l0 x11_2)))))] (fun k_ => some k_ ≠ (.slice (some ad199) t195.length co23 : Value).ownBlock) (fun _ => False) rfl rfl ?aP (fun _ hk => hk.elim) ?aF ?aO ?aB ?aS ?aL ?_; (case aP => exact rfl); (case aB => exact (Sqz.auHB)); (case aF => exact (fun k_ hk => Kd.fresh' (Kd.R_lt ((Sqz.mvR HO_59.out))) k_ hk)); (case aO => exact ((Sqz.mvR HO_7.out))); (case aS => exact (below_size (Sqz.auHB))); (case aL => have := LMc27.out; omega); intro v204 w28 ho hb hg hat; rw [← Ny203.out] at ho; replace HO_59 := Aside0.mk (Kd.R_after (ok := (fun _ => True)) ((Sqz.mvR (Kd.R_mono HO_59.out (fun _ hk => ⟨trivial, hk⟩)))) hg hat); replace HB := Aside0.mk (hb); have HO205 := Aside0.mk (ho); clear HO_7; clear ho hb hg hat))
                  go_roundg k3
                  case measure => have := HJ2.out; have := HK2.out; have := HK3.out; omega
                  case rel => exact ⟨(y203), (wrap64 (x61_3 + 1)), Sqz.auS, H', ⟨by have := HJ2.out; have := HK2.out; have := HK3.out; omega⟩, ⟨(Sqz.mvR HO205.out)⟩, ⟨(Sqz.mvR (Kd.R_mono HO_59.out (fun _ hk => (by first | exact hk.2 | exact trivial))))⟩, ⟨Sqz.auHB⟩⟩
                 ·rw [if_neg c27] at H; exact absurd H (by simp)
                ·rw [if_neg c26] at H; exact absurd H (by simp)
               ·rw [if_neg c25] at H; exact absurd H (by simp)
              ·rw [if_neg c24] at H; have c24b0 := decide_eq_false c24; clear c24
               by_cases c29 : 0 ≤ x11_2
               ·rw [if_pos c29] at H; have c29b0 := decide_eq_true c29; clear c29
                by_cases c30 : x11_2 < (x7_3.length : Int)
                ·rw [if_pos c30] at H; have c30b0 := decide_eq_true c30; clear c30; obtain ⟨y207, hyy⟩ : ∃ y_ : List Int, y_ = (x7_3.set (x11_2 : Int).toNat (wrap64 ((rd x7_3 x11_2) + (wrap64 ((wrap64 (2 * (rd l0 x11_2))) * (rd t195 x11_2)))))) := ⟨_, rfl⟩
                 replace H : (impl_ValueFind.j3 k3 y207 (wrap64 ((wrap64 (2 * (rd l0 x11_2))) * (rd t195 x11_2)))) = some (r1, r2, r3) := Sqz.auY
                 have Ny207 := Aside0.mk hyy; clear hyy; have H' := Aside0.mk H; clear H; obtain ⟨Ao32, co32, eo32⟩ := Kd.R_slice HO_7.out; subst eo32; have p206 : 0 ≤ (x11_2 : Int) := Sqz.od; have q206 : x11_2 < (x7_3.length : Int) := Sqz.od; obtain ⟨ad206, e206, hx206_0⟩ := Kd.at_int (Kd.R_reads' HO_7.out).2.2 x11_2 p206 q206; cases e206; replace p206 := eq_true p206; replace q206 := eq_true q206; have p31 : 0 ≤ (x11_2 : Int) := Sqz.od; have q31 : (x11_2 : Int) < ((x7_3.length : Int) : Int) := Sqz.od; obtain ⟨go31, co31, eo31, gb31, gl31, cl31, HG31⟩ := Kd.R_form HO_7.out (by omega)
                 (first | cases eo31 | (injection eo31 with ea_ en_ ec_; (first | subst ea_ | (injection ea_ with ea_; subst ea_)); subst ec_; clear en_))
                 have GB31 := Aside0.mk gb31; have GG31 := Aside0.mk HG31; clear gb31 gl31 HG31
                 (first | simp only [add_plain] at hx206_0 | skip)
                 obtain ⟨hx31_0, hf31_0⟩ := Kd.R_celln 0 HO_7.out (x11_2 : Int) p31 q31; replace p31 := eq_true p31; replace q31 := eq_true q31; have HP33 := Kd.R_putg HO_7.out (x11_2 : Int) (wrap64 ((rd x7_3 x11_2) + (wrap64 ((wrap64 (2 * (rd l0 x11_2))) * (rd t195 x11_2)))))
                 go_wp2_with (((with_reducible refine gate_store (t := 3) (p := 80) rfl ?_); (try (rw [drewN_self wr]; generalize hq_ : World.drewN wr _ = wr; replace HO_7 := Aside0.mk (Kd.R_at hq_ HO_7.out); replace HO_59 := Aside0.mk (Kd.R_at hq_ HO_59.out); replace HB := Aside0.mk (below_at hq_ HB.out); clear hq_; (try (have HP33 := Kd.R_putg HO_7.out (x11_2 : Int) (wrap64 ((rd x7_3 x11_2) + (wrap64 ((wrap64 (2 * (rd l0 x11_2))) * (rd t195 x11_2))))))))); refine store_event (t := 3) (p := 80) (v := ?vo_w34) (w1 := (wr.setCell ⟨go31, (x11_2 : Int).toNat, none⟩ (.int .i64 (wrap64 ((rd x7_3 x11_2) + (wrap64 ((wrap64 (2 * (rd l0 x11_2))) * (rd t195 x11_2)))))))) ?hg ?ho ?hn ?hr ?_; (case ho => rfl); (case hg => rfl); (case hn => rfl); (case hr => first | (go_simp; done) | (go_simp; rfl)); intro w34 hw; have hg : wr.grownBy w34 (some go31) := (by rw [hw]; exact HP33.2); have hp_ : Kd.R (Kd.int .i64) 3 w34 w.heap.size (fun k_ => some k_ ≠ (.slice (some ad199) t195.length co23 : Value).ownBlock) (.slice (some ⟨go31, 0, none⟩) x7_3.length co32) y207 := (by rw [hw, Ny207.out]; exact HP33.1); clear HP33; replace HO_7 := Aside0.mk (hp_); replace HO_59 := Aside0.mk (Kd.R_after (v := (.slice (some ⟨go31, 0, none⟩) x7_3.length co32)) (v1 := (.slice (some ⟨go31, 0, none⟩) x7_3.length co32)) (ok := (fun _ => True)) ((Sqz.mvR (Kd.R_mono HO_59.out (fun _ hk => ⟨trivial, hk⟩)))) hg (.inl rfl)); replace HB := Aside0.mk ((by rw [hw]; exact below_set (HB.out) GB31.out : Below w.heap.size w w34)); clear hg hw hp_))
                 go_meet
                 case rel => exact ⟨_, (y207), ((wrap64 ((wrap64 (2 * (rd l0 x11_2))) * (rd t195 x11_2)))), Sqz.auS, H', ⟨by have := HJ2.out; have := HK2.out; have := HK3.out; first | omega | exact Nat.le_refl _⟩, ⟨(Sqz.mvR (Kd.R_mono HO_7.out (fun _ hk => trivial)))⟩, ⟨Sqz.auHB⟩⟩
                ·rw [if_neg c30] at H; exact absurd H (by simp)
               ·rw [if_neg c29] at H; exact absurd H (by simp)
           ·rw [if_neg c22] at H; exact absurd H (by simp)
         ·rw [if_neg c19] at H; exact absurd H (by simp)
        ·rw [if_neg c18] at H; exact absurd H (by simp)
     ·replace c17 := Bool.eq_false_iff.mpr c17; subst c17; have H1 : ((slices_Clone_int_int.f l0).bind fun t208 => (if t208.length < 17592186044416 then ((impl_ZeroFind.f kj2 (t208 ++ [wrap64 (-a1)])).bind fun bt214 => (if bt214.2 = true then (if 0 ≤ (l0.length : Int) then (if (l0.length : Int) ≤ (bt214.1.length : Int) then (if (l0.length : Int) < (bt214.1.length : Int) then (impl_ValueFind.j3 kj2 (bt214.1.take ((l0.length : Int) : Int).toNat) (rd bt214.1 (l0.length : Int))) else (none)) else (none)) else (none)) else (some (([] : List Int), 0, false)))) else (none))) = some (r1, r2, r3) := by rw [if_neg (show ¬ (false = true) by decide)] at H; exact H
      clear H; have H := H1; clear H1; obtain ⟨t208, A35, H⟩ := Sqz.be H
      by_cases c36 : t208.length < 17592186044416
      ·rw [if_pos c36] at H; have LMc36 := Aside0.mk c36; clear c36; obtain ⟨y211, hyy⟩ : ∃ y_ : List Int, y_ = (t208 ++ [wrap64 (-a1)]) := ⟨_, rfl⟩
       replace H : ((impl_ZeroFind.f kj2 y211).bind fun bt214 => (if bt214.2 = true then (if 0 ≤ (l0.length : Int) then (if (l0.length : Int) ≤ (bt214.1.length : Int) then (if (l0.length : Int) < (bt214.1.length : Int) then (impl_ValueFind.j3 kj2 (bt214.1.take ((l0.length : Int) : Int).toNat) (rd bt214.1 (l0.length : Int))) else (none)) else (none)) else (none)) else (some (([] : List Int), 0, false)))) = some (r1, r2, r3) := Sqz.auY
       have Ny211 := Aside0.mk hyy; clear hyy; replace H := Option.bind_eq_some_iff.mp H; obtain ⟨⟨t214, t215⟩, A370, H⟩ := H; replace H : (if t215 = true then (if 0 ≤ (l0.length : Int) then (if (l0.length : Int) ≤ (t214.length : Int) then (if (l0.length : Int) < (t214.length : Int) then (impl_ValueFind.j3 kj2 (t214.take ((l0.length : Int) : Int).toNat) (rd t214 (l0.length : Int))) else (none)) else (none)) else (none)) else (some (([] : List Int), 0, false))) = some (r1, r2, r3) := H; have A37 := Aside0.mk A370; clear A370
       by_cases c38 : t215 = true
       ·subst c38; have H1 : (if 0 ≤ (l0.length : Int) then (if (l0.length : Int) ≤ (t214.length : Int) then (if (l0.length : Int) < (t214.length : Int) then (impl_ValueFind.j3 kj2 (t214.take ((l0.length : Int) : Int).toNat) (rd t214 (l0.length : Int))) else (none)) else (none)) else (none)) = some (r1, r2, r3) := by rw [if_pos rfl] at H; exact H
        clear H; have H := H1; clear H1
        by_cases c39 : 0 ≤ (l0.length : Int)
        ·rw [if_pos c39] at H; have c39b0 := eq_true c39; have c39b1 := decide_eq_true c39; clear c39
         by_cases c40 : (l0.length : Int) ≤ (t214.length : Int)
         ·rw [if_pos c40] at H; have c40b1 := decide_eq_true c40; clear c40; obtain ⟨y218, hyy⟩ : ∃ y_ : List Int, y_ = (t214.take ((l0.length : Int) : Int).toNat) := ⟨_, rfl⟩
          replace H : (if (l0.length : Int) < (t214.length : Int) then (impl_ValueFind.j3 kj2 y218 (rd t214 (l0.length : Int))) else (none)) = some (r1, r2, r3) := Sqz.auY
          have Ny218 := Aside0.mk hyy; clear hyy
          by_cases c41 : (l0.length : Int) < (t214.length : Int)
          ·rw [if_pos c41] at H; have c41b0 := decide_eq_true c41; clear c41; have H' := Aside0.mk H; clear H
           go_wp2_with (first | (go_at_call 87; (with_reducible refine (slices_Clone_int_int.calls _ _ l0 t208 _ ?side1 ?side2 A35.out).mono ?_); (case side1 => exact Sqz.mvC ((Kd.C_below HR0.out HB.out))); (case side2 => exact HC0.out); rintro e w42 ⟨v209, rfl, ho0, hb⟩; have HO210 := Aside0.mk (Kd.R_lower (Kd.R_new' (Kd.R_new' ho0 (Kd.R_lt ((Sqz.mvR HO194.out)))) (Kd.R_lt ((Sqz.mvR HO198.out)))) (below_size (Sqz.auHB))); replace HO194 := Aside0.mk (Kd.R_elder' ((Sqz.mvR HO194.out)) (Kd.R_base ho0) hb); replace HO198 := Aside0.mk (Kd.R_elder' ((Sqz.mvR HO198.out)) (Kd.R_base ho0) hb); replace HB := Aside0.mk (below_step (Sqz.auHB) hb); (try clear hb); (try clear ho0)) | ((with_reducible refine gate_builtin (b := .append) (xs := #[.tmp 83, .tmp 86]) rfl ?_); (try (refine gate_guard (by rfl) ?_; dsimp only)); at_builtin; refine Kd.R_append (Kd.int .i64) (w0 := w) w.heap.size rfl (.tmp 83) (.tmp 86) 27 3 (.int .i64 0) 8 rfl Tryz.underlying27 info3 rfl (by decide) (by omega) v209 t208 (wrap64 (-a1)) [.int .i64 (wrap64 (-a1))] (fun k_ => some k_ ≠ (v193 : Value).ownBlock ∧ some k_ ≠ (v197 : Value).ownBlock) (fun _ => False) rfl rfl ?aP (fun _ hk => hk.elim) ?aF ?aO ?aB ?aS ?aL ?_; (case aP => exact rfl); (case aB => exact (Sqz.auHB)); (case aF => exact (fun k_ hk => ⟨Kd.fresh' (Kd.R_lt ((Sqz.mvR HO194.out))) k_ hk, Kd.fresh' (Kd.R_lt ((Sqz.mvR HO198.out))) k_ hk⟩)); (case aO => exact ((Sqz.mvR (Kd.R_mono HO210.out (fun _ hk => ⟨hk.1.2, hk.2⟩))))); (case aS => exact (below_size (Sqz.auHB))); (case aL => have := LMc36.out; omega); intro v212 w43 ho hb hg hat; rw [← Ny211.out] at ho; replace HO194 := Aside0.mk (Kd.R_after (ok := (fun k_ => some k_ ≠ (v197 : Value).ownBlock)) ((Sqz.mvR (Kd.R_mono HO194.out (fun _ hk => ⟨hk.1.2, hk.2⟩)))) hg hat); replace HO198 := Aside0.mk (Kd.R_after (ok := (fun k_ => some k_ ≠ (v193 : Value).ownBlock)) ((Sqz.mvR (Kd.R_mono HO198.out (fun _ hk => ⟨hk.1.2, hk.2⟩)))) hg hat); replace HB := Aside0.mk (hb); have HO213 := Aside0.mk (ho); clear HO210; clear ho hb hg hat; obtain ⟨Ao44, co44, eo44⟩ := Kd.R_slice HO213.out; subst eo44) | (go_at_call 37; (with_reducible refine (impl_ZeroFind.calls kj2 _ _ y211 t214 true _ ?side1 ?side2 A37.out).mono ?_); (case side1 => exact Sqz.mvC ((Kd.R_reads' HO213.out).2.2)); (case side2 => exact (Kd.R_reads' HO213.out).2.1); rintro e w45 ⟨v216, rfl, ho0, hb⟩; have HO217 := Aside0.mk (Kd.R_lower (Kd.R_new' (Kd.R_new' (Kd.R_new' ho0 (Kd.R_lt ((Sqz.mvR HO194.out)))) (Kd.R_lt ((Sqz.mvR HO198.out)))) (Kd.R_lt ((Sqz.mvR HO213.out)))) (below_size (Sqz.auHB))); replace HO194 := Aside0.mk (Kd.R_elder' ((Sqz.mvR HO194.out)) (Kd.R_base ho0) hb); replace HO198 := Aside0.mk (Kd.R_elder' ((Sqz.mvR HO198.out)) (Kd.R_base ho0) hb); replace HO213 := Aside0.mk (Kd.R_elder' ((Sqz.mvR HO213.out)) (Kd.R_base ho0) hb); replace HB := Aside0.mk (below_step (Sqz.auHB) hb); (try clear hb); (try clear ho0); obtain ⟨Ao47, co47, eo47⟩ := Kd.R_slice HO217.out; subst eo47; have q46 : ((l0.length : Int) : Int) ≤ ((t214.length : Int) : Int) := Sqz.od; obtain ⟨i046, hi046, _, hsz46, _⟩ := info_parts info3; have hroom46 : t214.length ≤ co47 := (Kd.R_reads' HO217.out).2.1; have hC46 : Kd.C (Kd.int .i64) _ Ao47 t214.length t214 := (Kd.R_reads' HO217.out).2.2; have hcut46 := cut_to (P := Tryz.prog) 27 3 .i64 Tryz.underlying27 hi046 Ao47 t214.length co47 (l0.length : Int) (Sqz.od) q46 hroom46; have hr46 := Kd.C_take (m := ((l0.length : Int) : Int).toNat) hC46 (by omega); have hy46 : y218.length = ((l0.length : Int) : Int).toNat := (by rw [Ny218.out, List.length_take]; omega); rw [← Ny218.out] at hr46; rw [← hy46] at hcut46; have HR221 := Aside0.mk hr46; have HC221 := Aside0.mk (show y218.length ≤ co47 from by omega); clear hr46 hC46 hroom46 hi046 hsz46; have KY46 := Aside0.mk hy46; clear hy46; have KL46 := Aside0.mk (show ((l0.length : Int) : Int).toNat ≤ t214.length from by omega); replace q46 := eq_true q46; have p222 : 0 ≤ ((l0.length : Int) : Int) := Sqz.od; have q222 : (l0.length : Int) < (t214.length : Int) := Sqz.od; obtain ⟨ad222, e222, hx222_0⟩ := Kd.at_int (Kd.R_reads' HO217.out).2.2 (l0.length : Int) p222 q222; cases e222; (try simp only [Go.IntWalk.toNatUp] at hx222_0); replace p222 := eq_true p222; replace q222 := eq_true q222))
           repeat (go_quiet (fail); try go_wp2_with (first | (go_at_call 87; (with_reducible refine (slices_Clone_int_int.calls _ _ l0 t208 _ ?side1 ?side2 A35.out).mono ?_); (case side1 => exact Sqz.mvC ((Kd.C_below HR0.out HB.out))); (case side2 => exact HC0.out); rintro e w42 ⟨v209, rfl, ho0, hb⟩; have HO210 := Aside0.mk (Kd.R_lower (Kd.R_new' (Kd.R_new' ho0 (Kd.R_lt ((Sqz.mvR HO194.out)))) (Kd.R_lt ((Sqz.mvR HO198.out)))) (below_size (Sqz.auHB))); replace HO194 := Aside0.mk (Kd.R_elder' ((Sqz.mvR HO194.out)) (Kd.R_base ho0) hb); replace HO198 := Aside0.mk (Kd.R_elder' ((Sqz.mvR HO198.out)) (Kd.R_base ho0) hb); replace HB := Aside0.mk (below_step (Sqz.auHB) hb); (try clear hb); (try clear ho0)) | ((with_reducible refine gate_builtin (b := .append) (xs := #[.tmp 83, .tmp 86]) rfl ?_); (try (refine gate_guard (by rfl) ?_; dsimp only)); at_builtin; refine Kd.R_append (Kd.int .i64) (w0 := w) w.heap.size rfl (.tmp 83) (.tmp 86) 27 3 (.int .i64 0) 8 rfl Tryz.underlying27 info3 rfl (by decide) (by omega) v209 t208 (wrap64 (-a1)) [.int .i64 (wrap64 (-a1))] (fun k_ => some k_ ≠ (v193 : Value).ownBlock ∧ some k_ ≠ (v197 : Value).ownBlock) (fun _ => False) rfl rfl ?aP (fun _ hk => hk.elim) ?aF ?aO ?aB ?aS ?aL ?_; (case aP => exact rfl); (case aB => exact (Sqz.auHB)); (case aF => exact (fun k_ hk => ⟨Kd.fresh' (Kd.R_lt ((Sqz.mvR HO194.out))) k_ hk, Kd.fresh' (Kd.R_lt ((Sqz.mvR HO198.out))) k_ hk⟩)); (case aO => exact ((Sqz.mvR (Kd.R_mono HO210.out (fun _ hk => ⟨hk.1.2, hk.2⟩))))); (case aS => exact (below_size (Sqz.auHB))); (case aL => have := LMc36.out; omega); intro v212 w43 ho hb hg hat; rw [← Ny211.out] at ho; replace HO194 := Aside0.mk (Kd.R_after (ok := (fun k_ => some k_ ≠ (v197 : Value).ownBlock)) ((Sqz.mvR (Kd.R_mono HO194.out (fun _ hk => ⟨hk.1.2, hk.2⟩)))) hg hat); replace HO198 := Aside0.mk (Kd.R_after (ok := (fun k_ => some k_ ≠ (v193 : Value).ownBlock)) ((Sqz.mvR (Kd.R_mono HO198.out (fun _ hk => ⟨hk.1.2, hk.2⟩)))) hg hat); replace HB := Aside0.mk (hb); have HO213 := Aside0.mk (ho); clear HO210; clear ho hb hg hat; obtain ⟨Ao44, co44, eo44⟩ := Kd.R_slice HO213.out; subst eo44) | (go_at_call 37; (with_reducible refine (impl_ZeroFind.calls kj2 _ _ y211 t214 true _ ?side1 ?side2 A37.out).mono ?_); (case side1 => exact Sqz.mvC ((Kd.R_reads' HO213.out).2.2)); (case side2 => exact (Kd.R_reads' HO213.out).2.1); rintro e w45 ⟨v216, rfl, ho0, hb⟩; have HO217 := Aside0.mk (Kd.R_lower (Kd.R_new' (Kd.R_new' (Kd.R_new' ho0 (Kd.R_lt ((Sqz.mvR HO194.out)))) (Kd.R_lt ((Sqz.mvR HO198.out)))) (Kd.R_lt ((Sqz.mvR HO213.out)))) (below_size (Sqz.auHB))); replace HO194 := Aside0.mk (Kd.R_elder' ((Sqz.mvR HO194.out)) (Kd.R_base ho0) hb); replace HO198 := Aside0.mk (Kd.R_elder' ((Sqz.mvR HO198.out)) (Kd.R_base ho0) hb); replace HO213 := Aside0.mk (Kd.R_elder' ((Sqz.mvR HO213.out)) (Kd.R_base ho0) hb); replace HB := Aside0.mk (below_step (Sqz.auHB) hb); (try clear hb); (try clear ho0); obtain ⟨Ao47, co47, eo47⟩ := Kd.R_slice HO217.out; subst eo47; have q46 : ((l0.length : Int) : Int) ≤ ((t214.length : Int) : Int) := Sqz.od; obtain ⟨i046, hi046, _, hsz46, _⟩ := info_parts info3; have hroom46 : t214.length ≤ co47 := (Kd.R_reads' HO217.out).2.1; have hC46 : Kd.C (Kd.int .i64) _ Ao47 t214.length t214 := (Kd.R_reads' HO217.out).2.2; have hcut46 := cut_to (P := Tryz.prog) 27 3 .i64 Tryz.underlying27 hi046 Ao47 t214.length co47 (l0.length : Int) (Sqz.od) q46 hroom46; have hr46 := Kd.C_take (m := ((l0.length : Int) : Int).toNat) hC46 (by omega); have hy46 : y218.length = ((l0.length : Int) : Int).toNat := (by rw [Ny218.out, List.length_take]; omega); rw [← Ny218.out] at hr46; rw [← hy46] at hcut46; have HR221 := Aside0.mk hr46; have HC221 := Aside0.mk (show y218.length ≤ co47 from by omega); clear hr46 hC46 hroom46 hi046 hsz46; have KY46 := Aside0.mk hy46; clear hy46; have KL46 := Aside0.mk (show ((l0.length : Int) : Int).toNat ≤ t214.length from by omega); replace q46 := eq_true q46; have p222 : 0 ≤ ((l0.length : Int) : Int) := Sqz.od; have q222 : (l0.length : Int) < (t214.length : Int) := Sqz.od; obtain ⟨ad222, e222, hx222_0⟩ := Kd.at_int (Kd.R_reads' HO217.out).2.2 (l0.length : Int) p222 q222; cases e222; (try simp only [Go.IntWalk.toNatUp] at hx222_0); replace p222 := eq_true p222; replace q222 := eq_true q222)))
           have HOcv48 := Aside0.mk (sh_pre HO217.out Ny218.out)
           go_meet
           case rel => exact ⟨_, (y218), (rd t214 (l0.length : Int)), Sqz.auS, H', ⟨by have := HJ2.out; first | omega | exact Nat.le_refl _⟩, ⟨(Sqz.mvR (Kd.R_mono HOcv48.out (fun _ hk => trivial)))⟩, ⟨Sqz.auHB⟩⟩
          ·rw [if_neg c41] at H; exact absurd H (by simp)
         ·rw [if_neg c40] at H; exact absurd H (by simp)
        ·rw [if_neg c39] at H; exact absurd H (by simp)
       ·replace c38 := Bool.eq_false_iff.mpr c38; subst c38; have H1 : (some (([] : List Int), 0, false)) = some (r1, r2, r3) := by rw [if_neg (show ¬ (false = true) by decide)] at H; exact H
        clear H; have H := H1; clear H1; simp only [Option.some.injEq, Prod.mk.injEq] at H; obtain ⟨rfl, rfl, rfl⟩ := H
        go_wp2_with (first | (go_at_call 87; (with_reducible refine (slices_Clone_int_int.calls _ _ l0 t208 _ ?side1 ?side2 A35.out).mono ?_); (case side1 => exact Sqz.mvC ((Kd.C_below HR0.out HB.out))); (case side2 => exact HC0.out); rintro e w49 ⟨v209, rfl, ho0, hb⟩; have HO210 := Aside0.mk (Kd.R_lower (Kd.R_new' (Kd.R_new' ho0 (Kd.R_lt ((Sqz.mvR HO194.out)))) (Kd.R_lt ((Sqz.mvR HO198.out)))) (below_size (Sqz.auHB))); replace HO194 := Aside0.mk (Kd.R_elder' ((Sqz.mvR HO194.out)) (Kd.R_base ho0) hb); replace HO198 := Aside0.mk (Kd.R_elder' ((Sqz.mvR HO198.out)) (Kd.R_base ho0) hb); replace HB := Aside0.mk (below_step (Sqz.auHB) hb); (try clear hb); (try clear ho0)) | ((with_reducible refine gate_builtin (b := .append) (xs := #[.tmp 83, .tmp 86]) rfl ?_); (try (refine gate_guard (by rfl) ?_; dsimp only)); at_builtin; refine Kd.R_append (Kd.int .i64) (w0 := w) w.heap.size rfl (.tmp 83) (.tmp 86) 27 3 (.int .i64 0) 8 rfl Tryz.underlying27 info3 rfl (by decide) (by omega) v209 t208 (wrap64 (-a1)) [.int .i64 (wrap64 (-a1))] (fun k_ => some k_ ≠ (v193 : Value).ownBlock ∧ some k_ ≠ (v197 : Value).ownBlock) (fun _ => False) rfl rfl ?aP (fun _ hk => hk.elim) ?aF ?aO ?aB ?aS ?aL ?_; (case aP => exact rfl); (case aB => exact (Sqz.auHB)); (case aF => exact (fun k_ hk => ⟨Kd.fresh' (Kd.R_lt ((Sqz.mvR HO194.out))) k_ hk, Kd.fresh' (Kd.R_lt ((Sqz.mvR HO198.out))) k_ hk⟩)); (case aO => exact ((Sqz.mvR (Kd.R_mono HO210.out (fun _ hk => ⟨hk.1.2, hk.2⟩))))); (case aS => exact (below_size (Sqz.auHB))); (case aL => have := LMc36.out; omega); intro v212 w50 ho hb hg hat; rw [← Ny211.out] at ho; replace HO194 := Aside0.mk (Kd.R_after (ok := (fun k_ => some k_ ≠ (v197 : Value).ownBlock)) ((Sqz.mvR (Kd.R_mono HO194.out (fun _ hk => ⟨hk.1.2, hk.2⟩)))) hg hat); replace HO198 := Aside0.mk (Kd.R_after (ok := (fun k_ => some k_ ≠ (v193 : Value).ownBlock)) ((Sqz.mvR (Kd.R_mono HO198.out (fun _ hk => ⟨hk.1.2, hk.2⟩)))) hg hat); replace HB := Aside0.mk (hb); have HO213 := Aside0.mk (ho); clear HO210; clear ho hb hg hat; obtain ⟨Ao51, co51, eo51⟩ := Kd.R_slice HO213.out; subst eo51) | (go_at_call 37; (with_reducible refine (impl_ZeroFind.calls kj2 _ _ y211 t214 false _ ?side1 ?side2 A37.out).mono ?_); (case side1 => exact Sqz.mvC ((Kd.R_reads' HO213.out).2.2)); (case side2 => exact (Kd.R_reads' HO213.out).2.1); rintro e w52 ⟨v216, rfl, ho0, hb⟩; have HO217 := Aside0.mk (Kd.R_lower (Kd.R_new' (Kd.R_new' (Kd.R_new' ho0 (Kd.R_lt ((Sqz.mvR HO194.out)))) (Kd.R_lt ((Sqz.mvR HO198.out)))) (Kd.R_lt ((Sqz.mvR HO213.out)))) (below_size (Sqz.auHB))); replace HO194 := Aside0.mk (Kd.R_elder' ((Sqz.mvR HO194.out)) (Kd.R_base ho0) hb); replace HO198 := Aside0.mk (Kd.R_elder' ((Sqz.mvR HO198.out)) (Kd.R_base ho0) hb); replace HO213 := Aside0.mk (Kd.R_elder' ((Sqz.mvR HO213.out)) (Kd.R_base ho0) hb); replace HB := Aside0.mk (below_step (Sqz.auHB) hb); (try clear hb); (try clear ho0)))
        go_ret3
        exact ⟨_, Sqz.auR, by first | exact Kd.R_nil _ _ _ _ _ | exact Kd.N_nil _ _ _ _ _ | exact Kd.V_nil _ _ _ _ _ | exact Kd.Q_nil _ _ _ _ _ | exact Kd.S_nil _ _ _ _ _, Sqz.auHB⟩
      ·rw [if_neg c36] at H; exact absurd H (by simp)
    case rest =>
     clear HC13
     obtain ⟨kq, x7_12, x8_12, rfl, HA, HJ12, HO_7, HB⟩ := hcut; cases kq with
     | zero => exact absurd HA.out (by simp [impl_ValueFind.j3])
     | succ kj12 =>
      have H := HA.out; clear HA; simp only [impl_ValueFind.j3] at H; obtain ⟨t223, A53, H⟩ := Sqz.be H
      by_cases c54 : t223.length < 17592186044416
      ·rw [if_pos c54] at H; have LMc54 := Aside0.mk c54; clear c54; obtain ⟨y226, hyy⟩ : ∃ y_ : List Int, y_ = (t223 ++ [x8_12]) := ⟨_, rfl⟩
       replace H : ((impl_gcd.f kj12 y226).bind fun t229 => (if x8_12 < 0 then (impl_ValueFind.j4 kj12 x7_12 x8_12 (wrap64 (-t229))) else (impl_ValueFind.j4 kj12 x7_12 x8_12 t229))) = some (r1, r2, r3) := Sqz.auY
       have Ny226 := Aside0.mk hyy; clear hyy; obtain ⟨t229, A55, H⟩ := Sqz.be H; have HC56 := Aside0.mk H; clear H; obtain ⟨Ao57, co57, eo57⟩ := Kd.R_slice HO_7.out; subst eo57
       go_upto_if 109 with (first | (go_at_call 87; (with_reducible refine (slices_Clone_int_int.calls _ _ x7_12 t223 _ ?side1 ?side2 A53.out).mono ?_); (case side1 => exact Sqz.mvC ((Kd.R_reads' HO_7.out).2.2)); (case side2 => exact (Kd.R_reads' HO_7.out).2.1); rintro e w58 ⟨v224, rfl, ho0, hb⟩; have HO225 := Aside0.mk (Kd.R_lower (Kd.R_new' ho0 (Kd.R_lt ((Sqz.mvR HO_7.out)))) (below_size (Sqz.auHB))); replace HO_7 := Aside0.mk (Kd.R_elder' ((Sqz.mvR HO_7.out)) (Kd.R_base ho0) hb); replace HB := Aside0.mk (below_step (Sqz.auHB) hb); (try clear hb); (try clear ho0)) | ((with_reducible refine gate_builtin (b := .append) (xs := #[.tmp 103, .tmp 105]) rfl ?_); (try (refine gate_guard (by rfl) ?_; dsimp only)); at_builtin; refine Kd.R_append (Kd.int .i64) (w0 := w) w.heap.size rfl (.tmp 103) (.tmp 105) 27 3 (.int .i64 0) 8 rfl Tryz.underlying27 info3 rfl (by decide) (by omega) v224 t223 x8_12 [.int .i64 x8_12] (fun k_ => some k_ ≠ (.slice Ao57 x7_12.length co57 : Value).ownBlock) (fun _ => False) rfl rfl ?aP (fun _ hk => hk.elim) ?aF ?aO ?aB ?aS ?aL ?_; (case aP => exact rfl); (case aB => exact (Sqz.auHB)); (case aF => exact (fun k_ hk => Kd.fresh' (Kd.R_lt ((Sqz.mvR HO_7.out))) k_ hk)); (case aO => exact ((Sqz.mvR (Kd.R_mono HO225.out (fun _ hk => (by first | exact hk.2 | exact trivial)))))); (case aS => exact (below_size (Sqz.auHB))); (case aL => have := LMc54.out; omega); intro v227 w59 ho hb hg hat; rw [← Ny226.out] at ho; replace HO_7 := Aside0.mk (Kd.R_after (ok := (fun _ => True)) ((Sqz.mvR HO_7.out)) hg hat); replace HB := Aside0.mk (hb); have HO228 := Aside0.mk (ho); clear HO225; clear ho hb hg hat; obtain ⟨Ao60, co60, eo60⟩ := Kd.R_slice HO228.out; subst eo60) | (go_at_call 88; (with_reducible refine (impl_gcd.calls kj12 _ _ y226 t229 _ ?side1 ?side2 A55.out).mono ?_); (case side1 => exact Sqz.mvC ((Kd.R_reads' HO228.out).2.2)); (case side2 => exact (Kd.R_reads' HO228.out).2.1); rintro e w61 ⟨rfl, hb⟩; replace HO_7 := Aside0.mk (Kd.R_below ((Sqz.mvR HO_7.out)) hb); replace HO228 := Aside0.mk (Kd.R_below ((Sqz.mvR HO228.out)) hb); replace HB := Aside0.mk (below_step (Sqz.auHB) hb); (try clear hb)))
       (try simp only [Act.put, List.setIfInBounds_toArray, List.set_cons_zero, List.set_cons_succ])
       go_cut [17] (fun v17 wc => ∃ (kq : Nat) (x17_55 : Int), v17 = .int .i64 x17_55 ∧ Aside0 (impl_ValueFind.j4 kq x7_12 x8_12 x17_55 = some (r1, r2, r3)) ∧ Aside0 (kq ≤ kj12) ∧ Aside0 (Kd.R (Kd.int .i64) 3 wc w.heap.size (fun _ => True) (.slice Ao57 x7_12.length co57) x7_12) ∧ Aside0 (Below w.heap.size w wc))
       case first =>
        have H := HC56.out; clear HC56
        by_cases c62 : x8_12 < 0
        ·rw [if_pos c62] at H; have c62b0 := decide_eq_true c62; clear c62
         rw [c62b0]
         have H' := Aside0.mk H; clear H; go_wp2
         go_meet
         case rel => exact ⟨_, (wrap64 (-t229)), Sqz.auS, H', ⟨by have := HJ2.out; have := HJ12.out; first | omega | exact Nat.le_refl _⟩, ⟨(Sqz.mvR (Kd.R_mono HO_7.out (fun _ hk => trivial)))⟩, ⟨Sqz.auHB⟩⟩
        ·rw [if_neg c62] at H; have c62b0 := decide_eq_false c62; clear c62
         rw [c62b0]
         have H' := Aside0.mk H; clear H; go_wp2
         go_meet
         case rel => exact ⟨_, (t229), Sqz.auS, H', ⟨by have := HJ2.out; have := HJ12.out; first | omega | exact Nat.le_refl _⟩, ⟨(Sqz.mvR (Kd.R_mono HO_7.out (fun _ hk => trivial)))⟩, ⟨Sqz.auHB⟩⟩
       case rest =>
        clear HC56
        obtain ⟨kq, x17_55, rfl, HA, HJ55, HO_7, HB⟩ := hcut; cases kq with
        | zero => exact absurd HA.out (by simp [impl_ValueFind.j4])
        | succ kj55 =>
         have H := HA.out; clear HA; simp only [impl_ValueFind.j4] at H; obtain ⟨y230, hyy⟩ : ∃ y_ : List Int, y_ = (([] : List Int)) := ⟨_, rfl⟩
         replace H : (impl_ValueFind.l2 kj55 x8_12 x17_55 y230 x7_12 (x7_12.length : Int) 0) = some (r1, r2, r3) := Sqz.auY
         have Ny230 := Aside0.mk hyy; clear hyy; have H' := Aside0.mk H; clear H
         go_wp2_with (((with_reducible refine gate_dst (N := 112) rfl ?_); (try (refine gate_guard (by rfl) ?_; dsimp only)); refine Kd.R_lit (Kd.int .i64) _ 3 ?hg (N := 112) ?hd (xs := ([] : List Int)) (inner := []) (ok := fun _ => True) (okp := fun _ => True) ?hr ?hp (fun _ hk => hk) trivial (Below.refl _ _) (Nat.le_refl _) (by simp) ?_; (case hd => rfl); (case hg => rfl); (case hr => first | (go_simp; done) | (go_simp; rfl)); (case hp => exact (Reps.none _ _)); intro v231 w63 ho64 hb hg_ hnew_; clear hg_ hnew_; (first | rw [← Ny230.out] at ho64 | (simp only [Int.reduceToNat] at ho64; rw [← Ny230.out] at ho64)); have HO232 := Aside0.mk (Kd.R_lower (Kd.R_new' ho64 (Kd.R_lt ((Sqz.mvR HO_7.out)))) (below_size (Sqz.auHB))); replace HO_7 := Aside0.mk (Kd.R_elder' ((Sqz.mvR HO_7.out)) (Kd.R_base ho64) hb); replace HB := Aside0.mk (below_step (Sqz.auHB) hb); clear hb ho64))
         go_loopg [18, 115] kj55 (fun kq v18 v115 w' => ∃ (x18_4 : List Int) (x115_4 : Int), v115 = .int .i64 x115_4 ∧ Aside0 (impl_ValueFind.l2 kq x8_12 x17_55 x18_4 x7_12 (x7_12.length : Int) x115_4 = some (r1, r2, r3)) ∧ Aside0 (kq ≤ kj55) ∧ Aside0 (Kd.R (Kd.int .i64) 3 w' w.heap.size (fun k_ => some k_ ≠ ((.slice Ao57 x7_12.length co57) : Value).ownBlock) v18 x18_4) ∧ Aside0 (Kd.R (Kd.int .i64) 3 w' w.heap.size (fun k_ => some k_ ≠ (v18 : Value).ownBlock) (.slice Ao57 x7_12.length co57) x7_12) ∧ Aside0 (Below w.heap.size w w'))
         case atStart => exact ⟨(y230), (0), Sqz.auS, H', ⟨Nat.le_refl _⟩, ⟨(Sqz.mvR (Kd.R_mono HO232.out (fun _ hk => (by first | exact hk.2 | exact trivial))))⟩, ⟨(Sqz.mvR (Kd.R_mono HO_7.out (fun _ hk => (by first | exact hk.2 | exact trivial))))⟩, ⟨Sqz.auHB⟩⟩
         case round =>
          clear H'
          obtain ⟨x18_4, x115_4, rfl, HA, HK4, HO_18, HO_113, HB⟩ := hrel; cases gk with
          | zero => exact absurd HA.out (by simp [impl_ValueFind.l2])
          | succ k4 =>
           have H := HA.out; clear HA; simp only [impl_ValueFind.l2] at H
           by_cases c65 : x115_4 < (x7_12.length : Int)
           ·rw [if_pos c65] at H; have c65b0 := decide_eq_true c65; clear c65
            by_cases c66 : 0 ≤ x115_4
            ·rw [if_pos c66] at H; have c66b0 := decide_eq_true c66; clear c66
             by_cases c67 : x115_4 < (x7_12.length : Int)
             ·rw [if_pos c67] at H; have c67b0 := decide_eq_true c67; clear c67
              by_cases c68 : x17_55 = 0
              ·rw [if_pos c68] at H; exact absurd H (by simp)
              ·rw [if_neg c68] at H
               by_cases c69 : x18_4.length < 17592186044416
               ·rw [if_pos c69] at H; have LMc69 := Aside0.mk c69; clear c69; obtain ⟨y234, hyy⟩ : ∃ y_ : List Int, y_ = (x18_4 ++ [wrap64 (Int.tdiv (rd x7_12 x115_4) x17_55)]) := ⟨_, rfl⟩
                replace H : (impl_ValueFind.l2 k4 x8_12 x17_55 y234 x7_12 (x7_12.length : Int) (wrap64 (x115_4 + 1))) = some (r1, r2, r3) := Sqz.auY
                have Ny234 := Aside0.mk hyy; clear hyy; have H' := Aside0.mk H; clear H; have p233 : 0 ≤ (x115_4 : Int) := Sqz.od; have q233 : x115_4 < (x7_12.length : Int) := Sqz.od; obtain ⟨ad233, e233, hx233_0⟩ := Kd.at_int (Kd.R_reads' HO_113.out).2.2 x115_4 p233 q233; cases e233; replace p233 := eq_true p233; replace q233 := eq_true q233
                go_wp2_with (((with_reducible refine gate_builtin (b := .append) (xs := #[.tmp 119, .tmp 123]) rfl ?_); (try (refine gate_guard (by rfl) ?_; dsimp only)); at_builtin; refine Kd.R_append (Kd.int .i64) (w0 := w) w.heap.size rfl (.tmp 119) (.tmp 123) 27 3 (.int .i64 0) 8 rfl Tryz.underlying27 info3 rfl (by decide) (by omega) u18 x18_4 (wrap64 (Int.tdiv (rd x7_12 x115_4) x17_55)) [.int .i64 (wrap64 (Int.tdiv (rd x7_12 x115_4) x17_55))] (fun k_ => some k_ ≠ (.slice (some ad233) x7_12.length co57 : Value).ownBlock) (fun _ => False) rfl rfl ?aP (fun _ hk => hk.elim) ?aF ?aO ?aB ?aS ?aL ?_; (case aP => exact rfl); (case aB => exact (Sqz.auHB)); (case aF => exact (fun k_ hk => Kd.fresh' (Kd.R_lt ((Sqz.mvR HO_113.out))) k_ hk)); (case aO => exact ((Sqz.mvR HO_18.out))); (case aS => exact (below_size (Sqz.auHB))); (case aL => have := LMc69.out; omega); intro v235 w70 ho hb hg hat; rw [← Ny234.out] at ho; replace HO_113 := Aside0.mk (Kd.R_after (ok := (fun _ => True)) ((Sqz.mvR (Kd.R_mono HO_113.out (fun _ hk => ⟨trivial, hk⟩)))) hg hat); replace HB := Aside0.mk (hb); have HO236 := Aside0.mk (ho); clear HO_18; clear ho hb hg hat))
                go_roundg k4
                case measure => have := HJ2.out; have := HJ12.out; have := HJ55.out; have := HK4.out; omega
                case rel => exact ⟨(y234), (wrap64 (x115_4 + 1)), Sqz.auS, H', ⟨by have := HJ2.out; have := HJ12.out; have := HJ55.out; have := HK4.out; omega⟩, ⟨(Sqz.mvR HO236.out)⟩, ⟨(Sqz.mvR (Kd.R_mono HO_113.out (fun _ hk => (by first | exact hk.2 | exact trivial))))⟩, ⟨Sqz.auHB⟩⟩
               ·rw [if_neg c69] at H; exact absurd H (by simp)
             ·rw [if_neg c67] at H; exact absurd H (by simp)
            ·rw [if_neg c66] at H; exact absurd H (by simp)
           ·rw [if_neg c65] at H; have c65b0 := decide_eq_false c65; clear c65
            by_cases c71 : x17_55 = 0
            ·rw [if_pos c71] at H; exact absurd H (by simp)
            ·rw [if_neg c71] at H; simp only [Option.some.injEq, Prod.mk.injEq] at H; obtain ⟨rfl, rfl, rfl⟩ := H; go_wp2
             repeat (go_quiet (fail); try go_wp2)
             go_ret3
             exact ⟨_, Sqz.auR, (Sqz.mvR (Kd.R_mono HO_18.out (fun _ hk => trivial))), Sqz.auHB⟩
      ·rw [if_neg c54] at H; exact absurd H (by simp)

end Go.Proofs.YtacfcoilmdhgnaaGreatDoor.PFnExecuteValue
