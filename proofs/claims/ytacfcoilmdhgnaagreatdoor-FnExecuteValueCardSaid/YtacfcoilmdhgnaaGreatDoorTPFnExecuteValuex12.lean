/- A function's Lean twin and its walk, written by a program of this session. -/
import Derived.Test.YtacfcoilmdhgnaaGreatDoorTPFnExecuteValuex0
import Derived.Test.YtacfcoilmdhgnaaGreatDoorTPFnExecuteValuex9
import Derived.Test.YtacfcoilmdhgnaaGreatDoorTPFnExecuteValuex10
import Derived.Test.YtacfcoilmdhgnaaGreatDoorTPFnExecuteValuex11
namespace Go.Proofs.YtacfcoilmdhgnaaGreatDoor.PFnExecuteValue
open Go.RowKit Go.Proofs.YtacfcoilmdhgnaaGreatDoorW.PrintWords Go.Proofs.YtacfcoilmdhgnaaGreatDoorW.PrintLast Go.Proofs.YtacfcoilmdhgnaaGreatDoorW.PrintMore
attribute [local go_sem] max2_int min2_int max_two min_two max_three min_three max_four min_four   -- for this text's walks alone
set_option linter.unusedVariables false
set_option linter.unusedSimpArgs false

/-! ### spec_DrawValueFind: function 39 -/
def spec_DrawValueFind.f (k : Nat) (l0 : List Int) : Option (List Int × Int) := (spec_l6Open.f l0).bind fun bt332 => ((spec_l6Rd_pick.f k bt332.1 bt332.2 3).bind fun bt335 => ((spec_l6Rd_pick.f k bt332.1 bt335.2 16).bind fun bt337 => ((spec_l92Form.f k bt332.1 bt337.2 (wrap64 ((wrap64 (1 + bt335.1)) + (wrap64 (Int.tdiv bt337.1 15))))).bind fun bt339 => ((spec_l92Target.f k bt332.1 bt339.2).bind fun bt343 => (some (bt339.1, bt343.1))))))
set_option maxHeartbeats 8000000 in
set_option maxRecDepth 100000 in
theorem spec_DrawValueFind.calls (k : Nat) (A0 : Option Addr) (c0 : Nat) (l0 : List Int) (r1 : List Int) (r2 : Int) (w : World) (hr0 : Kd.C (Kd.int .u8) w A0 l0.length l0) (hc0 : l0.length ≤ c0) (h : spec_DrawValueFind.f k l0 = some (r1, r2)) :
  Calls Tryz.prog 39 #[.slice A0 l0.length c0] w fun e w' => ∃ v0_ : Value, e = .returned (.tuple #[v0_, .int .i64 r2]) ∧ Kd.R (Kd.int .i64) 3 w' w.heap.size (fun _ => True) v0_ r1 ∧ Below w.heap.size w w' := by
 have HR0 := Aside0.mk hr0; have HC0 := Aside0.mk hc0; clear hr0 hc0; have HB := Aside0.mk (Below.refl w.heap.size w); have H : ((spec_l6Open.f l0).bind fun bt332 => ((spec_l6Rd_pick.f k bt332.1 bt332.2 3).bind fun bt335 => ((spec_l6Rd_pick.f k bt332.1 bt335.2 16).bind fun bt337 => ((spec_l92Form.f k bt332.1 bt337.2 (wrap64 ((wrap64 (1 + bt335.1)) + (wrap64 (Int.tdiv bt337.1 15))))).bind fun bt339 => ((spec_l92Target.f k bt332.1 bt339.2).bind fun bt343 => (some (bt339.1, bt343.1))))))) = some (r1, r2) := h; clear h; replace H := Option.bind_eq_some_iff.mp H; obtain ⟨⟨t332, t333⟩, A20, H⟩ := H; replace H : ((spec_l6Rd_pick.f k t332 t333 3).bind fun bt335 => ((spec_l6Rd_pick.f k t332 bt335.2 16).bind fun bt337 => ((spec_l92Form.f k t332 bt337.2 (wrap64 ((wrap64 (1 + bt335.1)) + (wrap64 (Int.tdiv bt337.1 15))))).bind fun bt339 => ((spec_l92Target.f k t332 bt339.2).bind fun bt343 => (some (bt339.1, bt343.1)))))) = some (r1, r2) := H; have A2 := Aside0.mk A20; clear A20; replace H := Option.bind_eq_some_iff.mp H; obtain ⟨⟨t335, t336⟩, A30, H⟩ := H; replace H : ((spec_l6Rd_pick.f k t332 t336 16).bind fun bt337 => ((spec_l92Form.f k t332 bt337.2 (wrap64 ((wrap64 (1 + t335)) + (wrap64 (Int.tdiv bt337.1 15))))).bind fun bt339 => ((spec_l92Target.f k t332 bt339.2).bind fun bt343 => (some (bt339.1, bt343.1))))) = some (r1, r2) := H; have A3 := Aside0.mk A30; clear A30; replace H := Option.bind_eq_some_iff.mp H; obtain ⟨⟨t337, t338⟩, A40, H⟩ := H; replace H : ((spec_l92Form.f k t332 t338 (wrap64 ((wrap64 (1 + t335)) + (wrap64 (Int.tdiv t337 15))))).bind fun bt339 => ((spec_l92Target.f k t332 bt339.2).bind fun bt343 => (some (bt339.1, bt343.1)))) = some (r1, r2) := H; have A4 := Aside0.mk A40; clear A40; replace H := Option.bind_eq_some_iff.mp H; obtain ⟨⟨t339, t342⟩, A50, H⟩ := H; replace H : ((spec_l92Target.f k t332 t342).bind fun bt343 => (some (t339, bt343.1))) = some (r1, r2) := H; have A5 := Aside0.mk A50; clear A50; replace H := Option.bind_eq_some_iff.mp H; obtain ⟨⟨t343, t344⟩, A60, H⟩ := H; replace H : (some (t339, t343)) = some (r1, r2) := H; have A6 := Aside0.mk A60; clear A60; simp only [Option.some.injEq, Prod.mk.injEq] at H; obtain ⟨rfl, rfl⟩ := H
 go_enter Tryz.func39, Tryz.ntmps39
 go_wp2_with (first | ((with_reducible refine gate_callee (f := 42) rfl ?_); refine goesL_ (some 7) rfl rfl Tryz.func42 (by kernel_rfl) rfl #[.slice A0 l0.length c0] rfl Sqz.auM ?_; (with_reducible refine (spec_l6Open.calls _ _ l0 t332 t333 w _ ?side1 ?side2 ?side3 A2.out).mono ?_); (case side1 => repeat (first | (with_reducible first | exact HB.out | apply below_alloc | apply pw_below_drewN | apply below_drew1) | exact HB.out)); (case side2 => exact HR0.out); (case side3 => exact HC0.out); rintro e w7 ⟨g334, rfl, hi, hb, hb2⟩; refine ⟨_, rfl, ?_⟩; replace HB := Aside0.mk (hb); have HI334 := Aside0.mk (hi); (try clear hb); (try clear hb2); (try clear hi)) | ((with_reducible refine gate_callee (f := 43) rfl ?_); refine goesL_ (some 10) rfl rfl Tryz.func43 (by kernel_rfl) rfl #[.pointer (some ⟨g334, 0, none⟩), .int .i64 3] rfl Sqz.auM ?_; (with_reducible refine (spec_l6Rd_pick.calls k g334 t332 t333 3 t335 t336 w _ ?side1 ?side2 A3.out).mono ?_); (case side1 => repeat (first | (with_reducible first | exact HI334.out | apply IsS83.alloc | apply IsS83.drewN | apply IsS83.drew | apply IsS83.set_1) | exact HI334.out)); (case side2 => repeat (first | (with_reducible first | exact HB.out | apply below_alloc | apply pw_below_drewN | apply below_drew1 | refine below_set ?_ (IsS83.ge HI334.out)) | exact HB.out)); rintro e w8 ⟨rfl, hi, hb, hk⟩; refine ⟨_, rfl, ?_⟩; replace HB := Aside0.mk (hb); replace HI334 := Aside0.mk (hi); (try clear hb); (try clear hk); (try clear hi)) | ((with_reducible refine gate_callee (f := 43) rfl ?_); refine goesL_ (some 13) rfl rfl Tryz.func43 (by kernel_rfl) rfl #[.pointer (some ⟨g334, 0, none⟩), .int .i64 16] rfl Sqz.auM ?_; (with_reducible refine (spec_l6Rd_pick.calls k g334 t332 t336 16 t337 t338 w _ ?side1 ?side2 A4.out).mono ?_); (case side1 => repeat (first | (with_reducible first | exact HI334.out | apply IsS83.alloc | apply IsS83.drewN | apply IsS83.drew | apply IsS83.set_1) | exact HI334.out)); (case side2 => repeat (first | (with_reducible first | exact HB.out | apply below_alloc | apply pw_below_drewN | apply below_drew1 | refine below_set ?_ (IsS83.ge HI334.out)) | exact HB.out)); rintro e w9 ⟨rfl, hi, hb, hk⟩; refine ⟨_, rfl, ?_⟩; replace HB := Aside0.mk (hb); replace HI334 := Aside0.mk (hi); (try clear hb); (try clear hk); (try clear hi)) | ((with_reducible refine gate_callee (f := 76) rfl ?_); refine goesL_ (some 16) rfl rfl Tryz.func76 (by kernel_rfl) rfl #[.pointer (some ⟨g334, 0, none⟩), .int .i64 (wrap64 ((wrap64 (1 + t335)) + (wrap64 (Int.tdiv t337 15))))] rfl Sqz.auM ?_; (with_reducible refine (spec_l92Form.calls k g334 t332 t338 (wrap64 ((wrap64 (1 + t335)) + (wrap64 (Int.tdiv t337 15)))) t339 t342 w _ ?side1 ?side2 A5.out).mono ?_); (case side1 => repeat (first | (with_reducible first | exact HI334.out | apply IsS83.alloc | apply IsS83.drewN | apply IsS83.drew | apply IsS83.set_1) | exact HI334.out)); (case side2 => repeat (first | (with_reducible first | exact HB.out | apply below_alloc | apply pw_below_drewN | apply below_drew1 | refine below_set ?_ (IsS83.ge HI334.out)) | exact HB.out)); rintro e w10 ⟨v340, rfl, ho0, hi, hb, hk⟩; refine ⟨_, rfl, ?_⟩; have HO341 := Aside0.mk (Kd.R_lower ho0 (below_size (by repeat (first | (with_reducible first | exact HB.out | apply below_alloc | apply pw_below_drewN | apply below_drew1 | refine below_set ?_ (IsS83.ge HI334.out)) | exact HB.out)))); replace HB := Aside0.mk (hb); replace HI334 := Aside0.mk (hi); (try clear hb); (try clear hk); (try clear hi); (try clear ho0)) | ((with_reducible refine gate_callee (f := 85) rfl ?_); refine goesL_ (some 19) rfl rfl Tryz.func85 (by kernel_rfl) rfl #[.pointer (some ⟨g334, 0, none⟩)] rfl Sqz.auM ?_; (with_reducible refine (spec_l92Target.calls k g334 t332 t342 t343 t344 w _ ?side1 ?side2 A6.out).mono ?_); (case side1 => repeat (first | (with_reducible first | exact HI334.out | apply IsS83.alloc | apply IsS83.drewN | apply IsS83.drew | apply IsS83.set_1) | exact HI334.out)); (case side2 => repeat (first | (with_reducible first | exact HB.out | apply below_alloc | apply pw_below_drewN | apply below_drew1 | refine below_set ?_ (IsS83.ge HI334.out)) | exact HB.out)); rintro e w11 ⟨rfl, hi, hb, hk⟩; refine ⟨_, rfl, ?_⟩; replace HO341 := Aside0.mk (Kd.R_mono (Kd.R_keep (IsS83.apart (show IsS83 w _ g334 t332 t342 from by repeat (first | (with_reducible first | exact HI334.out | apply IsS83.alloc | apply IsS83.drewN | apply IsS83.drew | apply IsS83.set_1) | exact HI334.out)) ((Sqz.mvR HO341.out)) (by decide)) hk (fun _ h => h.2)) (fun _ h => h.1)); replace HB := Aside0.mk (hb); replace HI334 := Aside0.mk (hi); (try clear hb); (try clear hk); (try clear hi)))
 go_ret2
 exact ⟨_, Sqz.auR, (Sqz.mvR HO341.out), by repeat (first | (with_reducible first | exact HB.out | apply below_alloc | apply pw_below_drewN | apply below_drew1 | refine below_set ?_ (IsS83.ge HI334.out)) | exact HB.out)⟩

/-! ### spec_l1Core: function 81 -/
mutual
def spec_l1Core.l0 : Nat → Int → Int → Int → Option (Int × Int)
 | 0, _, _, _ => none
 | k + 1, x0, x4, x5 => (spec_l1Size.f x0).bind fun t345 => (if (wrap64 (x5 * x5)) ≤ t345 then (spec_l1Core.l1 k x0 x4 x5) else (some (x0, x4)))
def spec_l1Core.l1 : Nat → Int → Int → Int → Option (Int × Int)
 | 0, _, _, _ => none
 | k + 1, x0, x4, x5 => if (wrap64 (x5 * x5)) = 0 then (none) else (if (Int.tmod x0 (wrap64 (x5 * x5))) = 0 then (spec_l1Core.l1 k (wrap64 (Int.tdiv x0 (wrap64 (x5 * x5)))) (wrap64 (x4 * x5)) x5) else (spec_l1Core.l0 k x0 x4 (wrap64 (x5 + 1))))
end
def spec_l1Core.f (k : Nat) (a0 : Int) : Option (Int × Int) := spec_l1Core.l0 k a0 1 2
set_option maxHeartbeats 8000000 in
set_option maxRecDepth 100000 in
theorem spec_l1Core.calls (k : Nat) (a0 : Int) (r1 : Int) (r2 : Int) (w : World) (h : spec_l1Core.f k a0 = some (r1, r2)) :
  Calls Tryz.prog 81 #[.int .i64 a0] w fun e w' => e = .returned (.tuple #[.int .i64 r1, .int .i64 r2]) ∧ Below w.heap.size w w' := by
 have HB := Aside0.mk (Below.refl w.heap.size w); have H : (spec_l1Core.l0 k a0 1 2) = some (r1, r2) := h; clear h; have H' := Aside0.mk H; clear H
 go_enter Tryz.func81, Tryz.ntmps81
 go_wp2
 go_loopg [0, 4, 5] k (fun kq v0 v4 v5 w' => ∃ (x0_1 : Int) (x4_1 : Int) (x5_1 : Int), v0 = .int .i64 x0_1 ∧ v4 = .int .i64 x4_1 ∧ v5 = .int .i64 x5_1 ∧ Aside0 (spec_l1Core.l0 kq x0_1 x4_1 x5_1 = some (r1, r2)) ∧ Aside0 (kq ≤ k) ∧ Aside0 (Below w.heap.size w w'))
 case atStart => exact ⟨(a0), (1), (2), Sqz.auS, Sqz.auS, Sqz.auS, H', ⟨Nat.le_refl _⟩, ⟨Sqz.auHB⟩⟩
 case round =>
  clear H'; obtain ⟨x0_1, x4_1, x5_1, rfl, rfl, rfl, HA, HK1, HB⟩ := hrel; cases gk with
  | zero => exact absurd HA.out (by simp [spec_l1Core.l0])
  | succ k1 =>
   have H := HA.out; clear HA; simp only [spec_l1Core.l0] at H; obtain ⟨t345, A2, H⟩ := Sqz.be H
   by_cases c3 : (wrap64 (x5_1 * x5_1)) ≤ t345
   ·rw [if_pos c3] at H; have c3b0 := decide_eq_true c3; clear c3; have H' := Aside0.mk H; clear H
    go_wp2_with (((with_reducible refine gate_callee (f := 134) rfl ?_); refine goesL_ (some 10) rfl rfl Tryz.func134 (by kernel_rfl) rfl #[.int .i64 x0_1] rfl Sqz.auM ?_; (with_reducible refine (spec_l1Size.calls x0_1 t345 _ A2.out).mono ?_); rintro e w4 ⟨rfl, hb⟩; refine ⟨_, rfl, ?_⟩; replace HB := Aside0.mk (below_step (Sqz.auHB) hb); (try clear hb)))
    go_loopg [0, 4] k1 (fun kq v0 v4 w' => ∃ (x0_2 : Int) (x4_2 : Int), v0 = .int .i64 x0_2 ∧ v4 = .int .i64 x4_2 ∧ Aside0 (spec_l1Core.l1 kq x0_2 x4_2 x5_1 = some (r1, r2)) ∧ Aside0 (kq ≤ k1) ∧ Aside0 (Below w.heap.size w w'))
    case atStart => exact ⟨(x0_1), (x4_1), Sqz.auS, Sqz.auS, H', ⟨Nat.le_refl _⟩, ⟨Sqz.auHB⟩⟩
    case round =>
     clear H'
     try clear c3b0
     obtain ⟨x0_2, x4_2, rfl, rfl, HA, HK2, HB⟩ := hrel; cases gk with
     | zero => exact absurd HA.out (by simp [spec_l1Core.l1])
     | succ k2 =>
      have H := HA.out; clear HA; simp only [spec_l1Core.l1] at H
      by_cases c5 : (wrap64 (x5_1 * x5_1)) = 0
      ·rw [if_pos c5] at H; exact absurd H (by simp)
      ·rw [if_neg c5] at H
       by_cases c6 : (Int.tmod x0_2 (wrap64 (x5_1 * x5_1))) = 0
       ·rw [if_pos c6] at H; have c6b0 := beq_iff_eq.mpr c6; clear c6; have H' := Aside0.mk H; clear H; go_wp2
        go_roundg k2
        case measure => have := HK1.out; have := HK2.out; omega
        case rel => exact ⟨(wrap64 (Int.tdiv x0_2 (wrap64 (x5_1 * x5_1)))), (wrap64 (x4_2 * x5_1)), Sqz.auS, Sqz.auS, H', ⟨by have := HK1.out; have := HK2.out; omega⟩, ⟨Sqz.auHB⟩⟩
       ·rw [if_neg c6] at H; have c6b0 := beq_eq_false_iff_ne.mpr c6; have H' := Aside0.mk H; clear H; go_wp2
        go_roundg k2
        case measure => have := HK1.out; have := HK2.out; omega
        case rel => exact ⟨(x0_2), (x4_2), (wrap64 (x5_1 + 1)), Sqz.auS, Sqz.auS, Sqz.auS, H', ⟨by have := HK1.out; have := HK2.out; omega⟩, ⟨Sqz.auHB⟩⟩
   ·rw [if_neg c3] at H; have c3b0 := decide_eq_false c3; clear c3; simp only [Option.some.injEq, Prod.mk.injEq] at H; obtain ⟨rfl, rfl⟩ := H
    go_wp2_with (((with_reducible refine gate_callee (f := 134) rfl ?_); refine goesL_ (some 10) rfl rfl Tryz.func134 (by kernel_rfl) rfl #[.int .i64 x0_1] rfl Sqz.auM ?_; (with_reducible refine (spec_l1Size.calls x0_1 t345 _ A2.out).mono ?_); rintro e w7 ⟨rfl, hb⟩; refine ⟨_, rfl, ?_⟩; replace HB := Aside0.mk (below_step (Sqz.auHB) hb); (try clear hb)))
    go_ret2
    exact ⟨Sqz.auR, Sqz.auHB⟩

/-! ### spec_l1Gcd: function 136 -/
def spec_l1Gcd.l0 : Nat → Int → Int → Option (Int)
 | 0, _, _ => none
 | k + 1, x0, x1 => if x1 = 0 then (some x0) else (spec_l1Gcd.l0 k x1 (Int.tmod x0 x1))
def spec_l1Gcd.f (k : Nat) (a0 : Int) (a1 : Int) : Option (Int) := (spec_l1Size.f a0).bind fun t346 => ((spec_l1Size.f a1).bind fun t347 => (spec_l1Gcd.l0 k t346 t347))
set_option maxHeartbeats 8000000 in
set_option maxRecDepth 100000 in
theorem spec_l1Gcd.calls (k : Nat) (a0 : Int) (a1 : Int) (r : Int) (w : World) (h : spec_l1Gcd.f k a0 a1 = some r) :
  Calls Tryz.prog 136 #[.int .i64 a0, .int .i64 a1] w fun e w' => e = .returned (.int .i64 r) ∧ Below w.heap.size w w' := by
 have HB := Aside0.mk (Below.refl w.heap.size w); have H : ((spec_l1Size.f a0).bind fun t346 => ((spec_l1Size.f a1).bind fun t347 => (spec_l1Gcd.l0 k t346 t347))) = some r := h; clear h; obtain ⟨t346, A3, H⟩ := Sqz.be H; obtain ⟨t347, A4, H⟩ := Sqz.be H; have H' := Aside0.mk H; clear H
 go_enter Tryz.func136, Tryz.ntmps136
 go_wp2_with (first | ((with_reducible refine gate_callee (f := 134) rfl ?_); refine goesL_ (some 7) rfl rfl Tryz.func134 (by kernel_rfl) rfl #[.int .i64 a0] rfl Sqz.auM ?_; (with_reducible refine (spec_l1Size.calls a0 t346 _ A3.out).mono ?_); rintro e w5 ⟨rfl, hb⟩; refine ⟨_, rfl, ?_⟩; replace HB := Aside0.mk (below_step (Sqz.auHB) hb); (try clear hb)) | ((with_reducible refine gate_callee (f := 134) rfl ?_); refine goesL_ (some 9) rfl rfl Tryz.func134 (by kernel_rfl) rfl #[.int .i64 a1] rfl Sqz.auM ?_; (with_reducible refine (spec_l1Size.calls a1 t347 _ A4.out).mono ?_); rintro e w6 ⟨rfl, hb⟩; refine ⟨_, rfl, ?_⟩; replace HB := Aside0.mk (below_step (Sqz.auHB) hb); (try clear hb)))
 go_loopg [0, 1] k (fun kq v0 v1 w' => ∃ (x0_1 : Int) (x1_1 : Int), v0 = .int .i64 x0_1 ∧ v1 = .int .i64 x1_1 ∧ Aside0 (spec_l1Gcd.l0 kq x0_1 x1_1 = some r) ∧ Aside0 (kq ≤ k) ∧ Aside0 (Below w.heap.size w w'))
 case atStart => exact ⟨(t346), (t347), Sqz.auS, Sqz.auS, H', ⟨Nat.le_refl _⟩, ⟨Sqz.auHB⟩⟩
 case round =>
  clear H'
  obtain ⟨x0_1, x1_1, rfl, rfl, HA, HK1, HB⟩ := hrel; cases gk with
  | zero => exact absurd HA.out (by simp [spec_l1Gcd.l0])
  | succ k1 =>
   have H := HA.out; clear HA; simp only [spec_l1Gcd.l0] at H
   by_cases c7 : x1_1 = 0
   ·rw [if_pos c7] at H; have c7b1 := bne_eq_false_iff_eq.mpr c7; clear c7; obtain rfl := Option.some.inj H; go_wp2; go_ret
    exact ⟨Sqz.auR, Sqz.auHB⟩
   ·rw [if_neg c7] at H; have c7b1 := bne_iff_ne.mpr c7; have H' := Aside0.mk H; clear H; go_wp2
    go_roundg k1
    case measure => have := HK1.out; omega
    case rel => exact ⟨(x1_1), (Int.tmod x0_1 x1_1), Sqz.auS, Sqz.auS, H', ⟨by have := HK1.out; omega⟩, ⟨Sqz.auHB⟩⟩

/-! ### spec_l5Plain: function 82 -/
mutual
def spec_l5Plain.l0 : Nat → List Int → Int → Int → Bool → Int → Option (List Int)
 | 0, _, _, _, _, _ => none
 | k + 1, x0, x3, x4, x5, x6 => if x6 < (x0.length : Int) then (if 0 ≤ x6 then ((spec_l1Gcd.f k x3 (rd x0 x6)).bind fun t349 => (if (rd x0 x6) = 0 then (spec_l5Plain.j1 k x0 t349 x4 x5 x6 false) else (spec_l5Plain.j1 k x0 t349 x4 x5 x6 x5))) else (none)) else (spec_l5Plain.l1 k x0 x3 x4 (([] : List Int)) 0)
def spec_l5Plain.j1 : Nat → List Int → Int → Int → Bool → Int → Bool → Option (List Int)
 | 0, _, _, _, _, _, _ => none
 | k + 1, x0, x3, x4, x5, x6, x28 => if x28 = true then (if 0 ≤ x6 then (if x6 < (x0.length : Int) then (if (rd x0 x6) < 0 then (spec_l5Plain.l0 k x0 x3 (-1) false (wrap64 (x6 + 1))) else (spec_l5Plain.l0 k x0 x3 x4 false (wrap64 (x6 + 1)))) else (none)) else (none)) else (spec_l5Plain.l0 k x0 x3 x4 x5 (wrap64 (x6 + 1)))
def spec_l5Plain.l1 : Nat → List Int → Int → Int → List Int → Int → Option (List Int)
 | 0, _, _, _, _, _ => none
 | k + 1, x0, x3, x4, x7, x8 => if x8 < (x0.length : Int) then (if 0 ≤ x8 then (if x3 = 0 then (none) else (if x7.length < 17592186044416 then (spec_l5Plain.l1 k x0 x3 x4 (x7 ++ [wrap64 (Int.tdiv (wrap64 (x4 * (rd x0 x8))) x3)]) (wrap64 (x8 + 1))) else (none))) else (none)) else (some x7)
end
def spec_l5Plain.f (k : Nat) (l0 : List Int) : Option (List Int) := spec_l5Plain.l0 k l0 0 1 true 0
set_option maxHeartbeats 8000000 in
set_option maxRecDepth 100000 in
theorem spec_l5Plain.calls (k : Nat) (A0 : Option Addr) (c0 : Nat) (l0 : List Int) (r : List Int) (w : World) (hr0 : Kd.C (Kd.int .i64) w A0 l0.length l0) (hc0 : l0.length ≤ c0) (h : spec_l5Plain.f k l0 = some r) :
  Calls Tryz.prog 82 #[.slice A0 l0.length c0] w fun e w' => ∃ v0_ : Value, e = .returned (v0_) ∧ Kd.R (Kd.int .i64) 3 w' w.heap.size (fun _ => True) v0_ r ∧ Below w.heap.size w w' := by
 have HR0 := Aside0.mk hr0; have HC0 := Aside0.mk hc0; clear hr0 hc0; have HB := Aside0.mk (Below.refl w.heap.size w); have H : (spec_l5Plain.l0 k l0 0 1 true 0) = some r := h; clear h; have H' := Aside0.mk H; clear H
 go_enter Tryz.func82, Tryz.ntmps82
 go_wp2
 go_loopg [3, 4, 5, 6] k (fun kq v3 v4 v5 v6 w' => ∃ (x3_1 : Int) (x4_1 : Int) (x5_1 : Bool) (x6_1 : Int), v3 = .int .i64 x3_1 ∧ v4 = .int .i64 x4_1 ∧ v5 = .bool x5_1 ∧ v6 = .int .i64 x6_1 ∧ Aside0 (spec_l5Plain.l0 kq l0 x3_1 x4_1 x5_1 x6_1 = some r) ∧ Aside0 (kq ≤ k) ∧ Aside0 (Below w.heap.size w w'))
 case atStart => exact ⟨(0), (1), (true), (0), Sqz.auS, Sqz.auS, Sqz.auS, Sqz.auS, H', ⟨Nat.le_refl _⟩, ⟨Sqz.auHB⟩⟩
 case round =>
  clear H'; obtain ⟨x3_1, x4_1, x5_1, x6_1, rfl, rfl, rfl, rfl, HA, HK1, HB⟩ := hrel; cases gk with
  | zero => exact absurd HA.out (by simp [spec_l5Plain.l0])
  | succ k1 =>
   have H := HA.out; clear HA; simp only [spec_l5Plain.l0] at H
   by_cases c2 : x6_1 < (l0.length : Int)
   ·rw [if_pos c2] at H; have c2b0 := decide_eq_true c2; clear c2
    by_cases c3 : 0 ≤ x6_1
    ·rw [if_pos c3] at H; have c3b0 := decide_eq_true c3; clear c3; obtain ⟨t349, A4, H⟩ := Sqz.be H; have HC5 := Aside0.mk H; clear H; have p348 : 0 ≤ (x6_1 : Int) := Sqz.od; have q348 : x6_1 < (l0.length : Int) := Sqz.od; obtain ⟨ad348, e348, hx348_0⟩ := Kd.at_int HR0.out x6_1 p348 q348; cases e348; replace hx348_0 := (HB.out.cell (World.block_lt_of_cell? w _ hx348_0)).trans hx348_0; replace p348 := eq_true p348; replace q348 := eq_true q348
     go_upto_region 8 with (((with_reducible refine gate_callee (f := 136) rfl ?_); refine goesL_ (some 20) rfl rfl Tryz.func136 (by kernel_rfl) rfl #[.int .i64 x3_1, .int .i64 (rd l0 x6_1)] rfl Sqz.auM ?_; (with_reducible refine (spec_l1Gcd.calls k1 x3_1 (rd l0 x6_1) t349 _ A4.out).mono ?_); rintro e w6 ⟨rfl, hb⟩; refine ⟨_, rfl, ?_⟩; replace HB := Aside0.mk (below_step (Sqz.auHB) hb); (try clear hb)))
     (try simp only [Act.put, List.setIfInBounds_toArray, List.set_cons_zero, List.set_cons_succ])
     go_cut [28] (fun v28 wc => ∃ (kq : Nat) (x28_4 : Bool), v28 = .bool x28_4 ∧ Aside0 (spec_l5Plain.j1 kq l0 t349 x4_1 x5_1 x6_1 x28_4 = some r) ∧ Aside0 (kq ≤ k1) ∧ Aside0 (Below w.heap.size w wc))
     case first =>
      have H := HC5.out; clear HC5
      by_cases c7 : (rd l0 x6_1) = 0
      ·rw [if_pos c7] at H; have c7b1 := bne_eq_false_iff_eq.mpr c7; clear c7
       have H' := Aside0.mk H; clear H; have p350 : 0 ≤ (x6_1 : Int) := Sqz.od; have q350 : x6_1 < (l0.length : Int) := Sqz.od; obtain ⟨ad350, e350, hx350_0⟩ := Kd.at_int HR0.out x6_1 p350 q350; obtain rfl : ad348 = ad350 := (by injection e350); replace hx350_0 := (HB.out.cell (World.block_lt_of_cell? w _ hx350_0)).trans hx350_0; replace p350 := eq_true p350; replace q350 := eq_true q350; go_wp2
       go_meet
       case rel => exact ⟨_, (false), Sqz.auS, H', ⟨by have := HK1.out; first | omega | exact Nat.le_refl _⟩, ⟨Sqz.auHB⟩⟩
      ·rw [if_neg c7] at H; have c7b1 := bne_iff_ne.mpr c7
       have H' := Aside0.mk H; clear H; have p350 : 0 ≤ (x6_1 : Int) := Sqz.od; have q350 : x6_1 < (l0.length : Int) := Sqz.od; obtain ⟨ad350, e350, hx350_0⟩ := Kd.at_int HR0.out x6_1 p350 q350; obtain rfl : ad348 = ad350 := (by injection e350); replace hx350_0 := (HB.out.cell (World.block_lt_of_cell? w _ hx350_0)).trans hx350_0; replace p350 := eq_true p350; replace q350 := eq_true q350; go_wp2
       go_meet
       case rel => exact ⟨_, (x5_1), Sqz.auS, H', ⟨by have := HK1.out; first | omega | exact Nat.le_refl _⟩, ⟨Sqz.auHB⟩⟩
     case rest =>
      clear HC5
      try clear c2b0
      try clear c3b0
      try clear hx348_0
      try clear p348
      try clear q348
      obtain ⟨kq, x28_4, rfl, HA, HJ4, HB⟩ := hcut; cases kq with
      | zero => exact absurd HA.out (by simp [spec_l5Plain.j1])
      | succ kj4 =>
       have H := HA.out; clear HA; simp only [spec_l5Plain.j1] at H
       by_cases c8 : x28_4 = true
       ·subst c8; have H1 : (if 0 ≤ x6_1 then (if x6_1 < (l0.length : Int) then (if (rd l0 x6_1) < 0 then (spec_l5Plain.l0 kj4 l0 t349 (-1) false (wrap64 (x6_1 + 1))) else (spec_l5Plain.l0 kj4 l0 t349 x4_1 false (wrap64 (x6_1 + 1)))) else (none)) else (none)) = some r := by rw [if_pos rfl] at H; exact H
        clear H; have H := H1; clear H1
        by_cases c9 : 0 ≤ x6_1
        ·rw [if_pos c9] at H; have c9b0 := decide_eq_true c9; clear c9
         by_cases c10 : x6_1 < (l0.length : Int)
         ·rw [if_pos c10] at H; have c10b0 := decide_eq_true c10; clear c10
          by_cases c11 : (rd l0 x6_1) < 0
          ·rw [if_pos c11] at H; have c11b0 := decide_eq_true c11; clear c11; have H' := Aside0.mk H; clear H; have p351 : 0 ≤ (x6_1 : Int) := Sqz.od; have q351 : x6_1 < (l0.length : Int) := Sqz.od; obtain ⟨ad351, e351, hx351_0⟩ := Kd.at_int HR0.out x6_1 p351 q351; obtain rfl : ad348 = ad351 := (by injection e351); replace hx351_0 := (HB.out.cell (World.block_lt_of_cell? w _ hx351_0)).trans hx351_0; replace p351 := eq_true p351; replace q351 := eq_true q351; go_wp2
           go_roundg kj4
           case measure => have := HK1.out; have := HJ4.out; omega
           case rel => exact ⟨(t349), ((-1)), (false), (wrap64 (x6_1 + 1)), Sqz.auS, Sqz.auS, Sqz.auS, Sqz.auS, H', ⟨by have := HK1.out; have := HJ4.out; omega⟩, ⟨Sqz.auHB⟩⟩
          ·rw [if_neg c11] at H; have c11b0 := decide_eq_false c11; clear c11; have H' := Aside0.mk H; clear H; have p351 : 0 ≤ (x6_1 : Int) := Sqz.od; have q351 : x6_1 < (l0.length : Int) := Sqz.od; obtain ⟨ad351, e351, hx351_0⟩ := Kd.at_int HR0.out x6_1 p351 q351; obtain rfl : ad348 = ad351 := (by injection e351); replace hx351_0 := (HB.out.cell (World.block_lt_of_cell? w _ hx351_0)).trans hx351_0; replace p351 := eq_true p351; replace q351 := eq_true q351; go_wp2
           go_roundg kj4
           case measure => have := HK1.out; have := HJ4.out; omega
           case rel => exact ⟨(t349), (x4_1), (false), (wrap64 (x6_1 + 1)), Sqz.auS, Sqz.auS, Sqz.auS, Sqz.auS, H', ⟨by have := HK1.out; have := HJ4.out; omega⟩, ⟨Sqz.auHB⟩⟩
         ·rw [if_neg c10] at H; exact absurd H (by simp)
        ·rw [if_neg c9] at H; exact absurd H (by simp)
       ·replace c8 := Bool.eq_false_iff.mpr c8; subst c8; have H1 : (spec_l5Plain.l0 kj4 l0 t349 x4_1 x5_1 (wrap64 (x6_1 + 1))) = some r := by rw [if_neg (show ¬ (false = true) by decide)] at H; exact H
        clear H; have H := H1; clear H1; have H' := Aside0.mk H; clear H; go_wp2
        go_roundg kj4
        case measure => have := HK1.out; have := HJ4.out; omega
        case rel => exact ⟨(t349), (x4_1), (x5_1), (wrap64 (x6_1 + 1)), Sqz.auS, Sqz.auS, Sqz.auS, Sqz.auS, H', ⟨by have := HK1.out; have := HJ4.out; omega⟩, ⟨Sqz.auHB⟩⟩
    ·rw [if_neg c3] at H; exact absurd H (by simp)
   ·rw [if_neg c2] at H; have c2b0 := decide_eq_false c2; clear c2; obtain ⟨y352, hyy⟩ : ∃ y_ : List Int, y_ = (([] : List Int)) := ⟨_, rfl⟩
    replace H : (spec_l5Plain.l1 k1 l0 x3_1 x4_1 y352 0) = some r := Sqz.auY
    have Ny352 := Aside0.mk hyy; clear hyy; have H' := Aside0.mk H; clear H
    go_wp2_with (((with_reducible refine gate_dst (N := 34) rfl ?_); refine Kd.R_lit (Kd.int .i64) _ 3 ?hg (N := 34) ?hd (xs := ([] : List Int)) (inner := []) (ok := fun _ => True) (okp := fun _ => True) ?hr ?hp (fun _ hk => hk) trivial (Below.refl _ _) (Nat.le_refl _) (by simp) ?_; (case hd => rfl); (case hg => rfl); (case hr => first | (go_simp; done) | (go_simp; rfl)); (case hp => exact (Reps.none _ _)); intro v353 w12 ho13 hb hg_ hnew_; clear hg_ hnew_; (first | rw [← Ny352.out] at ho13 | (simp only [Int.reduceToNat] at ho13; rw [← Ny352.out] at ho13)); have HO354 := Aside0.mk (Kd.R_lower ho13 (below_size (Sqz.auHB))); replace HB := Aside0.mk (below_step (Sqz.auHB) hb); clear hb ho13))
    go_loopg [7, 8] k1 (fun kq v7 v8 w' => ∃ (x7_2 : List Int) (x8_2 : Int), v8 = .int .i64 x8_2 ∧ Aside0 (spec_l5Plain.l1 kq l0 x3_1 x4_1 x7_2 x8_2 = some r) ∧ Aside0 (kq ≤ k1) ∧ Aside0 (Kd.R (Kd.int .i64) 3 w' w.heap.size (fun _ => True) v7 x7_2) ∧ Aside0 (Below w.heap.size w w'))
    case atStart => exact ⟨(y352), (0), Sqz.auS, H', ⟨Nat.le_refl _⟩, ⟨(Sqz.mvR HO354.out)⟩, ⟨Sqz.auHB⟩⟩
    case round =>
     clear H'
     try clear c2b0
     obtain ⟨x7_2, x8_2, rfl, HA, HK2, HO_7, HB⟩ := hrel; cases gk with
     | zero => exact absurd HA.out (by simp [spec_l5Plain.l1])
     | succ k2 =>
      have H := HA.out; clear HA; simp only [spec_l5Plain.l1] at H
      by_cases c14 : x8_2 < (l0.length : Int)
      ·rw [if_pos c14] at H; have c14b0 := decide_eq_true c14; clear c14
       by_cases c15 : 0 ≤ x8_2
       ·rw [if_pos c15] at H; have c15b0 := decide_eq_true c15; clear c15
        by_cases c16 : x3_1 = 0
        ·rw [if_pos c16] at H; exact absurd H (by simp)
        ·rw [if_neg c16] at H
         by_cases c17 : x7_2.length < 17592186044416
         ·rw [if_pos c17] at H; have LMc17 := Aside0.mk c17; clear c17; obtain ⟨y356, hyy⟩ : ∃ y_ : List Int, y_ = (x7_2 ++ [wrap64 (Int.tdiv (wrap64 (x4_1 * (rd l0 x8_2))) x3_1)]) := ⟨_, rfl⟩
          replace H : (spec_l5Plain.l1 k2 l0 x3_1 x4_1 y356 (wrap64 (x8_2 + 1))) = some r := Sqz.auY
          have Ny356 := Aside0.mk hyy; clear hyy; have H' := Aside0.mk H; clear H; have p355 : 0 ≤ (x8_2 : Int) := Sqz.od; have q355 : x8_2 < (l0.length : Int) := Sqz.od; obtain ⟨ad355, e355, hx355_0⟩ := Kd.at_int HR0.out x8_2 p355 q355; cases e355; replace hx355_0 := (HB.out.cell (World.block_lt_of_cell? w _ hx355_0)).trans hx355_0; replace p355 := eq_true p355; replace q355 := eq_true q355
          go_wp2_with (((with_reducible refine gate_builtin (b := .append) (xs := #[.tmp 41, .tmp 50]) rfl ?_); at_builtin; refine Kd.R_append (Kd.int .i64) (w0 := w) w.heap.size rfl (.tmp 41) (.tmp 50) 27 3 (.int .i64 0) 8 rfl Tryz.underlying27 info3 rfl (by decide) (by omega) u7 x7_2 (wrap64 (Int.tdiv (wrap64 (x4_1 * (rd l0 x8_2))) x3_1)) [.int .i64 (wrap64 (Int.tdiv (wrap64 (x4_1 * (rd l0 x8_2))) x3_1))] (fun _ => True) (fun _ => False) rfl rfl ?aP (fun _ hk => hk.elim) ?aF ?aO ?aB ?aS ?aL ?_; (case aP => exact rfl); (case aB => exact (Sqz.auHB)); (case aF => exact (fun _ _ => trivial)); (case aO => exact ((Sqz.mvR HO_7.out))); (case aS => exact (below_size (Sqz.auHB))); (case aL => have := LMc17.out; omega); intro v357 w18 ho hb hg hat; rw [← Ny356.out] at ho; replace HB := Aside0.mk (hb); have HO358 := Aside0.mk (ho); clear HO_7; clear ho hb hg hat))
          go_roundg k2
          case measure => have := HK1.out; have := HK2.out; omega
          case rel => exact ⟨(y356), (wrap64 (x8_2 + 1)), Sqz.auS, H', ⟨by have := HK1.out; have := HK2.out; omega⟩, ⟨(Sqz.mvR HO358.out)⟩, ⟨Sqz.auHB⟩⟩
         ·rw [if_neg c17] at H; exact absurd H (by simp)
       ·rw [if_neg c15] at H; exact absurd H (by simp)
      ·rw [if_neg c14] at H; have c14b0 := decide_eq_false c14; clear c14; obtain rfl := Option.some.inj H; go_wp2; go_ret
       exact ⟨_, Sqz.auR, (Sqz.mvR HO_7.out), Sqz.auHB⟩

/-! ### spec_l1Primes: function 175 -/
mutual
def spec_l1Primes.l0 : Nat → Int → List Int → Int → Option (List Int)
 | 0, _, _, _ => none
 | k + 1, x0, x3, x4 => if (wrap64 (x4 * x4)) ≤ x0 then (if x4 = 0 then (none) else (if (Int.tmod x0 x4) = 0 then (if x3.length < 17592186044416 then (spec_l1Primes.j1 k x0 (x3 ++ [x4]) x4) else (none)) else (spec_l1Primes.j1 k x0 x3 x4))) else (if x0 > 1 then (if x3.length < 17592186044416 then (some (x3 ++ [x0])) else (none)) else (some x3))
def spec_l1Primes.j1 : Nat → Int → List Int → Int → Option (List Int)
 | 0, _, _, _ => none
 | k + 1, x0, x3, x4 => spec_l1Primes.l1 k x0 x3 x4
def spec_l1Primes.l1 : Nat → Int → List Int → Int → Option (List Int)
 | 0, _, _, _ => none
 | k + 1, x0, x3, x4 => if x4 = 0 then (none) else (if (Int.tmod x0 x4) = 0 then (spec_l1Primes.l1 k (wrap64 (Int.tdiv x0 x4)) x3 x4) else (spec_l1Primes.l0 k x0 x3 (wrap64 (x4 + 1))))
end
def spec_l1Primes.f (k : Nat) (a0 : Int) : Option (List Int) := (spec_l1Size.f a0).bind fun t362 => (spec_l1Primes.l0 k t362 (([] : List Int)) 2)
set_option maxHeartbeats 8000000 in
set_option maxRecDepth 100000 in
theorem spec_l1Primes.calls (k : Nat) (a0 : Int) (r : List Int) (w : World) (h : spec_l1Primes.f k a0 = some r) :
  Calls Tryz.prog 175 #[.int .i64 a0] w fun e w' => ∃ v0_ : Value, e = .returned (v0_) ∧ Kd.R (Kd.int .i64) 3 w' w.heap.size (fun _ => True) v0_ r ∧ Below w.heap.size w w' := by
 have HB := Aside0.mk (Below.refl w.heap.size w); have H : ((spec_l1Size.f a0).bind fun t362 => (spec_l1Primes.l0 k t362 (([] : List Int)) 2)) = some r := h; clear h; obtain ⟨y359, hyy⟩ : ∃ y_ : List Int, y_ = (([] : List Int)) := ⟨_, rfl⟩
 replace H : ((spec_l1Size.f a0).bind fun t362 => (spec_l1Primes.l0 k t362 y359 2)) = some r := Sqz.auY
 have Ny359 := Aside0.mk hyy; clear hyy; obtain ⟨t362, A2, H⟩ := Sqz.be H; have H' := Aside0.mk H; clear H
 go_enter Tryz.func175, Tryz.ntmps175
 go_wp2_with (first | ((with_reducible refine gate_dst (N := 5) rfl ?_); refine Kd.R_lit (Kd.int .i64) _ 3 ?hg (N := 5) ?hd (xs := ([] : List Int)) (inner := []) (ok := fun _ => True) (okp := fun _ => True) ?hr ?hp (fun _ hk => hk) trivial (Below.refl _ _) (Nat.le_refl _) (by simp) ?_; (case hd => rfl); (case hg => rfl); (case hr => first | (go_simp; done) | (go_simp; rfl)); (case hp => exact (Reps.none _ _)); intro v360 w3 ho4 hb hg_ hnew_; clear hg_ hnew_; (first | rw [← Ny359.out] at ho4 | (simp only [Int.reduceToNat] at ho4; rw [← Ny359.out] at ho4)); have HO361 := Aside0.mk (Kd.R_lower ho4 (below_size (Sqz.auHB))); replace HB := Aside0.mk (below_step (Sqz.auHB) hb); clear hb ho4) | ((with_reducible refine gate_callee (f := 134) rfl ?_); refine goesL_ (some 7) rfl rfl Tryz.func134 (by kernel_rfl) rfl #[.int .i64 a0] rfl Sqz.auM ?_; (with_reducible refine (spec_l1Size.calls a0 t362 _ A2.out).mono ?_); rintro e w5 ⟨rfl, hb⟩; refine ⟨_, rfl, ?_⟩; replace HO361 := Aside0.mk (Kd.R_below ((Sqz.mvR HO361.out)) hb); replace HB := Aside0.mk (below_step (Sqz.auHB) hb); (try clear hb)))
 go_loopg [0, 3, 4] k (fun kq v0 v3 v4 w' => ∃ (x0_1 : Int) (x3_1 : List Int) (x4_1 : Int), v0 = .int .i64 x0_1 ∧ v4 = .int .i64 x4_1 ∧ Aside0 (spec_l1Primes.l0 kq x0_1 x3_1 x4_1 = some r) ∧ Aside0 (kq ≤ k) ∧ Aside0 (Kd.R (Kd.int .i64) 3 w' w.heap.size (fun _ => True) v3 x3_1) ∧ Aside0 (Below w.heap.size w w'))
 case atStart => exact ⟨(t362), (y359), (2), Sqz.auS, Sqz.auS, H', ⟨Nat.le_refl _⟩, ⟨(Sqz.mvR HO361.out)⟩, ⟨Sqz.auHB⟩⟩
 case round =>
  clear H'
  obtain ⟨x0_1, x3_1, x4_1, rfl, rfl, HA, HK1, HO_3, HB⟩ := hrel; cases gk with
  | zero => exact absurd HA.out (by simp [spec_l1Primes.l0])
  | succ k1 =>
   have H := HA.out; clear HA; simp only [spec_l1Primes.l0] at H
   by_cases c6 : (wrap64 (x4_1 * x4_1)) ≤ x0_1
   ·rw [if_pos c6] at H; have c6b0 := decide_eq_true c6; clear c6
    by_cases c7 : x4_1 = 0
    ·rw [if_pos c7] at H; exact absurd H (by simp)
    ·rw [if_neg c7] at H; have HC8 := Aside0.mk H; clear H
     go_upto_if 18 with (fail)
     go_cut [3] (fun v3 wc => ∃ (kq : Nat) (x3_7 : List Int), Aside0 (spec_l1Primes.j1 kq x0_1 x3_7 x4_1 = some r) ∧ Aside0 (kq ≤ k1) ∧ Aside0 (Kd.R (Kd.int .i64) 3 wc w.heap.size (fun _ => True) v3 x3_7) ∧ Aside0 (Below w.heap.size w wc))
     case first =>
      have H := HC8.out; clear HC8
      by_cases c9 : (Int.tmod x0_1 x4_1) = 0
      ·rw [if_pos c9] at H; have c9b0 := beq_iff_eq.mpr c9; clear c9
       rw [c9b0]
       by_cases c10 : x3_1.length < 17592186044416
       ·rw [if_pos c10] at H; have LMc10 := Aside0.mk c10; clear c10; obtain ⟨y366, hyy⟩ : ∃ y_ : List Int, y_ = (x3_1 ++ [x4_1]) := ⟨_, rfl⟩
        replace H : (spec_l1Primes.j1 k1 x0_1 y366 x4_1) = some r := Sqz.auY
        have Ny366 := Aside0.mk hyy; clear hyy; have H' := Aside0.mk H; clear H
        go_wp2_with (((with_reducible refine gate_builtin (b := .append) (xs := #[.tmp 19, .tmp 21]) rfl ?_); at_builtin; refine Kd.R_append (Kd.int .i64) (w0 := w) w.heap.size rfl (.tmp 19) (.tmp 21) 27 3 (.int .i64 0) 8 rfl Tryz.underlying27 info3 rfl (by decide) (by omega) u3 x3_1 x4_1 [.int .i64 x4_1] (fun _ => True) (fun _ => False) rfl rfl ?aP (fun _ hk => hk.elim) ?aF ?aO ?aB ?aS ?aL ?_; (case aP => exact rfl); (case aB => exact (Sqz.auHB)); (case aF => exact (fun _ _ => trivial)); (case aO => exact ((Sqz.mvR HO_3.out))); (case aS => exact (below_size (Sqz.auHB))); (case aL => have := LMc10.out; omega); intro v367 w11 ho hb hg hat; rw [← Ny366.out] at ho; replace HB := Aside0.mk (hb); have HO368 := Aside0.mk (ho); clear HO_3; clear ho hb hg hat))
        go_meet
        case rel => exact ⟨_, (y366), H', ⟨by have := HK1.out; first | omega | exact Nat.le_refl _⟩, ⟨(Sqz.mvR HO368.out)⟩, ⟨Sqz.auHB⟩⟩
       ·rw [if_neg c10] at H; exact absurd H (by simp)
      ·rw [if_neg c9] at H; have c9b0 := beq_eq_false_iff_ne.mpr c9
       rw [c9b0]
       have H' := Aside0.mk H; clear H; go_wp2
       go_meet
       case rel => exact ⟨_, (x3_1), H', ⟨by have := HK1.out; first | omega | exact Nat.le_refl _⟩, ⟨(Sqz.mvR HO_3.out)⟩, ⟨Sqz.auHB⟩⟩
     case rest =>
      clear HC8
      try clear c6b0
      try clear c7
      obtain ⟨kq, x3_7, HA, HJ7, HO_3, HB⟩ := hcut; cases kq with
      | zero => exact absurd HA.out (by simp [spec_l1Primes.j1])
      | succ kj7 =>
       have H := HA.out; clear HA; simp only [spec_l1Primes.j1] at H; have H' := Aside0.mk H; clear H; go_wp2
       go_loopg [0] kj7 (fun kq v0 w' => ∃ (x0_3 : Int), v0 = .int .i64 x0_3 ∧ Aside0 (spec_l1Primes.l1 kq x0_3 x3_7 x4_1 = some r) ∧ Aside0 (kq ≤ kj7) ∧ Aside0 (Kd.R (Kd.int .i64) 3 w' w.heap.size (fun _ => True) u3 x3_7) ∧ Aside0 (Below w.heap.size w w'))
       case atStart => exact ⟨(x0_1), Sqz.auS, H', ⟨Nat.le_refl _⟩, ⟨(Sqz.mvR HO_3.out)⟩, ⟨Sqz.auHB⟩⟩
       case round =>
        clear H'
        obtain ⟨x0_3, rfl, HA, HK3, HO_3, HB⟩ := hrel; cases gk with
        | zero => exact absurd HA.out (by simp [spec_l1Primes.l1])
        | succ k3 =>
         have H := HA.out; clear HA; simp only [spec_l1Primes.l1] at H
         by_cases c12 : x4_1 = 0
         ·rw [if_pos c12] at H; exact absurd H (by simp)
         ·rw [if_neg c12] at H
          by_cases c13 : (Int.tmod x0_3 x4_1) = 0
          ·rw [if_pos c13] at H; have c13b0 := beq_iff_eq.mpr c13; clear c13; have H' := Aside0.mk H; clear H; go_wp2
           go_roundg k3
           case measure => have := HK1.out; have := HJ7.out; have := HK3.out; omega
           case rel => exact ⟨(wrap64 (Int.tdiv x0_3 x4_1)), Sqz.auS, H', ⟨by have := HK1.out; have := HJ7.out; have := HK3.out; omega⟩, ⟨(Sqz.mvR HO_3.out)⟩, ⟨Sqz.auHB⟩⟩
          ·rw [if_neg c13] at H; have c13b0 := beq_eq_false_iff_ne.mpr c13; have H' := Aside0.mk H; clear H; go_wp2
           go_roundg k3
           case measure => have := HK1.out; have := HJ7.out; have := HK3.out; omega
           case rel => exact ⟨(x0_3), (x3_7), (wrap64 (x4_1 + 1)), Sqz.auS, Sqz.auS, H', ⟨by have := HK1.out; have := HJ7.out; have := HK3.out; omega⟩, ⟨(Sqz.mvR HO_3.out)⟩, ⟨Sqz.auHB⟩⟩
   ·rw [if_neg c6] at H; have c6b0 := decide_eq_false c6; clear c6
    by_cases c14 : x0_1 > 1
    ·rw [if_pos c14] at H; have c14b0 : decide (1 < x0_1) = true := decide_eq_true c14; clear c14
     by_cases c15 : x3_1.length < 17592186044416
     ·rw [if_pos c15] at H; have LMc15 := Aside0.mk c15; clear c15; obtain ⟨y363, hyy⟩ : ∃ y_ : List Int, y_ = (x3_1 ++ [x0_1]) := ⟨_, rfl⟩
      replace H : (some y363) = some r := Sqz.auY
      have Ny363 := Aside0.mk hyy; clear hyy; obtain rfl := Option.some.inj H
      go_wp2_with (((with_reducible refine gate_builtin (b := .append) (xs := #[.tmp 32, .tmp 34]) rfl ?_); at_builtin; refine Kd.R_append (Kd.int .i64) (w0 := w) w.heap.size rfl (.tmp 32) (.tmp 34) 27 3 (.int .i64 0) 8 rfl Tryz.underlying27 info3 rfl (by decide) (by omega) u3 x3_1 x0_1 [.int .i64 x0_1] (fun _ => True) (fun _ => False) rfl rfl ?aP (fun _ hk => hk.elim) ?aF ?aO ?aB ?aS ?aL ?_; (case aP => exact rfl); (case aB => exact (Sqz.auHB)); (case aF => exact (fun _ _ => trivial)); (case aO => exact ((Sqz.mvR HO_3.out))); (case aS => exact (below_size (Sqz.auHB))); (case aL => have := LMc15.out; omega); intro v364 w16 ho hb hg hat; rw [← Ny363.out] at ho; replace HB := Aside0.mk (hb); have HO365 := Aside0.mk (ho); clear HO_3; clear ho hb hg hat))
      go_ret
      exact ⟨_, Sqz.auR, (Sqz.mvR HO365.out), Sqz.auHB⟩
     ·rw [if_neg c15] at H; exact absurd H (by simp)
    ·rw [if_neg c14] at H; have c14b0 : decide (1 < x0_1) = false := decide_eq_false c14; clear c14; obtain rfl := Option.some.inj H; go_wp2; go_ret
     exact ⟨_, Sqz.auR, (Sqz.mvR HO_3.out), Sqz.auHB⟩

end Go.Proofs.YtacfcoilmdhgnaaGreatDoor.PFnExecuteValue
