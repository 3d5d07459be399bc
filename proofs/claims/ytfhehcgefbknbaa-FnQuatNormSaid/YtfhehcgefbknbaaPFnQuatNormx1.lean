-- PRINTED BY print.sh 35421559b90ae4d0a3588c463048766b98c2df88dd9212a6774a882060cdf62d: not written by this session
import Derived.Test.YtfhehcgefbknbaaPFnQuatNormx0
namespace Go.Proofs.Ytfhehcgefbknbaa.PFnQuatNorm
open Go.RowKit Go.Proofs.YtfhehcgefbknbaaW.PrintWords Go.Proofs.YtfhehcgefbknbaaW.PrintLast Go.Proofs.YtfhehcgefbknbaaW.PrintMore
attribute [local go_sem] max2_int min2_int max_two min_two max_three min_three max_four min_four   -- for this text's walks alone
set_option linter.unusedVariables false
set_option linter.unusedSimpArgs false

/-! ### impl_size: function 67 -/
def impl_size.f (a0 : Int) : Option (Int) := some (mx a0 (wrap64 (-a0)))
set_option maxHeartbeats 8000000 in
set_option maxRecDepth 100000 in
theorem impl_size.calls (a0 : Int) (r : Int) (w : World) (h : impl_size.f a0 = some r) :
    Calls Try.prog 67 #[.int .i64 a0] w fun e w' => e = .returned (.int .i64 r) ∧ Below w.heap.size w w' := by
  have HB := Aside0.mk (Below.refl w.heap.size w)
  have H : (some (mx a0 (wrap64 (-a0)))) = some r := h
  clear h
  obtain ⟨ji2, hji2⟩ : ∃ j_ : Int, (mx a0 (wrap64 (-a0))) = j_ := ⟨_, rfl⟩
  replace H : (some ji2) = some r := by first | (rw [hji2] at H; exact H) | (simp only [hji2] at H ⊢; exact H)
  have hji2_ : (if a0 < (wrap64 (-a0)) then (wrap64 (-a0)) else a0) = ji2 := hji2
  obtain rfl := Option.some.inj H
  go_enter Try.func67, Try.ntmps67
  go_wp2
  go_ret
  exact ⟨by first | rfl | (simp [errW_none, errW_some] <;> rfl) | (simp only [← hji2]; first | rfl | (simp [errW_none, errW_some] <;> rfl)) | (simp [*, errW_none, errW_some] <;> rfl), by repeat (first | (with_reducible first | exact HB.out | apply below_alloc | apply pw_below_drewN | apply below_drew1) | exact HB.out)⟩

/-! ### impl_QuatValid: function 52 -/
def impl_QuatValid.l0 : Nat → List Int → List Int → Int → Int → Option (Bool)
  | 0, _, _, _, _ => none
  | k + 1, x0, x5, x6, x7 => if x7 < x6 then (if 0 ≤ x7 then (if x7 < (x5.length : Int) then ((impl_size.f (rd x5 x7)).bind fun t102 => (if t102 > 10000 then (some false) else (if (rd x5 x7) < (-10000) then (some false) else (impl_QuatValid.l0 k x0 x5 x6 (wrap64 (x7 + 1)))))) else (none)) else (none)) else (some ((x0.length : Int) == 4))
def impl_QuatValid.f (k : Nat) (l0 : List Int) : Option (Bool) := impl_QuatValid.l0 k l0 l0 (l0.length : Int) 0
theorem impl_QuatValid.mono_l : ∀ k, (∀ y0 y1 y2 y3, LeO (impl_QuatValid.l0 k y0 y1 y2 y3) (impl_QuatValid.l0 (k + 1) y0 y1 y2 y3))
  | 0 => fun _ _ _ _ r h => by simp [impl_QuatValid.l0] at h
  | k + 1 => by
    have ih0 := impl_QuatValid.mono_l k
    · intro y0 y1 y2 y3
      unfold impl_QuatValid.l0
      repeat' first
      | (with_reducible exact ih0 _ _ _ _)
      | (with_reducible exact LeO.refl _)
      | (with_reducible exact LeO.none _)
      | (with_reducible refine LeO.ite ?_ ?_)
      | (with_reducible refine LeO.bind ?_ (fun _ => ?_))
      | exact ih0 _ _ _ _
      | exact LeO.none _
      | refine LeO.ite ?_ ?_
      | refine LeO.bind ?_ (fun _ => ?_)
theorem impl_QuatValid.mono : ∀ a0 k, LeO (impl_QuatValid.f k a0) (impl_QuatValid.f (k + 1) a0) := by
  intro a0 k
  have ih0 := impl_QuatValid.mono_l k
  unfold impl_QuatValid.f
  repeat' first
      | (with_reducible exact ih0 _ _ _ _)
      | (with_reducible exact LeO.refl _)
      | (with_reducible exact LeO.none _)
      | (with_reducible refine LeO.ite ?_ ?_)
      | (with_reducible refine LeO.bind ?_ (fun _ => ?_))
      | exact ih0 _ _ _ _
      | exact LeO.none _
      | refine LeO.ite ?_ ?_
      | refine LeO.bind ?_ (fun _ => ?_)
set_option maxHeartbeats 8000000 in
set_option maxRecDepth 100000 in
theorem impl_QuatValid.calls (k : Nat) (A0 : Option Addr) (c0 : Nat) (l0 : List Int) (r : Bool) (w : World) (hr0 : Kd.C (Kd.int .i64) w A0 l0.length l0) (hc0 : l0.length ≤ c0) (h : impl_QuatValid.f k l0 = some r) :
    Calls Try.prog 52 #[.slice A0 l0.length c0] w fun e w' => e = .returned (.bool r) ∧ Below w.heap.size w w' := by
  have HR0 := Aside0.mk hr0
  have HC0 := Aside0.mk hc0
  clear hr0 hc0
  have HB := Aside0.mk (Below.refl w.heap.size w)
  have H : (impl_QuatValid.l0 k l0 l0 (l0.length : Int) 0) = some r := h
  clear h
  have H' := Aside0.mk H
  clear H
  go_enter Try.func52, Try.ntmps52
  go_wp2
  go_loopg [7] k (fun kq v7 w' => ∃ (x7_1 : Int), v7 = .int .i64 x7_1 ∧ Aside0 (impl_QuatValid.l0 kq l0 l0 (l0.length : Int) x7_1 = some r) ∧ Aside0 (kq ≤ k) ∧ Aside0 (Below w.heap.size w w'))
  case atStart => exact ⟨(0), (by first | rfl | (simp; done) | (simp [*]; done)), H', ⟨Nat.le_refl _⟩, ⟨by repeat (first | (with_reducible first | exact HB.out | apply below_alloc | apply pw_below_drewN | apply below_drew1) | exact HB.out)⟩⟩
  case round =>
    clear H'
    obtain ⟨x7_1, rfl, HA, HK1, HB⟩ := hrel
    cases gk with
    | zero => exact absurd HA.out (by simp [impl_QuatValid.l0])
    | succ k1 =>
      have H := HA.out
      clear HA
      simp only [impl_QuatValid.l0] at H
      by_cases c2 : x7_1 < (l0.length : Int)
      · rw [if_pos c2] at H
        have c2b0 : decide (x7_1 < (l0.length : Int)) = true := decide_eq_true c2
        clear c2
        by_cases c3 : 0 ≤ x7_1
        · rw [if_pos c3] at H
          have c3b0 : decide (0 ≤ x7_1) = true := decide_eq_true c3
          clear c3
          by_cases c4 : x7_1 < (l0.length : Int)
          · rw [if_pos c4] at H
            have c4b0 : decide (x7_1 < (l0.length : Int)) = true := decide_eq_true c4
            clear c4
            replace H := Option.bind_eq_some_iff.mp H
            obtain ⟨t102, A50, H⟩ := H
            replace H : (if t102 > 10000 then (some false) else (if (rd l0 x7_1) < (-10000) then (some false) else (impl_QuatValid.l0 k1 l0 l0 (l0.length : Int) (wrap64 (x7_1 + 1))))) = some r := H
            have A5 := Aside0.mk A50
            clear A50
            by_cases c6 : t102 > 10000
            · rw [if_pos c6] at H
              have c6b0 : decide (10000 < t102) = true := decide_eq_true c6
              clear c6
              obtain rfl := Option.some.inj H
              have p101 : 0 ≤ (x7_1 : Int) := of_decide_eq_true (by first | (with_reducible assumption) | assumption)
              have q101 : x7_1 < (l0.length : Int) := of_decide_eq_true (by first | (with_reducible assumption) | assumption)
              obtain ⟨ad101, e101, hx101_0⟩ := Kd.at_int HR0.out x7_1 p101 q101
              cases e101
              replace hx101_0 := (HB.out.cell (World.block_lt_of_cell? w _ hx101_0)).trans hx101_0
              replace p101 := eq_true p101
              replace q101 := eq_true q101
              go_wp2_with (first | ((with_reducible refine gate_callee (f := 67) rfl ?_); refine goesL_ (some 12) rfl rfl Try.func67 (by kernel_rfl) rfl #[.int .i64 (rd l0 x7_1)] rfl (by (try simp only [List.map_toArray, List.map_cons, List.map_nil]); first | done | rfl | (simp only [List.length_drop, List.length_take]; rfl)) ?_; (with_reducible refine (impl_size.calls (rd l0 x7_1) t102 _ A5.out).mono ?_); rintro e w7 ⟨rfl, hb⟩; refine ⟨_, rfl, ?_⟩; have n0_ := Aside0.mk (below_step (by repeat (first | (with_reducible first | exact HB.out | apply below_alloc | apply pw_below_drewN | apply below_drew1) | exact HB.out)) hb); clear HB; have HB := n0_; clear n0_; (try clear hb); (try clear hb2); (try clear hk); (try clear hi)))
              go_ret
              exact ⟨by first | rfl | (simp [errW_none, errW_some] <;> rfl) | (simp [*, errW_none, errW_some] <;> rfl), by repeat (first | (with_reducible first | exact HB.out | apply below_alloc | apply pw_below_drewN | apply below_drew1) | exact HB.out)⟩
            · rw [if_neg c6] at H
              have c6b0 : decide (10000 < t102) = false := decide_eq_false c6
              clear c6
              by_cases c8 : (rd l0 x7_1) < (-10000)
              · rw [if_pos c8] at H
                have c8b0 : decide ((rd l0 x7_1) < (-10000)) = true := decide_eq_true c8
                clear c8
                obtain rfl := Option.some.inj H
                have p101 : 0 ≤ (x7_1 : Int) := of_decide_eq_true (by first | (with_reducible assumption) | assumption)
                have q101 : x7_1 < (l0.length : Int) := of_decide_eq_true (by first | (with_reducible assumption) | assumption)
                obtain ⟨ad101, e101, hx101_0⟩ := Kd.at_int HR0.out x7_1 p101 q101
                cases e101
                replace hx101_0 := (HB.out.cell (World.block_lt_of_cell? w _ hx101_0)).trans hx101_0
                replace p101 := eq_true p101
                replace q101 := eq_true q101
                go_wp2_with (first | ((with_reducible refine gate_callee (f := 67) rfl ?_); refine goesL_ (some 12) rfl rfl Try.func67 (by kernel_rfl) rfl #[.int .i64 (rd l0 x7_1)] rfl (by (try simp only [List.map_toArray, List.map_cons, List.map_nil]); first | done | rfl | (simp only [List.length_drop, List.length_take]; rfl)) ?_; (with_reducible refine (impl_size.calls (rd l0 x7_1) t102 _ A5.out).mono ?_); rintro e w9 ⟨rfl, hb⟩; refine ⟨_, rfl, ?_⟩; have n0_ := Aside0.mk (below_step (by repeat (first | (with_reducible first | exact HB.out | apply below_alloc | apply pw_below_drewN | apply below_drew1) | exact HB.out)) hb); clear HB; have HB := n0_; clear n0_; (try clear hb); (try clear hb2); (try clear hk); (try clear hi)))
                go_ret
                exact ⟨by first | rfl | (simp [errW_none, errW_some] <;> rfl) | (simp [*, errW_none, errW_some] <;> rfl), by repeat (first | (with_reducible first | exact HB.out | apply below_alloc | apply pw_below_drewN | apply below_drew1) | exact HB.out)⟩
              · rw [if_neg c8] at H
                have c8b0 : decide ((rd l0 x7_1) < (-10000)) = false := decide_eq_false c8
                clear c8
                have H' := Aside0.mk H
                clear H
                have p101 : 0 ≤ (x7_1 : Int) := of_decide_eq_true (by first | (with_reducible assumption) | assumption)
                have q101 : x7_1 < (l0.length : Int) := of_decide_eq_true (by first | (with_reducible assumption) | assumption)
                obtain ⟨ad101, e101, hx101_0⟩ := Kd.at_int HR0.out x7_1 p101 q101
                cases e101
                replace hx101_0 := (HB.out.cell (World.block_lt_of_cell? w _ hx101_0)).trans hx101_0
                replace p101 := eq_true p101
                replace q101 := eq_true q101
                go_wp2_with (first | ((with_reducible refine gate_callee (f := 67) rfl ?_); refine goesL_ (some 12) rfl rfl Try.func67 (by kernel_rfl) rfl #[.int .i64 (rd l0 x7_1)] rfl (by (try simp only [List.map_toArray, List.map_cons, List.map_nil]); first | done | rfl | (simp only [List.length_drop, List.length_take]; rfl)) ?_; (with_reducible refine (impl_size.calls (rd l0 x7_1) t102 _ A5.out).mono ?_); rintro e w10 ⟨rfl, hb⟩; refine ⟨_, rfl, ?_⟩; have n0_ := Aside0.mk (below_step (by repeat (first | (with_reducible first | exact HB.out | apply below_alloc | apply pw_below_drewN | apply below_drew1) | exact HB.out)) hb); clear HB; have HB := n0_; clear n0_; (try clear hb); (try clear hb2); (try clear hk); (try clear hi)))
                go_roundg k1
                case measure => have := HK1.out; omega
                case rel => exact ⟨(wrap64 (x7_1 + 1)), (by first | rfl | (simp; done) | (simp [*]; done)), H', ⟨by have := HK1.out; omega⟩, ⟨by repeat (first | (with_reducible first | exact HB.out | apply below_alloc | apply pw_below_drewN | apply below_drew1) | exact HB.out)⟩⟩
          · rw [if_neg c4] at H
            exact absurd H (by simp)
        · rw [if_neg c3] at H
          exact absurd H (by simp)
      · rw [if_neg c2] at H
        have c2b0 : decide (x7_1 < (l0.length : Int)) = false := decide_eq_false c2
        clear c2
        obtain rfl := Option.some.inj H
        go_wp2
        go_ret
        exact ⟨by first | rfl | (simp [errW_none, errW_some] <;> rfl) | (simp [*, errW_none, errW_some] <;> rfl), by repeat (first | (with_reducible first | exact HB.out | apply below_alloc | apply pw_below_drewN | apply below_drew1) | exact HB.out)⟩

/-! ### impl_QuatMul: function 21 -/
def impl_QuatMul.j0 : Nat → List Int → List Int → Bool → Option (List Int × Bool)
  | 0, _, _, _ => none
  | k + 1, x0, x1, x22 => if x22 = true then (some (([] : List Int), false)) else (if 0 < (x0.length : Int) then (if 1 < (x0.length : Int) then (if 2 < (x0.length : Int) then (if 3 < (x0.length : Int) then (if 0 < (x1.length : Int) then (if 1 < (x1.length : Int) then (if 2 < (x1.length : Int) then (if 3 < (x1.length : Int) then ((some (([wrap64 ((wrap64 ((wrap64 ((wrap64 ((rd x0 0) * (rd x1 0))) - (wrap64 ((rd x0 1) * (rd x1 1))))) - (wrap64 ((rd x0 2) * (rd x1 2))))) - (wrap64 ((rd x0 3) * (rd x1 3)))), wrap64 ((wrap64 ((wrap64 ((wrap64 ((rd x0 0) * (rd x1 1))) + (wrap64 ((rd x0 1) * (rd x1 0))))) + (wrap64 ((rd x0 2) * (rd x1 3))))) - (wrap64 ((rd x0 3) * (rd x1 2)))), wrap64 ((wrap64 ((wrap64 ((wrap64 ((rd x0 0) * (rd x1 2))) - (wrap64 ((rd x0 1) * (rd x1 3))))) + (wrap64 ((rd x0 2) * (rd x1 0))))) + (wrap64 ((rd x0 3) * (rd x1 1)))), wrap64 ((wrap64 ((wrap64 ((wrap64 ((rd x0 0) * (rd x1 3))) + (wrap64 ((rd x0 1) * (rd x1 2))))) - (wrap64 ((rd x0 2) * (rd x1 1))))) + (wrap64 ((rd x0 3) * (rd x1 0))))] : List Int) : List Int)).bind fun y113 => ((impl_QuatValid.f k y113).bind fun t116 => (if t116 = true then (some (y113, true)) else (some (([] : List Int), false))))) else (none)) else (none)) else (none)) else (none)) else (none)) else (none)) else (none)) else (none))
def impl_QuatMul.f (k : Nat) (l0 : List Int) (l1 : List Int) : Option (List Int × Bool) := (impl_QuatValid.f k l0).bind fun t103 => (if t103 = true then ((impl_QuatValid.f k l1).bind fun t104 => (impl_QuatMul.j0 k l0 l1 (!t104))) else (impl_QuatMul.j0 k l0 l1 true))
theorem impl_QuatMul.mono_l : ∀ k, (∀ y0 y1 y2, LeO (impl_QuatMul.j0 k y0 y1 y2) (impl_QuatMul.j0 (k + 1) y0 y1 y2))
  | 0 => fun _ _ _ r h => by simp [impl_QuatMul.j0] at h
  | k + 1 => by
    have ih0 := impl_QuatMul.mono_l k
    · intro y0 y1 y2
      unfold impl_QuatMul.j0
      repeat' first
      | (with_reducible exact ih0 _ _ _)
      | (with_reducible exact impl_QuatValid.mono _ _)
      | (with_reducible exact LeO.refl _)
      | (with_reducible exact LeO.none _)
      | (with_reducible refine LeO.ite ?_ ?_)
      | (with_reducible refine LeO.bind ?_ (fun _ => ?_))
      | exact ih0 _ _ _
      | exact impl_QuatValid.mono _ _
      | exact LeO.none _
      | refine LeO.ite ?_ ?_
      | refine LeO.bind ?_ (fun _ => ?_)
theorem impl_QuatMul.mono : ∀ a0 a1 k, LeO (impl_QuatMul.f k a0 a1) (impl_QuatMul.f (k + 1) a0 a1) := by
  intro a0 a1 k
  have ih0 := impl_QuatMul.mono_l k
  unfold impl_QuatMul.f
  repeat' first
      | (with_reducible exact ih0 _ _ _)
      | (with_reducible exact impl_QuatValid.mono _ _)
      | (with_reducible exact LeO.refl _)
      | (with_reducible exact LeO.none _)
      | (with_reducible refine LeO.ite ?_ ?_)
      | (with_reducible refine LeO.bind ?_ (fun _ => ?_))
      | exact ih0 _ _ _
      | exact impl_QuatValid.mono _ _
      | exact LeO.none _
      | refine LeO.ite ?_ ?_
      | refine LeO.bind ?_ (fun _ => ?_)
set_option maxHeartbeats 8000000 in
set_option maxRecDepth 100000 in
theorem impl_QuatMul.calls (k : Nat) (A0 : Option Addr) (c0 : Nat) (l0 : List Int) (A1 : Option Addr) (c1 : Nat) (l1 : List Int) (r1 : List Int) (r2 : Bool) (w : World) (hr0 : Kd.C (Kd.int .i64) w A0 l0.length l0) (hc0 : l0.length ≤ c0) (hr1 : Kd.C (Kd.int .i64) w A1 l1.length l1) (hc1 : l1.length ≤ c1) (h : impl_QuatMul.f k l0 l1 = some (r1, r2)) :
    Calls Try.prog 21 #[.slice A0 l0.length c0, .slice A1 l1.length c1] w fun e w' => ∃ v0_ : Value, e = .returned (.tuple #[v0_, .bool r2]) ∧ Kd.R (Kd.int .i64) 3 w' w.heap.size (fun _ => True) v0_ r1 ∧ Below w.heap.size w w' := by
  have HR0 := Aside0.mk hr0
  have HC0 := Aside0.mk hc0
  clear hr0 hc0
  have HR1 := Aside0.mk hr1
  have HC1 := Aside0.mk hc1
  clear hr1 hc1
  have HB := Aside0.mk (Below.refl w.heap.size w)
  have H : ((impl_QuatValid.f k l0).bind fun t103 => (if t103 = true then ((impl_QuatValid.f k l1).bind fun t104 => (impl_QuatMul.j0 k l0 l1 (!t104))) else (impl_QuatMul.j0 k l0 l1 true))) = some (r1, r2) := h
  clear h
  have HC3 := Aside0.mk H
  clear H
  go_enter Try.func21, Try.ntmps21
  go_upto_region 1 with (fail)
  repeat (go_quiet (fail); go_upto_region 1 with (fail))
  go_cut [22] (fun v22 wc => ∃ (kq : Nat) (x22_2 : Bool), v22 = .bool x22_2 ∧ Aside0 (impl_QuatMul.j0 kq l0 l1 x22_2 = some (r1, r2)) ∧ Aside0 (kq ≤ k) ∧ Aside0 (Below w.heap.size w wc))
  case first =>
    have H := HC3.out
    clear HC3
    replace H := Option.bind_eq_some_iff.mp H
    obtain ⟨t103, A40, H⟩ := H
    replace H : (if t103 = true then ((impl_QuatValid.f k l1).bind fun t104 => (impl_QuatMul.j0 k l0 l1 (!t104))) else (impl_QuatMul.j0 k l0 l1 true)) = some (r1, r2) := H
    have A4 := Aside0.mk A40
    clear A40
    by_cases c5 : t103 = true
    · subst c5
      have H1 : ((impl_QuatValid.f k l1).bind fun t104 => (impl_QuatMul.j0 k l0 l1 (!t104))) = some (r1, r2) := by rw [if_pos rfl] at H; exact H
      clear H
      have H := H1
      clear H1
      replace H := Option.bind_eq_some_iff.mp H
      obtain ⟨t104, A60, H⟩ := H
      replace H : (impl_QuatMul.j0 k l0 l1 (!t104)) = some (r1, r2) := H
      have A6 := Aside0.mk A60
      clear A60
      have H' := Aside0.mk H
      clear H
      go_wp2_with (first | (go_at_call 52; (with_reducible refine (impl_QuatValid.calls k _ _ l0 true _ ?side1 ?side2 A4.out).mono ?_); (case side1 => repeat (first | exact (Kd.C_below HR0.out HB.out) | (with_reducible refine Kd.C_alloc ?_ _) | (with_reducible refine Kd.C_drewN ?_ _) | (with_reducible refine Kd.C_drew ?_))); (case side2 => exact HC0.out); rintro e w7 ⟨rfl, hb⟩; have n0_ := Aside0.mk (below_step (by repeat (first | (with_reducible first | exact HB.out | apply below_alloc | apply pw_below_drewN | apply below_drew1) | exact HB.out)) hb); clear HB; have HB := n0_; clear n0_; (try clear hb); (try clear hb2); (try clear hk); (try clear hi)) | (go_at_call 52; (with_reducible refine (impl_QuatValid.calls k _ _ l1 t104 _ ?side1 ?side2 A6.out).mono ?_); (case side1 => repeat (first | exact (Kd.C_below HR1.out HB.out) | (with_reducible refine Kd.C_alloc ?_ _) | (with_reducible refine Kd.C_drewN ?_ _) | (with_reducible refine Kd.C_drew ?_))); (case side2 => exact HC1.out); rintro e w8 ⟨rfl, hb⟩; have n0_ := Aside0.mk (below_step (by repeat (first | (with_reducible first | exact HB.out | apply below_alloc | apply pw_below_drewN | apply below_drew1) | exact HB.out)) hb); clear HB; have HB := n0_; clear n0_; (try clear hb); (try clear hb2); (try clear hk); (try clear hi)))
      repeat (go_quiet (first | (go_at_call 52; (with_reducible refine (impl_QuatValid.calls k _ _ l0 true _ ?side1 ?side2 A4.out).mono ?_); (case side1 => repeat (first | exact (Kd.C_below HR0.out HB.out) | (with_reducible refine Kd.C_alloc ?_ _) | (with_reducible refine Kd.C_drewN ?_ _) | (with_reducible refine Kd.C_drew ?_))); (case side2 => exact HC0.out); rintro e w7 ⟨rfl, hb⟩; have n0_ := Aside0.mk (below_step (by repeat (first | (with_reducible first | exact HB.out | apply below_alloc | apply pw_below_drewN | apply below_drew1) | exact HB.out)) hb); clear HB; have HB := n0_; clear n0_; (try clear hb); (try clear hb2); (try clear hk); (try clear hi)) | (go_at_call 52; (with_reducible refine (impl_QuatValid.calls k _ _ l1 t104 _ ?side1 ?side2 A6.out).mono ?_); (case side1 => repeat (first | exact (Kd.C_below HR1.out HB.out) | (with_reducible refine Kd.C_alloc ?_ _) | (with_reducible refine Kd.C_drewN ?_ _) | (with_reducible refine Kd.C_drew ?_))); (case side2 => exact HC1.out); rintro e w8 ⟨rfl, hb⟩; have n0_ := Aside0.mk (below_step (by repeat (first | (with_reducible first | exact HB.out | apply below_alloc | apply pw_below_drewN | apply below_drew1) | exact HB.out)) hb); clear HB; have HB := n0_; clear n0_; (try clear hb); (try clear hb2); (try clear hk); (try clear hi))); try go_wp2_with (first | (go_at_call 52; (with_reducible refine (impl_QuatValid.calls k _ _ l0 true _ ?side1 ?side2 A4.out).mono ?_); (case side1 => repeat (first | exact (Kd.C_below HR0.out HB.out) | (with_reducible refine Kd.C_alloc ?_ _) | (with_reducible refine Kd.C_drewN ?_ _) | (with_reducible refine Kd.C_drew ?_))); (case side2 => exact HC0.out); rintro e w7 ⟨rfl, hb⟩; have n0_ := Aside0.mk (below_step (by repeat (first | (with_reducible first | exact HB.out | apply below_alloc | apply pw_below_drewN | apply below_drew1) | exact HB.out)) hb); clear HB; have HB := n0_; clear n0_; (try clear hb); (try clear hb2); (try clear hk); (try clear hi)) | (go_at_call 52; (with_reducible refine (impl_QuatValid.calls k _ _ l1 t104 _ ?side1 ?side2 A6.out).mono ?_); (case side1 => repeat (first | exact (Kd.C_below HR1.out HB.out) | (with_reducible refine Kd.C_alloc ?_ _) | (with_reducible refine Kd.C_drewN ?_ _) | (with_reducible refine Kd.C_drew ?_))); (case side2 => exact HC1.out); rintro e w8 ⟨rfl, hb⟩; have n0_ := Aside0.mk (below_step (by repeat (first | (with_reducible first | exact HB.out | apply below_alloc | apply pw_below_drewN | apply below_drew1) | exact HB.out)) hb); clear HB; have HB := n0_; clear n0_; (try clear hb); (try clear hb2); (try clear hk); (try clear hi))))
      go_meet
      case rel => exact ⟨_, (!t104), (by first | rfl | (simp; done) | (simp [*]; done)), H', ⟨by first | omega | exact Nat.le_refl _⟩, ⟨by repeat (first | (with_reducible first | exact HB.out | apply below_alloc | apply pw_below_drewN | apply below_drew1) | exact HB.out)⟩⟩
    · replace c5 := Bool.eq_false_iff.mpr c5
      subst c5
      have H1 : (impl_QuatMul.j0 k l0 l1 true) = some (r1, r2) := by rw [if_neg (show ¬ (false = true) by decide)] at H; exact H
      clear H
      have H := H1
      clear H1
      have H' := Aside0.mk H
      clear H
      go_wp2_with (first | (go_at_call 52; (with_reducible refine (impl_QuatValid.calls k _ _ l0 false _ ?side1 ?side2 A4.out).mono ?_); (case side1 => repeat (first | exact (Kd.C_below HR0.out HB.out) | (with_reducible refine Kd.C_alloc ?_ _) | (with_reducible refine Kd.C_drewN ?_ _) | (with_reducible refine Kd.C_drew ?_))); (case side2 => exact HC0.out); rintro e w9 ⟨rfl, hb⟩; have n0_ := Aside0.mk (below_step (by repeat (first | (with_reducible first | exact HB.out | apply below_alloc | apply pw_below_drewN | apply below_drew1) | exact HB.out)) hb); clear HB; have HB := n0_; clear n0_; (try clear hb); (try clear hb2); (try clear hk); (try clear hi)))
      repeat (go_quiet (first | (go_at_call 52; (with_reducible refine (impl_QuatValid.calls k _ _ l0 false _ ?side1 ?side2 A4.out).mono ?_); (case side1 => repeat (first | exact (Kd.C_below HR0.out HB.out) | (with_reducible refine Kd.C_alloc ?_ _) | (with_reducible refine Kd.C_drewN ?_ _) | (with_reducible refine Kd.C_drew ?_))); (case side2 => exact HC0.out); rintro e w9 ⟨rfl, hb⟩; have n0_ := Aside0.mk (below_step (by repeat (first | (with_reducible first | exact HB.out | apply below_alloc | apply pw_below_drewN | apply below_drew1) | exact HB.out)) hb); clear HB; have HB := n0_; clear n0_; (try clear hb); (try clear hb2); (try clear hk); (try clear hi))); try go_wp2_with (first | (go_at_call 52; (with_reducible refine (impl_QuatValid.calls k _ _ l0 false _ ?side1 ?side2 A4.out).mono ?_); (case side1 => repeat (first | exact (Kd.C_below HR0.out HB.out) | (with_reducible refine Kd.C_alloc ?_ _) | (with_reducible refine Kd.C_drewN ?_ _) | (with_reducible refine Kd.C_drew ?_))); (case side2 => exact HC0.out); rintro e w9 ⟨rfl, hb⟩; have n0_ := Aside0.mk (below_step (by repeat (first | (with_reducible first | exact HB.out | apply below_alloc | apply pw_below_drewN | apply below_drew1) | exact HB.out)) hb); clear HB; have HB := n0_; clear n0_; (try clear hb); (try clear hb2); (try clear hk); (try clear hi))))
      go_meet
      case rel => exact ⟨_, (true), (by first | rfl | (simp; done) | (simp [*]; done)), H', ⟨by first | omega | exact Nat.le_refl _⟩, ⟨by repeat (first | (with_reducible first | exact HB.out | apply below_alloc | apply pw_below_drewN | apply below_drew1) | exact HB.out)⟩⟩
  case rest =>
    clear HC3
    try clear c1
    try clear c2
    try clear p2
    try clear c5
    obtain ⟨kq, x22_2, rfl, HA, HJ2, HB⟩ := hcut
    cases kq with
    | zero => exact absurd HA.out (by simp [impl_QuatMul.j0])
    | succ kj2 =>
      have H := HA.out
      clear HA
      simp only [impl_QuatMul.j0] at H
      by_cases c10 : x22_2 = true
      · subst c10
        have H1 : (some (([] : List Int), false)) = some (r1, r2) := by rw [if_pos rfl] at H; exact H
        clear H
        have H := H1
        clear H1
        simp only [Option.some.injEq, Prod.mk.injEq] at H
        obtain ⟨rfl, rfl⟩ := H
        go_wp2
        repeat (go_quiet (fail); try go_wp2)
        go_ret2
        exact ⟨_, by first | rfl | (simp [errW_none, errW_some] <;> rfl) | (simp [*, errW_none, errW_some] <;> rfl), by first | exact Kd.R_nil _ _ _ _ _ | exact Kd.N_nil _ _ _ _ _ | exact Kd.V_nil _ _ _ _ _ | exact Kd.Q_nil _ _ _ _ _ | exact Kd.S_nil _ _ _ _ _, by repeat (first | (with_reducible first | exact HB.out | apply below_alloc | apply pw_below_drewN | apply below_drew1) | exact HB.out)⟩
      · replace c10 := Bool.eq_false_iff.mpr c10
        subst c10
        have H1 : (if 0 < (l0.length : Int) then (if 1 < (l0.length : Int) then (if 2 < (l0.length : Int) then (if 3 < (l0.length : Int) then (if 0 < (l1.length : Int) then (if 1 < (l1.length : Int) then (if 2 < (l1.length : Int) then (if 3 < (l1.length : Int) then ((some (([wrap64 ((wrap64 ((wrap64 ((wrap64 ((rd l0 0) * (rd l1 0))) - (wrap64 ((rd l0 1) * (rd l1 1))))) - (wrap64 ((rd l0 2) * (rd l1 2))))) - (wrap64 ((rd l0 3) * (rd l1 3)))), wrap64 ((wrap64 ((wrap64 ((wrap64 ((rd l0 0) * (rd l1 1))) + (wrap64 ((rd l0 1) * (rd l1 0))))) + (wrap64 ((rd l0 2) * (rd l1 3))))) - (wrap64 ((rd l0 3) * (rd l1 2)))), wrap64 ((wrap64 ((wrap64 ((wrap64 ((rd l0 0) * (rd l1 2))) - (wrap64 ((rd l0 1) * (rd l1 3))))) + (wrap64 ((rd l0 2) * (rd l1 0))))) + (wrap64 ((rd l0 3) * (rd l1 1)))), wrap64 ((wrap64 ((wrap64 ((wrap64 ((rd l0 0) * (rd l1 3))) + (wrap64 ((rd l0 1) * (rd l1 2))))) - (wrap64 ((rd l0 2) * (rd l1 1))))) + (wrap64 ((rd l0 3) * (rd l1 0))))] : List Int) : List Int)).bind fun y113 => ((impl_QuatValid.f kj2 y113).bind fun t116 => (if t116 = true then (some (y113, true)) else (some (([] : List Int), false))))) else (none)) else (none)) else (none)) else (none)) else (none)) else (none)) else (none)) else (none)) = some (r1, r2) := by rw [if_neg (show ¬ (false = true) by decide)] at H; exact H
        clear H
        have H := H1
        clear H1
        by_cases c11 : 0 < (l0.length : Int)
        · rw [if_pos c11] at H
          have c11b0 : decide (0 < (l0.length : Int)) = true := decide_eq_true c11
          have c11b1 : decide (0 < l0.length) = true := decide_eq_true (by omega)
          clear c11
          by_cases c12 : 1 < (l0.length : Int)
          · rw [if_pos c12] at H
            have c12b0 : decide (1 < (l0.length : Int)) = true := decide_eq_true c12
            have c12b1 : decide (1 < l0.length) = true := decide_eq_true (by omega)
            clear c12
            by_cases c13 : 2 < (l0.length : Int)
            · rw [if_pos c13] at H
              have c13b0 : decide (2 < (l0.length : Int)) = true := decide_eq_true c13
              have c13b1 : decide (2 < l0.length) = true := decide_eq_true (by omega)
              clear c13
              by_cases c14 : 3 < (l0.length : Int)
              · rw [if_pos c14] at H
                have c14b0 : decide (3 < (l0.length : Int)) = true := decide_eq_true c14
                have c14b1 : decide (3 < l0.length) = true := decide_eq_true (by omega)
                clear c14
                by_cases c15 : 0 < (l1.length : Int)
                · rw [if_pos c15] at H
                  have c15b0 : decide (0 < (l1.length : Int)) = true := decide_eq_true c15
                  have c15b1 : decide (0 < l1.length) = true := decide_eq_true (by omega)
                  clear c15
                  by_cases c16 : 1 < (l1.length : Int)
                  · rw [if_pos c16] at H
                    have c16b0 : decide (1 < (l1.length : Int)) = true := decide_eq_true c16
                    have c16b1 : decide (1 < l1.length) = true := decide_eq_true (by omega)
                    clear c16
                    by_cases c17 : 2 < (l1.length : Int)
                    · rw [if_pos c17] at H
                      have c17b0 : decide (2 < (l1.length : Int)) = true := decide_eq_true c17
                      have c17b1 : decide (2 < l1.length) = true := decide_eq_true (by omega)
                      clear c17
                      by_cases c18 : 3 < (l1.length : Int)
                      · rw [if_pos c18] at H
                        have c18b0 : decide (3 < (l1.length : Int)) = true := decide_eq_true c18
                        have c18b1 : decide (3 < l1.length) = true := decide_eq_true (by omega)
                        clear c18
                        obtain ⟨y113, hy113⟩ : ∃ y_ : List Int, y_ = (([wrap64 ((wrap64 ((wrap64 ((wrap64 ((rd l0 0) * (rd l1 0))) - (wrap64 ((rd l0 1) * (rd l1 1))))) - (wrap64 ((rd l0 2) * (rd l1 2))))) - (wrap64 ((rd l0 3) * (rd l1 3)))), wrap64 ((wrap64 ((wrap64 ((wrap64 ((rd l0 0) * (rd l1 1))) + (wrap64 ((rd l0 1) * (rd l1 0))))) + (wrap64 ((rd l0 2) * (rd l1 3))))) - (wrap64 ((rd l0 3) * (rd l1 2)))), wrap64 ((wrap64 ((wrap64 ((wrap64 ((rd l0 0) * (rd l1 2))) - (wrap64 ((rd l0 1) * (rd l1 3))))) + (wrap64 ((rd l0 2) * (rd l1 0))))) + (wrap64 ((rd l0 3) * (rd l1 1)))), wrap64 ((wrap64 ((wrap64 ((wrap64 ((rd l0 0) * (rd l1 3))) + (wrap64 ((rd l0 1) * (rd l1 2))))) - (wrap64 ((rd l0 2) * (rd l1 1))))) + (wrap64 ((rd l0 3) * (rd l1 0))))] : List Int)) := ⟨_, rfl⟩
                        replace H : ((impl_QuatValid.f kj2 y113).bind fun t116 => (if t116 = true then (some (y113, true)) else (some (([] : List Int), false)))) = some (r1, r2) := by first | (rw [hy113]; with_reducible exact H) | (have H2_ := (Option.bind_some _ _).symm.trans H; rw [hy113]; with_reducible exact H2_) | (have H2_ := (Option.bind_some _ _).symm.trans H; with_reducible exact H2_) | with_reducible exact H | (rw [hy113]; exact H) | exact H
                        have Ny113 := Aside0.mk hy113
                        clear hy113
                        replace H := Option.bind_eq_some_iff.mp H
                        obtain ⟨t116, A190, H⟩ := H
                        replace H : (if t116 = true then (some (y113, true)) else (some (([] : List Int), false))) = some (r1, r2) := H
                        have A19 := Aside0.mk A190
                        clear A190
                        by_cases c20 : t116 = true
                        · subst c20
                          have H1 : (some (y113, true)) = some (r1, r2) := by rw [if_pos rfl] at H; exact H
                          clear H
                          have H := H1
                          clear H1
                          simp only [Option.some.injEq, Prod.mk.injEq] at H
                          obtain ⟨rfl, rfl⟩ := H
                          have p105 : 0 ≤ (0 : Int) := (by omega)
                          have q105 : 0 < (l0.length : Int) := of_decide_eq_true (by first | (with_reducible assumption) | assumption)
                          obtain ⟨ad105, e105, hx105_0⟩ := Kd.at_int HR0.out 0 p105 q105
                          cases e105
                          have qi105 : (0 < l0.length) = True := eq_true (by omega)
                          (try rw [show ((0 : Int)).toNat = 0 from rfl] at hx105_0)
                          (try rw [Addr.add_zero'] at hx105_0)
                          replace hx105_0 := (HB.out.cell (World.block_lt_of_cell? w _ hx105_0)).trans hx105_0
                          replace p105 := eq_true p105
                          replace q105 := eq_true q105
                          have p106 : 0 ≤ (1 : Int) := (by omega)
                          have q106 : 1 < (l0.length : Int) := of_decide_eq_true (by first | (with_reducible assumption) | assumption)
                          obtain ⟨ad106, e106, hx106_0⟩ := Kd.at_int HR0.out 1 p106 q106
                          obtain rfl : ad105 = ad106 := (by injection e106)
                          (try simp only [show (1 : Int).toNat = 1 from rfl, Nat.reduceMul, Nat.reduceEqDiff, Go.Addr.add, ↓reduceIte] at hx106_0)
                          have qi106 : (1 < l0.length) = True := eq_true (by omega)
                          (try rw [show ((1 : Int)).toNat = 1 from rfl] at hx106_0)
                          replace hx106_0 := (HB.out.cell (World.block_lt_of_cell? w _ hx106_0)).trans hx106_0
                          replace p106 := eq_true p106
                          replace q106 := eq_true q106
                          have p107 : 0 ≤ (2 : Int) := (by omega)
                          have q107 : 2 < (l0.length : Int) := of_decide_eq_true (by first | (with_reducible assumption) | assumption)
                          obtain ⟨ad107, e107, hx107_0⟩ := Kd.at_int HR0.out 2 p107 q107
                          obtain rfl : ad105 = ad107 := (by injection e107)
                          (try simp only [show (2 : Int).toNat = 2 from rfl, Nat.reduceMul, Nat.reduceEqDiff, Go.Addr.add, ↓reduceIte] at hx107_0)
                          have qi107 : (2 < l0.length) = True := eq_true (by omega)
                          (try rw [show ((2 : Int)).toNat = 2 from rfl] at hx107_0)
                          replace hx107_0 := (HB.out.cell (World.block_lt_of_cell? w _ hx107_0)).trans hx107_0
                          replace p107 := eq_true p107
                          replace q107 := eq_true q107
                          have p108 : 0 ≤ (3 : Int) := (by omega)
                          have q108 : 3 < (l0.length : Int) := of_decide_eq_true (by first | (with_reducible assumption) | assumption)
                          obtain ⟨ad108, e108, hx108_0⟩ := Kd.at_int HR0.out 3 p108 q108
                          obtain rfl : ad105 = ad108 := (by injection e108)
                          (try simp only [show (3 : Int).toNat = 3 from rfl, Nat.reduceMul, Nat.reduceEqDiff, Go.Addr.add, ↓reduceIte] at hx108_0)
                          have qi108 : (3 < l0.length) = True := eq_true (by omega)
                          (try rw [show ((3 : Int)).toNat = 3 from rfl] at hx108_0)
                          replace hx108_0 := (HB.out.cell (World.block_lt_of_cell? w _ hx108_0)).trans hx108_0
                          replace p108 := eq_true p108
                          replace q108 := eq_true q108
                          have p109 : 0 ≤ (0 : Int) := (by omega)
                          have q109 : 0 < (l1.length : Int) := of_decide_eq_true (by first | (with_reducible assumption) | assumption)
                          obtain ⟨ad109, e109, hx109_0⟩ := Kd.at_int HR1.out 0 p109 q109
                          cases e109
                          have qi109 : (0 < l1.length) = True := eq_true (by omega)
                          (try rw [show ((0 : Int)).toNat = 0 from rfl] at hx109_0)
                          (try rw [Addr.add_zero'] at hx109_0)
                          replace hx109_0 := (HB.out.cell (World.block_lt_of_cell? w _ hx109_0)).trans hx109_0
                          replace p109 := eq_true p109
                          replace q109 := eq_true q109
                          have p110 : 0 ≤ (1 : Int) := (by omega)
                          have q110 : 1 < (l1.length : Int) := of_decide_eq_true (by first | (with_reducible assumption) | assumption)
                          obtain ⟨ad110, e110, hx110_0⟩ := Kd.at_int HR1.out 1 p110 q110
                          obtain rfl : ad109 = ad110 := (by injection e110)
                          (try simp only [show (1 : Int).toNat = 1 from rfl, Nat.reduceMul, Nat.reduceEqDiff, Go.Addr.add, ↓reduceIte] at hx110_0)
                          have qi110 : (1 < l1.length) = True := eq_true (by omega)
                          (try rw [show ((1 : Int)).toNat = 1 from rfl] at hx110_0)
                          replace hx110_0 := (HB.out.cell (World.block_lt_of_cell? w _ hx110_0)).trans hx110_0
                          replace p110 := eq_true p110
                          replace q110 := eq_true q110
                          have p111 : 0 ≤ (2 : Int) := (by omega)
                          have q111 : 2 < (l1.length : Int) := of_decide_eq_true (by first | (with_reducible assumption) | assumption)
                          obtain ⟨ad111, e111, hx111_0⟩ := Kd.at_int HR1.out 2 p111 q111
                          obtain rfl : ad109 = ad111 := (by injection e111)
                          (try simp only [show (2 : Int).toNat = 2 from rfl, Nat.reduceMul, Nat.reduceEqDiff, Go.Addr.add, ↓reduceIte] at hx111_0)
                          have qi111 : (2 < l1.length) = True := eq_true (by omega)
                          (try rw [show ((2 : Int)).toNat = 2 from rfl] at hx111_0)
                          replace hx111_0 := (HB.out.cell (World.block_lt_of_cell? w _ hx111_0)).trans hx111_0
                          replace p111 := eq_true p111
                          replace q111 := eq_true q111
                          have p112 : 0 ≤ (3 : Int) := (by omega)
                          have q112 : 3 < (l1.length : Int) := of_decide_eq_true (by first | (with_reducible assumption) | assumption)
                          obtain ⟨ad112, e112, hx112_0⟩ := Kd.at_int HR1.out 3 p112 q112
                          obtain rfl : ad109 = ad112 := (by injection e112)
                          (try simp only [show (3 : Int).toNat = 3 from rfl, Nat.reduceMul, Nat.reduceEqDiff, Go.Addr.add, ↓reduceIte] at hx112_0)
                          have qi112 : (3 < l1.length) = True := eq_true (by omega)
                          (try rw [show ((3 : Int)).toNat = 3 from rfl] at hx112_0)
                          replace hx112_0 := (HB.out.cell (World.block_lt_of_cell? w _ hx112_0)).trans hx112_0
                          replace p112 := eq_true p112
                          replace q112 := eq_true q112
                          go_wp2_with (first | ((with_reducible refine gate_dst (N := 107) rfl ?_); refine Kd.R_lit (Kd.int .i64) _ 3 ?hg (N := 107) ?hd (xs := ([wrap64 ((wrap64 ((wrap64 ((wrap64 ((rd l0 0) * (rd l1 0))) - (wrap64 ((rd l0 1) * (rd l1 1))))) - (wrap64 ((rd l0 2) * (rd l1 2))))) - (wrap64 ((rd l0 3) * (rd l1 3)))), wrap64 ((wrap64 ((wrap64 ((wrap64 ((rd l0 0) * (rd l1 1))) + (wrap64 ((rd l0 1) * (rd l1 0))))) + (wrap64 ((rd l0 2) * (rd l1 3))))) - (wrap64 ((rd l0 3) * (rd l1 2)))), wrap64 ((wrap64 ((wrap64 ((wrap64 ((rd l0 0) * (rd l1 2))) - (wrap64 ((rd l0 1) * (rd l1 3))))) + (wrap64 ((rd l0 2) * (rd l1 0))))) + (wrap64 ((rd l0 3) * (rd l1 1)))), wrap64 ((wrap64 ((wrap64 ((wrap64 ((rd l0 0) * (rd l1 3))) + (wrap64 ((rd l0 1) * (rd l1 2))))) - (wrap64 ((rd l0 2) * (rd l1 1))))) + (wrap64 ((rd l0 3) * (rd l1 0))))] : List Int)) (inner := [.int .i64 (wrap64 ((wrap64 ((wrap64 ((wrap64 ((rd l0 0) * (rd l1 0))) - (wrap64 ((rd l0 1) * (rd l1 1))))) - (wrap64 ((rd l0 2) * (rd l1 2))))) - (wrap64 ((rd l0 3) * (rd l1 3))))), .int .i64 (wrap64 ((wrap64 ((wrap64 ((wrap64 ((rd l0 0) * (rd l1 1))) + (wrap64 ((rd l0 1) * (rd l1 0))))) + (wrap64 ((rd l0 2) * (rd l1 3))))) - (wrap64 ((rd l0 3) * (rd l1 2))))), .int .i64 (wrap64 ((wrap64 ((wrap64 ((wrap64 ((rd l0 0) * (rd l1 2))) - (wrap64 ((rd l0 1) * (rd l1 3))))) + (wrap64 ((rd l0 2) * (rd l1 0))))) + (wrap64 ((rd l0 3) * (rd l1 1))))), .int .i64 (wrap64 ((wrap64 ((wrap64 ((wrap64 ((rd l0 0) * (rd l1 3))) + (wrap64 ((rd l0 1) * (rd l1 2))))) - (wrap64 ((rd l0 2) * (rd l1 1))))) + (wrap64 ((rd l0 3) * (rd l1 0)))))]) (ok := fun _ => True) (okp := fun _ => True) ?hr ?hp (fun _ hk => hk) trivial (Below.refl _ _) (Nat.le_refl _) (by simp) ?_; (case hd => rfl); (case hg => rfl); (case hr => first | (go_simp; done) | (go_simp; rfl)); (case hp => exact (Reps.one (show Kd.M (Kd.int .i64) _ _ _ (wrap64 ((wrap64 ((wrap64 ((wrap64 ((rd l0 0) * (rd l1 0))) - (wrap64 ((rd l0 1) * (rd l1 1))))) - (wrap64 ((rd l0 2) * (rd l1 2))))) - (wrap64 ((rd l0 3) * (rd l1 3))))) [.int .i64 (wrap64 ((wrap64 ((wrap64 ((wrap64 ((rd l0 0) * (rd l1 0))) - (wrap64 ((rd l0 1) * (rd l1 1))))) - (wrap64 ((rd l0 2) * (rd l1 2))))) - (wrap64 ((rd l0 3) * (rd l1 3)))))] from rfl) (Reps.one (show Kd.M (Kd.int .i64) _ _ _ (wrap64 ((wrap64 ((wrap64 ((wrap64 ((rd l0 0) * (rd l1 1))) + (wrap64 ((rd l0 1) * (rd l1 0))))) + (wrap64 ((rd l0 2) * (rd l1 3))))) - (wrap64 ((rd l0 3) * (rd l1 2))))) [.int .i64 (wrap64 ((wrap64 ((wrap64 ((wrap64 ((rd l0 0) * (rd l1 1))) + (wrap64 ((rd l0 1) * (rd l1 0))))) + (wrap64 ((rd l0 2) * (rd l1 3))))) - (wrap64 ((rd l0 3) * (rd l1 2)))))] from rfl) (Reps.one (show Kd.M (Kd.int .i64) _ _ _ (wrap64 ((wrap64 ((wrap64 ((wrap64 ((rd l0 0) * (rd l1 2))) - (wrap64 ((rd l0 1) * (rd l1 3))))) + (wrap64 ((rd l0 2) * (rd l1 0))))) + (wrap64 ((rd l0 3) * (rd l1 1))))) [.int .i64 (wrap64 ((wrap64 ((wrap64 ((wrap64 ((rd l0 0) * (rd l1 2))) - (wrap64 ((rd l0 1) * (rd l1 3))))) + (wrap64 ((rd l0 2) * (rd l1 0))))) + (wrap64 ((rd l0 3) * (rd l1 1)))))] from rfl) (Reps.one (show Kd.M (Kd.int .i64) _ _ _ (wrap64 ((wrap64 ((wrap64 ((wrap64 ((rd l0 0) * (rd l1 3))) + (wrap64 ((rd l0 1) * (rd l1 2))))) - (wrap64 ((rd l0 2) * (rd l1 1))))) + (wrap64 ((rd l0 3) * (rd l1 0))))) [.int .i64 (wrap64 ((wrap64 ((wrap64 ((wrap64 ((rd l0 0) * (rd l1 3))) + (wrap64 ((rd l0 1) * (rd l1 2))))) - (wrap64 ((rd l0 2) * (rd l1 1))))) + (wrap64 ((rd l0 3) * (rd l1 0)))))] from rfl) (Reps.none _ _)))))); intro v114 w21 ho22 hb hg_ hnew_; clear hg_ hnew_; (first | rw [← Ny113.out] at ho22 | (simp only [Int.reduceToNat] at ho22; rw [← Ny113.out] at ho22)); have n0_ := Aside0.mk (Kd.R_lower ho22 (below_size (by repeat (first | (with_reducible first | exact HB.out | apply below_alloc | apply pw_below_drewN | apply below_drew1) | exact HB.out)))); have n1_ := Aside0.mk (below_step (by repeat (first | (with_reducible first | exact HB.out | apply below_alloc | apply pw_below_drewN | apply below_drew1) | exact HB.out)) hb); clear HB; have HO115 := n0_; have HB := n1_; clear n0_ n1_; clear hb ho22; obtain ⟨Ao23, co23, eo23⟩ := Kd.R_slice HO115.out; subst eo23) | (go_at_call 52; (with_reducible refine (impl_QuatValid.calls kj2 _ _ y113 true _ ?side1 ?side2 A19.out).mono ?_); (case side1 => repeat (first | exact (Kd.R_reads' HO115.out).2.2 | (with_reducible refine Kd.C_alloc ?_ _) | (with_reducible refine Kd.C_drewN ?_ _) | (with_reducible refine Kd.C_drew ?_))); (case side2 => exact (Kd.R_reads' HO115.out).2.1); rintro e w24 ⟨rfl, hb⟩; have n0_ := Aside0.mk (Kd.R_below (by (with_reducible repeat (first | apply Kd.R_alloc | apply Kd.R_drewN | apply Kd.R_drew)); exact HO115.out) hb); have n1_ := Aside0.mk (below_step (by repeat (first | (with_reducible first | exact HB.out | apply below_alloc | apply pw_below_drewN | apply below_drew1) | exact HB.out)) hb); clear HO115; clear HB; have HO115 := n0_; have HB := n1_; clear n0_ n1_; (try clear hb); (try clear hb2); (try clear hk); (try clear hi)))
                          repeat (go_quiet (first | ((with_reducible refine gate_dst (N := 107) rfl ?_); refine Kd.R_lit (Kd.int .i64) _ 3 ?hg (N := 107) ?hd (xs := ([wrap64 ((wrap64 ((wrap64 ((wrap64 ((rd l0 0) * (rd l1 0))) - (wrap64 ((rd l0 1) * (rd l1 1))))) - (wrap64 ((rd l0 2) * (rd l1 2))))) - (wrap64 ((rd l0 3) * (rd l1 3)))), wrap64 ((wrap64 ((wrap64 ((wrap64 ((rd l0 0) * (rd l1 1))) + (wrap64 ((rd l0 1) * (rd l1 0))))) + (wrap64 ((rd l0 2) * (rd l1 3))))) - (wrap64 ((rd l0 3) * (rd l1 2)))), wrap64 ((wrap64 ((wrap64 ((wrap64 ((rd l0 0) * (rd l1 2))) - (wrap64 ((rd l0 1) * (rd l1 3))))) + (wrap64 ((rd l0 2) * (rd l1 0))))) + (wrap64 ((rd l0 3) * (rd l1 1)))), wrap64 ((wrap64 ((wrap64 ((wrap64 ((rd l0 0) * (rd l1 3))) + (wrap64 ((rd l0 1) * (rd l1 2))))) - (wrap64 ((rd l0 2) * (rd l1 1))))) + (wrap64 ((rd l0 3) * (rd l1 0))))] : List Int)) (inner := [.int .i64 (wrap64 ((wrap64 ((wrap64 ((wrap64 ((rd l0 0) * (rd l1 0))) - (wrap64 ((rd l0 1) * (rd l1 1))))) - (wrap64 ((rd l0 2) * (rd l1 2))))) - (wrap64 ((rd l0 3) * (rd l1 3))))), .int .i64 (wrap64 ((wrap64 ((wrap64 ((wrap64 ((rd l0 0) * (rd l1 1))) + (wrap64 ((rd l0 1) * (rd l1 0))))) + (wrap64 ((rd l0 2) * (rd l1 3))))) - (wrap64 ((rd l0 3) * (rd l1 2))))), .int .i64 (wrap64 ((wrap64 ((wrap64 ((wrap64 ((rd l0 0) * (rd l1 2))) - (wrap64 ((rd l0 1) * (rd l1 3))))) + (wrap64 ((rd l0 2) * (rd l1 0))))) + (wrap64 ((rd l0 3) * (rd l1 1))))), .int .i64 (wrap64 ((wrap64 ((wrap64 ((wrap64 ((rd l0 0) * (rd l1 3))) + (wrap64 ((rd l0 1) * (rd l1 2))))) - (wrap64 ((rd l0 2) * (rd l1 1))))) + (wrap64 ((rd l0 3) * (rd l1 0)))))]) (ok := fun _ => True) (okp := fun _ => True) ?hr ?hp (fun _ hk => hk) trivial (Below.refl _ _) (Nat.le_refl _) (by simp) ?_; (case hd => rfl); (case hg => rfl); (case hr => first | (go_simp; done) | (go_simp; rfl)); (case hp => exact (Reps.one (show Kd.M (Kd.int .i64) _ _ _ (wrap64 ((wrap64 ((wrap64 ((wrap64 ((rd l0 0) * (rd l1 0))) - (wrap64 ((rd l0 1) * (rd l1 1))))) - (wrap64 ((rd l0 2) * (rd l1 2))))) - (wrap64 ((rd l0 3) * (rd l1 3))))) [.int .i64 (wrap64 ((wrap64 ((wrap64 ((wrap64 ((rd l0 0) * (rd l1 0))) - (wrap64 ((rd l0 1) * (rd l1 1))))) - (wrap64 ((rd l0 2) * (rd l1 2))))) - (wrap64 ((rd l0 3) * (rd l1 3)))))] from rfl) (Reps.one (show Kd.M (Kd.int .i64) _ _ _ (wrap64 ((wrap64 ((wrap64 ((wrap64 ((rd l0 0) * (rd l1 1))) + (wrap64 ((rd l0 1) * (rd l1 0))))) + (wrap64 ((rd l0 2) * (rd l1 3))))) - (wrap64 ((rd l0 3) * (rd l1 2))))) [.int .i64 (wrap64 ((wrap64 ((wrap64 ((wrap64 ((rd l0 0) * (rd l1 1))) + (wrap64 ((rd l0 1) * (rd l1 0))))) + (wrap64 ((rd l0 2) * (rd l1 3))))) - (wrap64 ((rd l0 3) * (rd l1 2)))))] from rfl) (Reps.one (show Kd.M (Kd.int .i64) _ _ _ (wrap64 ((wrap64 ((wrap64 ((wrap64 ((rd l0 0) * (rd l1 2))) - (wrap64 ((rd l0 1) * (rd l1 3))))) + (wrap64 ((rd l0 2) * (rd l1 0))))) + (wrap64 ((rd l0 3) * (rd l1 1))))) [.int .i64 (wrap64 ((wrap64 ((wrap64 ((wrap64 ((rd l0 0) * (rd l1 2))) - (wrap64 ((rd l0 1) * (rd l1 3))))) + (wrap64 ((rd l0 2) * (rd l1 0))))) + (wrap64 ((rd l0 3) * (rd l1 1)))))] from rfl) (Reps.one (show Kd.M (Kd.int .i64) _ _ _ (wrap64 ((wrap64 ((wrap64 ((wrap64 ((rd l0 0) * (rd l1 3))) + (wrap64 ((rd l0 1) * (rd l1 2))))) - (wrap64 ((rd l0 2) * (rd l1 1))))) + (wrap64 ((rd l0 3) * (rd l1 0))))) [.int .i64 (wrap64 ((wrap64 ((wrap64 ((wrap64 ((rd l0 0) * (rd l1 3))) + (wrap64 ((rd l0 1) * (rd l1 2))))) - (wrap64 ((rd l0 2) * (rd l1 1))))) + (wrap64 ((rd l0 3) * (rd l1 0)))))] from rfl) (Reps.none _ _)))))); intro v114 w21 ho22 hb hg_ hnew_; clear hg_ hnew_; (first | rw [← Ny113.out] at ho22 | (simp only [Int.reduceToNat] at ho22; rw [← Ny113.out] at ho22)); have n0_ := Aside0.mk (Kd.R_lower ho22 (below_size (by repeat (first | (with_reducible first | exact HB.out | apply below_alloc | apply pw_below_drewN | apply below_drew1) | exact HB.out)))); have n1_ := Aside0.mk (below_step (by repeat (first | (with_reducible first | exact HB.out | apply below_alloc | apply pw_below_drewN | apply below_drew1) | exact HB.out)) hb); clear HB; have HO115 := n0_; have HB := n1_; clear n0_ n1_; clear hb ho22; obtain ⟨Ao23, co23, eo23⟩ := Kd.R_slice HO115.out; subst eo23) | (go_at_call 52; (with_reducible refine (impl_QuatValid.calls kj2 _ _ y113 true _ ?side1 ?side2 A19.out).mono ?_); (case side1 => repeat (first | exact (Kd.R_reads' HO115.out).2.2 | (with_reducible refine Kd.C_alloc ?_ _) | (with_reducible refine Kd.C_drewN ?_ _) | (with_reducible refine Kd.C_drew ?_))); (case side2 => exact (Kd.R_reads' HO115.out).2.1); rintro e w24 ⟨rfl, hb⟩; have n0_ := Aside0.mk (Kd.R_below (by (with_reducible repeat (first | apply Kd.R_alloc | apply Kd.R_drewN | apply Kd.R_drew)); exact HO115.out) hb); have n1_ := Aside0.mk (below_step (by repeat (first | (with_reducible first | exact HB.out | apply below_alloc | apply pw_below_drewN | apply below_drew1) | exact HB.out)) hb); clear HO115; clear HB; have HO115 := n0_; have HB := n1_; clear n0_ n1_; (try clear hb); (try clear hb2); (try clear hk); (try clear hi))); try go_wp2_with (first | ((with_reducible refine gate_dst (N := 107) rfl ?_); refine Kd.R_lit (Kd.int .i64) _ 3 ?hg (N := 107) ?hd (xs := ([wrap64 ((wrap64 ((wrap64 ((wrap64 ((rd l0 0) * (rd l1 0))) - (wrap64 ((rd l0 1) * (rd l1 1))))) - (wrap64 ((rd l0 2) * (rd l1 2))))) - (wrap64 ((rd l0 3) * (rd l1 3)))), wrap64 ((wrap64 ((wrap64 ((wrap64 ((rd l0 0) * (rd l1 1))) + (wrap64 ((rd l0 1) * (rd l1 0))))) + (wrap64 ((rd l0 2) * (rd l1 3))))) - (wrap64 ((rd l0 3) * (rd l1 2)))), wrap64 ((wrap64 ((wrap64 ((wrap64 ((rd l0 0) * (rd l1 2))) - (wrap64 ((rd l0 1) * (rd l1 3))))) + (wrap64 ((rd l0 2) * (rd l1 0))))) + (wrap64 ((rd l0 3) * (rd l1 1)))), wrap64 ((wrap64 ((wrap64 ((wrap64 ((rd l0 0) * (rd l1 3))) + (wrap64 ((rd l0 1) * (rd l1 2))))) - (wrap64 ((rd l0 2) * (rd l1 1))))) + (wrap64 ((rd l0 3) * (rd l1 0))))] : List Int)) (inner := [.int .i64 (wrap64 ((wrap64 ((wrap64 ((wrap64 ((rd l0 0) * (rd l1 0))) - (wrap64 ((rd l0 1) * (rd l1 1))))) - (wrap64 ((rd l0 2) * (rd l1 2))))) - (wrap64 ((rd l0 3) * (rd l1 3))))), .int .i64 (wrap64 ((wrap64 ((wrap64 ((wrap64 ((rd l0 0) * (rd l1 1))) + (wrap64 ((rd l0 1) * (rd l1 0))))) + (wrap64 ((rd l0 2) * (rd l1 3))))) - (wrap64 ((rd l0 3) * (rd l1 2))))), .int .i64 (wrap64 ((wrap64 ((wrap64 ((wrap64 ((rd l0 0) * (rd l1 2))) - (wrap64 ((rd l0 1) * (rd l1 3))))) + (wrap64 ((rd l0 2) * (rd l1 0))))) + (wrap64 ((rd l0 3) * (rd l1 1))))), .int .i64 (wrap64 ((wrap64 ((wrap64 ((wrap64 ((rd l0 0) * (rd l1 3))) + (wrap64 ((rd l0 1) * (rd l1 2))))) - (wrap64 ((rd l0 2) * (rd l1 1))))) + (wrap64 ((rd l0 3) * (rd l1 0)))))]) (ok := fun _ => True) (okp := fun _ => True) ?hr ?hp (fun _ hk => hk) trivial (Below.refl _ _) (Nat.le_refl _) (by simp) ?_; (case hd => rfl); (case hg => rfl); (case hr => first | (go_simp; done) | (go_simp; rfl)); (case hp => exact (Reps.one (show Kd.M (Kd.int .i64) _ _ _ (wrap64 ((wrap64 ((wrap64 ((wrap64 ((rd l0 0) * (rd l1 0))) - (wrap64 ((rd l0 1) * (rd l1 1))))) - (wrap64 ((rd l0 2) * (rd l1 2))))) - (wrap64 ((rd l0 3) * (rd l1 3))))) [.int .i64 (wrap64 ((wrap64 ((wrap64 ((wrap64 ((rd l0 0) * (rd l1 0))) - (wrap64 ((rd l0 1) * (rd l1 1))))) - (wrap64 ((rd l0 2) * (rd l1 2))))) - (wrap64 ((rd l0 3) * (rd l1 3)))))] from rfl) (Reps.one (show Kd.M (Kd.int .i64) _ _ _ (wrap64 ((wrap64 ((wrap64 ((wrap64 ((rd l0 0) * (rd l1 1))) + (wrap64 ((rd l0 1) * (rd l1 0))))) + (wrap64 ((rd l0 2) * (rd l1 3))))) - (wrap64 ((rd l0 3) * (rd l1 2))))) [.int .i64 (wrap64 ((wrap64 ((wrap64 ((wrap64 ((rd l0 0) * (rd l1 1))) + (wrap64 ((rd l0 1) * (rd l1 0))))) + (wrap64 ((rd l0 2) * (rd l1 3))))) - (wrap64 ((rd l0 3) * (rd l1 2)))))] from rfl) (Reps.one (show Kd.M (Kd.int .i64) _ _ _ (wrap64 ((wrap64 ((wrap64 ((wrap64 ((rd l0 0) * (rd l1 2))) - (wrap64 ((rd l0 1) * (rd l1 3))))) + (wrap64 ((rd l0 2) * (rd l1 0))))) + (wrap64 ((rd l0 3) * (rd l1 1))))) [.int .i64 (wrap64 ((wrap64 ((wrap64 ((wrap64 ((rd l0 0) * (rd l1 2))) - (wrap64 ((rd l0 1) * (rd l1 3))))) + (wrap64 ((rd l0 2) * (rd l1 0))))) + (wrap64 ((rd l0 3) * (rd l1 1)))))] from rfl) (Reps.one (show Kd.M (Kd.int .i64) _ _ _ (wrap64 ((wrap64 ((wrap64 ((wrap64 ((rd l0 0) * (rd l1 3))) + (wrap64 ((rd l0 1) * (rd l1 2))))) - (wrap64 ((rd l0 2) * (rd l1 1))))) + (wrap64 ((rd l0 3) * (rd l1 0))))) [.int .i64 (wrap64 ((wrap64 ((wrap64 ((wrap64 ((rd l0 0) * (rd l1 3))) + (wrap64 ((rd l0 1) * (rd l1 2))))) - (wrap64 ((rd l0 2) * (rd l1 1))))) + (wrap64 ((rd l0 3) * (rd l1 0)))))] from rfl) (Reps.none _ _)))))); intro v114 w21 ho22 hb hg_ hnew_; clear hg_ hnew_; (first | rw [← Ny113.out] at ho22 | (simp only [Int.reduceToNat] at ho22; rw [← Ny113.out] at ho22)); have n0_ := Aside0.mk (Kd.R_lower ho22 (below_size (by repeat (first | (with_reducible first | exact HB.out | apply below_alloc | apply pw_below_drewN | apply below_drew1) | exact HB.out)))); have n1_ := Aside0.mk (below_step (by repeat (first | (with_reducible first | exact HB.out | apply below_alloc | apply pw_below_drewN | apply below_drew1) | exact HB.out)) hb); clear HB; have HO115 := n0_; have HB := n1_; clear n0_ n1_; clear hb ho22; obtain ⟨Ao23, co23, eo23⟩ := Kd.R_slice HO115.out; subst eo23) | (go_at_call 52; (with_reducible refine (impl_QuatValid.calls kj2 _ _ y113 true _ ?side1 ?side2 A19.out).mono ?_); (case side1 => repeat (first | exact (Kd.R_reads' HO115.out).2.2 | (with_reducible refine Kd.C_alloc ?_ _) | (with_reducible refine Kd.C_drewN ?_ _) | (with_reducible refine Kd.C_drew ?_))); (case side2 => exact (Kd.R_reads' HO115.out).2.1); rintro e w24 ⟨rfl, hb⟩; have n0_ := Aside0.mk (Kd.R_below (by (with_reducible repeat (first | apply Kd.R_alloc | apply Kd.R_drewN | apply Kd.R_drew)); exact HO115.out) hb); have n1_ := Aside0.mk (below_step (by repeat (first | (with_reducible first | exact HB.out | apply below_alloc | apply pw_below_drewN | apply below_drew1) | exact HB.out)) hb); clear HO115; clear HB; have HO115 := n0_; have HB := n1_; clear n0_ n1_; (try clear hb); (try clear hb2); (try clear hk); (try clear hi))))
                          go_ret2
                          exact ⟨_, by first | rfl | (simp [errW_none, errW_some] <;> rfl) | (simp [*, errW_none, errW_some] <;> rfl), by (with_reducible repeat (first | apply Kd.R_alloc | apply Kd.R_drewN | apply Kd.R_drew)); exact HO115.out, by repeat (first | (with_reducible first | exact HB.out | apply below_alloc | apply pw_below_drewN | apply below_drew1) | exact HB.out)⟩
                        · replace c20 := Bool.eq_false_iff.mpr c20
                          subst c20
                          have H1 : (some (([] : List Int), false)) = some (r1, r2) := by rw [if_neg (show ¬ (false = true) by decide)] at H; exact H
                          clear H
                          have H := H1
                          clear H1
                          simp only [Option.some.injEq, Prod.mk.injEq] at H
                          obtain ⟨rfl, rfl⟩ := H
                          have p105 : 0 ≤ (0 : Int) := (by omega)
                          have q105 : 0 < (l0.length : Int) := of_decide_eq_true (by first | (with_reducible assumption) | assumption)
                          obtain ⟨ad105, e105, hx105_0⟩ := Kd.at_int HR0.out 0 p105 q105
                          cases e105
                          have qi105 : (0 < l0.length) = True := eq_true (by omega)
                          (try rw [show ((0 : Int)).toNat = 0 from rfl] at hx105_0)
                          (try rw [Addr.add_zero'] at hx105_0)
                          replace hx105_0 := (HB.out.cell (World.block_lt_of_cell? w _ hx105_0)).trans hx105_0
                          replace p105 := eq_true p105
                          replace q105 := eq_true q105
                          have p106 : 0 ≤ (1 : Int) := (by omega)
                          have q106 : 1 < (l0.length : Int) := of_decide_eq_true (by first | (with_reducible assumption) | assumption)
                          obtain ⟨ad106, e106, hx106_0⟩ := Kd.at_int HR0.out 1 p106 q106
                          obtain rfl : ad105 = ad106 := (by injection e106)
                          (try simp only [show (1 : Int).toNat = 1 from rfl, Nat.reduceMul, Nat.reduceEqDiff, Go.Addr.add, ↓reduceIte] at hx106_0)
                          have qi106 : (1 < l0.length) = True := eq_true (by omega)
                          (try rw [show ((1 : Int)).toNat = 1 from rfl] at hx106_0)
                          replace hx106_0 := (HB.out.cell (World.block_lt_of_cell? w _ hx106_0)).trans hx106_0
                          replace p106 := eq_true p106
                          replace q106 := eq_true q106
                          have p107 : 0 ≤ (2 : Int) := (by omega)
                          have q107 : 2 < (l0.length : Int) := of_decide_eq_true (by first | (with_reducible assumption) | assumption)
                          obtain ⟨ad107, e107, hx107_0⟩ := Kd.at_int HR0.out 2 p107 q107
                          obtain rfl : ad105 = ad107 := (by injection e107)
                          (try simp only [show (2 : Int).toNat = 2 from rfl, Nat.reduceMul, Nat.reduceEqDiff, Go.Addr.add, ↓reduceIte] at hx107_0)
                          have qi107 : (2 < l0.length) = True := eq_true (by omega)
                          (try rw [show ((2 : Int)).toNat = 2 from rfl] at hx107_0)
                          replace hx107_0 := (HB.out.cell (World.block_lt_of_cell? w _ hx107_0)).trans hx107_0
                          replace p107 := eq_true p107
                          replace q107 := eq_true q107
                          have p108 : 0 ≤ (3 : Int) := (by omega)
                          have q108 : 3 < (l0.length : Int) := of_decide_eq_true (by first | (with_reducible assumption) | assumption)
                          obtain ⟨ad108, e108, hx108_0⟩ := Kd.at_int HR0.out 3 p108 q108
                          obtain rfl : ad105 = ad108 := (by injection e108)
                          (try simp only [show (3 : Int).toNat = 3 from rfl, Nat.reduceMul, Nat.reduceEqDiff, Go.Addr.add, ↓reduceIte] at hx108_0)
                          have qi108 : (3 < l0.length) = True := eq_true (by omega)
                          (try rw [show ((3 : Int)).toNat = 3 from rfl] at hx108_0)
                          replace hx108_0 := (HB.out.cell (World.block_lt_of_cell? w _ hx108_0)).trans hx108_0
                          replace p108 := eq_true p108
                          replace q108 := eq_true q108
                          have p109 : 0 ≤ (0 : Int) := (by omega)
                          have q109 : 0 < (l1.length : Int) := of_decide_eq_true (by first | (with_reducible assumption) | assumption)
                          obtain ⟨ad109, e109, hx109_0⟩ := Kd.at_int HR1.out 0 p109 q109
                          cases e109
                          have qi109 : (0 < l1.length) = True := eq_true (by omega)
                          (try rw [show ((0 : Int)).toNat = 0 from rfl] at hx109_0)
                          (try rw [Addr.add_zero'] at hx109_0)
                          replace hx109_0 := (HB.out.cell (World.block_lt_of_cell? w _ hx109_0)).trans hx109_0
                          replace p109 := eq_true p109
                          replace q109 := eq_true q109
                          have p110 : 0 ≤ (1 : Int) := (by omega)
                          have q110 : 1 < (l1.length : Int) := of_decide_eq_true (by first | (with_reducible assumption) | assumption)
                          obtain ⟨ad110, e110, hx110_0⟩ := Kd.at_int HR1.out 1 p110 q110
                          obtain rfl : ad109 = ad110 := (by injection e110)
                          (try simp only [show (1 : Int).toNat = 1 from rfl, Nat.reduceMul, Nat.reduceEqDiff, Go.Addr.add, ↓reduceIte] at hx110_0)
                          have qi110 : (1 < l1.length) = True := eq_true (by omega)
                          (try rw [show ((1 : Int)).toNat = 1 from rfl] at hx110_0)
                          replace hx110_0 := (HB.out.cell (World.block_lt_of_cell? w _ hx110_0)).trans hx110_0
                          replace p110 := eq_true p110
                          replace q110 := eq_true q110
                          have p111 : 0 ≤ (2 : Int) := (by omega)
                          have q111 : 2 < (l1.length : Int) := of_decide_eq_true (by first | (with_reducible assumption) | assumption)
                          obtain ⟨ad111, e111, hx111_0⟩ := Kd.at_int HR1.out 2 p111 q111
                          obtain rfl : ad109 = ad111 := (by injection e111)
                          (try simp only [show (2 : Int).toNat = 2 from rfl, Nat.reduceMul, Nat.reduceEqDiff, Go.Addr.add, ↓reduceIte] at hx111_0)
                          have qi111 : (2 < l1.length) = True := eq_true (by omega)
                          (try rw [show ((2 : Int)).toNat = 2 from rfl] at hx111_0)
                          replace hx111_0 := (HB.out.cell (World.block_lt_of_cell? w _ hx111_0)).trans hx111_0
                          replace p111 := eq_true p111
                          replace q111 := eq_true q111
                          have p112 : 0 ≤ (3 : Int) := (by omega)
                          have q112 : 3 < (l1.length : Int) := of_decide_eq_true (by first | (with_reducible assumption) | assumption)
                          obtain ⟨ad112, e112, hx112_0⟩ := Kd.at_int HR1.out 3 p112 q112
                          obtain rfl : ad109 = ad112 := (by injection e112)
                          (try simp only [show (3 : Int).toNat = 3 from rfl, Nat.reduceMul, Nat.reduceEqDiff, Go.Addr.add, ↓reduceIte] at hx112_0)
                          have qi112 : (3 < l1.length) = True := eq_true (by omega)
                          (try rw [show ((3 : Int)).toNat = 3 from rfl] at hx112_0)
                          replace hx112_0 := (HB.out.cell (World.block_lt_of_cell? w _ hx112_0)).trans hx112_0
                          replace p112 := eq_true p112
                          replace q112 := eq_true q112
                          go_wp2_with (first | ((with_reducible refine gate_dst (N := 107) rfl ?_); refine Kd.R_lit (Kd.int .i64) _ 3 ?hg (N := 107) ?hd (xs := ([wrap64 ((wrap64 ((wrap64 ((wrap64 ((rd l0 0) * (rd l1 0))) - (wrap64 ((rd l0 1) * (rd l1 1))))) - (wrap64 ((rd l0 2) * (rd l1 2))))) - (wrap64 ((rd l0 3) * (rd l1 3)))), wrap64 ((wrap64 ((wrap64 ((wrap64 ((rd l0 0) * (rd l1 1))) + (wrap64 ((rd l0 1) * (rd l1 0))))) + (wrap64 ((rd l0 2) * (rd l1 3))))) - (wrap64 ((rd l0 3) * (rd l1 2)))), wrap64 ((wrap64 ((wrap64 ((wrap64 ((rd l0 0) * (rd l1 2))) - (wrap64 ((rd l0 1) * (rd l1 3))))) + (wrap64 ((rd l0 2) * (rd l1 0))))) + (wrap64 ((rd l0 3) * (rd l1 1)))), wrap64 ((wrap64 ((wrap64 ((wrap64 ((rd l0 0) * (rd l1 3))) + (wrap64 ((rd l0 1) * (rd l1 2))))) - (wrap64 ((rd l0 2) * (rd l1 1))))) + (wrap64 ((rd l0 3) * (rd l1 0))))] : List Int)) (inner := [.int .i64 (wrap64 ((wrap64 ((wrap64 ((wrap64 ((rd l0 0) * (rd l1 0))) - (wrap64 ((rd l0 1) * (rd l1 1))))) - (wrap64 ((rd l0 2) * (rd l1 2))))) - (wrap64 ((rd l0 3) * (rd l1 3))))), .int .i64 (wrap64 ((wrap64 ((wrap64 ((wrap64 ((rd l0 0) * (rd l1 1))) + (wrap64 ((rd l0 1) * (rd l1 0))))) + (wrap64 ((rd l0 2) * (rd l1 3))))) - (wrap64 ((rd l0 3) * (rd l1 2))))), .int .i64 (wrap64 ((wrap64 ((wrap64 ((wrap64 ((rd l0 0) * (rd l1 2))) - (wrap64 ((rd l0 1) * (rd l1 3))))) + (wrap64 ((rd l0 2) * (rd l1 0))))) + (wrap64 ((rd l0 3) * (rd l1 1))))), .int .i64 (wrap64 ((wrap64 ((wrap64 ((wrap64 ((rd l0 0) * (rd l1 3))) + (wrap64 ((rd l0 1) * (rd l1 2))))) - (wrap64 ((rd l0 2) * (rd l1 1))))) + (wrap64 ((rd l0 3) * (rd l1 0)))))]) (ok := fun _ => True) (okp := fun _ => True) ?hr ?hp (fun _ hk => hk) trivial (Below.refl _ _) (Nat.le_refl _) (by simp) ?_; (case hd => rfl); (case hg => rfl); (case hr => first | (go_simp; done) | (go_simp; rfl)); (case hp => exact (Reps.one (show Kd.M (Kd.int .i64) _ _ _ (wrap64 ((wrap64 ((wrap64 ((wrap64 ((rd l0 0) * (rd l1 0))) - (wrap64 ((rd l0 1) * (rd l1 1))))) - (wrap64 ((rd l0 2) * (rd l1 2))))) - (wrap64 ((rd l0 3) * (rd l1 3))))) [.int .i64 (wrap64 ((wrap64 ((wrap64 ((wrap64 ((rd l0 0) * (rd l1 0))) - (wrap64 ((rd l0 1) * (rd l1 1))))) - (wrap64 ((rd l0 2) * (rd l1 2))))) - (wrap64 ((rd l0 3) * (rd l1 3)))))] from rfl) (Reps.one (show Kd.M (Kd.int .i64) _ _ _ (wrap64 ((wrap64 ((wrap64 ((wrap64 ((rd l0 0) * (rd l1 1))) + (wrap64 ((rd l0 1) * (rd l1 0))))) + (wrap64 ((rd l0 2) * (rd l1 3))))) - (wrap64 ((rd l0 3) * (rd l1 2))))) [.int .i64 (wrap64 ((wrap64 ((wrap64 ((wrap64 ((rd l0 0) * (rd l1 1))) + (wrap64 ((rd l0 1) * (rd l1 0))))) + (wrap64 ((rd l0 2) * (rd l1 3))))) - (wrap64 ((rd l0 3) * (rd l1 2)))))] from rfl) (Reps.one (show Kd.M (Kd.int .i64) _ _ _ (wrap64 ((wrap64 ((wrap64 ((wrap64 ((rd l0 0) * (rd l1 2))) - (wrap64 ((rd l0 1) * (rd l1 3))))) + (wrap64 ((rd l0 2) * (rd l1 0))))) + (wrap64 ((rd l0 3) * (rd l1 1))))) [.int .i64 (wrap64 ((wrap64 ((wrap64 ((wrap64 ((rd l0 0) * (rd l1 2))) - (wrap64 ((rd l0 1) * (rd l1 3))))) + (wrap64 ((rd l0 2) * (rd l1 0))))) + (wrap64 ((rd l0 3) * (rd l1 1)))))] from rfl) (Reps.one (show Kd.M (Kd.int .i64) _ _ _ (wrap64 ((wrap64 ((wrap64 ((wrap64 ((rd l0 0) * (rd l1 3))) + (wrap64 ((rd l0 1) * (rd l1 2))))) - (wrap64 ((rd l0 2) * (rd l1 1))))) + (wrap64 ((rd l0 3) * (rd l1 0))))) [.int .i64 (wrap64 ((wrap64 ((wrap64 ((wrap64 ((rd l0 0) * (rd l1 3))) + (wrap64 ((rd l0 1) * (rd l1 2))))) - (wrap64 ((rd l0 2) * (rd l1 1))))) + (wrap64 ((rd l0 3) * (rd l1 0)))))] from rfl) (Reps.none _ _)))))); intro v114 w25 ho26 hb hg_ hnew_; clear hg_ hnew_; (first | rw [← Ny113.out] at ho26 | (simp only [Int.reduceToNat] at ho26; rw [← Ny113.out] at ho26)); have n0_ := Aside0.mk (Kd.R_lower ho26 (below_size (by repeat (first | (with_reducible first | exact HB.out | apply below_alloc | apply pw_below_drewN | apply below_drew1) | exact HB.out)))); have n1_ := Aside0.mk (below_step (by repeat (first | (with_reducible first | exact HB.out | apply below_alloc | apply pw_below_drewN | apply below_drew1) | exact HB.out)) hb); clear HB; have HO115 := n0_; have HB := n1_; clear n0_ n1_; clear hb ho26; obtain ⟨Ao27, co27, eo27⟩ := Kd.R_slice HO115.out; subst eo27) | (go_at_call 52; (with_reducible refine (impl_QuatValid.calls kj2 _ _ y113 false _ ?side1 ?side2 A19.out).mono ?_); (case side1 => repeat (first | exact (Kd.R_reads' HO115.out).2.2 | (with_reducible refine Kd.C_alloc ?_ _) | (with_reducible refine Kd.C_drewN ?_ _) | (with_reducible refine Kd.C_drew ?_))); (case side2 => exact (Kd.R_reads' HO115.out).2.1); rintro e w28 ⟨rfl, hb⟩; have n0_ := Aside0.mk (Kd.R_below (by (with_reducible repeat (first | apply Kd.R_alloc | apply Kd.R_drewN | apply Kd.R_drew)); exact HO115.out) hb); have n1_ := Aside0.mk (below_step (by repeat (first | (with_reducible first | exact HB.out | apply below_alloc | apply pw_below_drewN | apply below_drew1) | exact HB.out)) hb); clear HO115; clear HB; have HO115 := n0_; have HB := n1_; clear n0_ n1_; (try clear hb); (try clear hb2); (try clear hk); (try clear hi)))
                          repeat (go_quiet (first | ((with_reducible refine gate_dst (N := 107) rfl ?_); refine Kd.R_lit (Kd.int .i64) _ 3 ?hg (N := 107) ?hd (xs := ([wrap64 ((wrap64 ((wrap64 ((wrap64 ((rd l0 0) * (rd l1 0))) - (wrap64 ((rd l0 1) * (rd l1 1))))) - (wrap64 ((rd l0 2) * (rd l1 2))))) - (wrap64 ((rd l0 3) * (rd l1 3)))), wrap64 ((wrap64 ((wrap64 ((wrap64 ((rd l0 0) * (rd l1 1))) + (wrap64 ((rd l0 1) * (rd l1 0))))) + (wrap64 ((rd l0 2) * (rd l1 3))))) - (wrap64 ((rd l0 3) * (rd l1 2)))), wrap64 ((wrap64 ((wrap64 ((wrap64 ((rd l0 0) * (rd l1 2))) - (wrap64 ((rd l0 1) * (rd l1 3))))) + (wrap64 ((rd l0 2) * (rd l1 0))))) + (wrap64 ((rd l0 3) * (rd l1 1)))), wrap64 ((wrap64 ((wrap64 ((wrap64 ((rd l0 0) * (rd l1 3))) + (wrap64 ((rd l0 1) * (rd l1 2))))) - (wrap64 ((rd l0 2) * (rd l1 1))))) + (wrap64 ((rd l0 3) * (rd l1 0))))] : List Int)) (inner := [.int .i64 (wrap64 ((wrap64 ((wrap64 ((wrap64 ((rd l0 0) * (rd l1 0))) - (wrap64 ((rd l0 1) * (rd l1 1))))) - (wrap64 ((rd l0 2) * (rd l1 2))))) - (wrap64 ((rd l0 3) * (rd l1 3))))), .int .i64 (wrap64 ((wrap64 ((wrap64 ((wrap64 ((rd l0 0) * (rd l1 1))) + (wrap64 ((rd l0 1) * (rd l1 0))))) + (wrap64 ((rd l0 2) * (rd l1 3))))) - (wrap64 ((rd l0 3) * (rd l1 2))))), .int .i64 (wrap64 ((wrap64 ((wrap64 ((wrap64 ((rd l0 0) * (rd l1 2))) - (wrap64 ((rd l0 1) * (rd l1 3))))) + (wrap64 ((rd l0 2) * (rd l1 0))))) + (wrap64 ((rd l0 3) * (rd l1 1))))), .int .i64 (wrap64 ((wrap64 ((wrap64 ((wrap64 ((rd l0 0) * (rd l1 3))) + (wrap64 ((rd l0 1) * (rd l1 2))))) - (wrap64 ((rd l0 2) * (rd l1 1))))) + (wrap64 ((rd l0 3) * (rd l1 0)))))]) (ok := fun _ => True) (okp := fun _ => True) ?hr ?hp (fun _ hk => hk) trivial (Below.refl _ _) (Nat.le_refl _) (by simp) ?_; (case hd => rfl); (case hg => rfl); (case hr => first | (go_simp; done) | (go_simp; rfl)); (case hp => exact (Reps.one (show Kd.M (Kd.int .i64) _ _ _ (wrap64 ((wrap64 ((wrap64 ((wrap64 ((rd l0 0) * (rd l1 0))) - (wrap64 ((rd l0 1) * (rd l1 1))))) - (wrap64 ((rd l0 2) * (rd l1 2))))) - (wrap64 ((rd l0 3) * (rd l1 3))))) [.int .i64 (wrap64 ((wrap64 ((wrap64 ((wrap64 ((rd l0 0) * (rd l1 0))) - (wrap64 ((rd l0 1) * (rd l1 1))))) - (wrap64 ((rd l0 2) * (rd l1 2))))) - (wrap64 ((rd l0 3) * (rd l1 3)))))] from rfl) (Reps.one (show Kd.M (Kd.int .i64) _ _ _ (wrap64 ((wrap64 ((wrap64 ((wrap64 ((rd l0 0) * (rd l1 1))) + (wrap64 ((rd l0 1) * (rd l1 0))))) + (wrap64 ((rd l0 2) * (rd l1 3))))) - (wrap64 ((rd l0 3) * (rd l1 2))))) [.int .i64 (wrap64 ((wrap64 ((wrap64 ((wrap64 ((rd l0 0) * (rd l1 1))) + (wrap64 ((rd l0 1) * (rd l1 0))))) + (wrap64 ((rd l0 2) * (rd l1 3))))) - (wrap64 ((rd l0 3) * (rd l1 2)))))] from rfl) (Reps.one (show Kd.M (Kd.int .i64) _ _ _ (wrap64 ((wrap64 ((wrap64 ((wrap64 ((rd l0 0) * (rd l1 2))) - (wrap64 ((rd l0 1) * (rd l1 3))))) + (wrap64 ((rd l0 2) * (rd l1 0))))) + (wrap64 ((rd l0 3) * (rd l1 1))))) [.int .i64 (wrap64 ((wrap64 ((wrap64 ((wrap64 ((rd l0 0) * (rd l1 2))) - (wrap64 ((rd l0 1) * (rd l1 3))))) + (wrap64 ((rd l0 2) * (rd l1 0))))) + (wrap64 ((rd l0 3) * (rd l1 1)))))] from rfl) (Reps.one (show Kd.M (Kd.int .i64) _ _ _ (wrap64 ((wrap64 ((wrap64 ((wrap64 ((rd l0 0) * (rd l1 3))) + (wrap64 ((rd l0 1) * (rd l1 2))))) - (wrap64 ((rd l0 2) * (rd l1 1))))) + (wrap64 ((rd l0 3) * (rd l1 0))))) [.int .i64 (wrap64 ((wrap64 ((wrap64 ((wrap64 ((rd l0 0) * (rd l1 3))) + (wrap64 ((rd l0 1) * (rd l1 2))))) - (wrap64 ((rd l0 2) * (rd l1 1))))) + (wrap64 ((rd l0 3) * (rd l1 0)))))] from rfl) (Reps.none _ _)))))); intro v114 w25 ho26 hb hg_ hnew_; clear hg_ hnew_; (first | rw [← Ny113.out] at ho26 | (simp only [Int.reduceToNat] at ho26; rw [← Ny113.out] at ho26)); have n0_ := Aside0.mk (Kd.R_lower ho26 (below_size (by repeat (first | (with_reducible first | exact HB.out | apply below_alloc | apply pw_below_drewN | apply below_drew1) | exact HB.out)))); have n1_ := Aside0.mk (below_step (by repeat (first | (with_reducible first | exact HB.out | apply below_alloc | apply pw_below_drewN | apply below_drew1) | exact HB.out)) hb); clear HB; have HO115 := n0_; have HB := n1_; clear n0_ n1_; clear hb ho26; obtain ⟨Ao27, co27, eo27⟩ := Kd.R_slice HO115.out; subst eo27) | (go_at_call 52; (with_reducible refine (impl_QuatValid.calls kj2 _ _ y113 false _ ?side1 ?side2 A19.out).mono ?_); (case side1 => repeat (first | exact (Kd.R_reads' HO115.out).2.2 | (with_reducible refine Kd.C_alloc ?_ _) | (with_reducible refine Kd.C_drewN ?_ _) | (with_reducible refine Kd.C_drew ?_))); (case side2 => exact (Kd.R_reads' HO115.out).2.1); rintro e w28 ⟨rfl, hb⟩; have n0_ := Aside0.mk (Kd.R_below (by (with_reducible repeat (first | apply Kd.R_alloc | apply Kd.R_drewN | apply Kd.R_drew)); exact HO115.out) hb); have n1_ := Aside0.mk (below_step (by repeat (first | (with_reducible first | exact HB.out | apply below_alloc | apply pw_below_drewN | apply below_drew1) | exact HB.out)) hb); clear HO115; clear HB; have HO115 := n0_; have HB := n1_; clear n0_ n1_; (try clear hb); (try clear hb2); (try clear hk); (try clear hi))); try go_wp2_with (first | ((with_reducible refine gate_dst (N := 107) rfl ?_); refine Kd.R_lit (Kd.int .i64) _ 3 ?hg (N := 107) ?hd (xs := ([wrap64 ((wrap64 ((wrap64 ((wrap64 ((rd l0 0) * (rd l1 0))) - (wrap64 ((rd l0 1) * (rd l1 1))))) - (wrap64 ((rd l0 2) * (rd l1 2))))) - (wrap64 ((rd l0 3) * (rd l1 3)))), wrap64 ((wrap64 ((wrap64 ((wrap64 ((rd l0 0) * (rd l1 1))) + (wrap64 ((rd l0 1) * (rd l1 0))))) + (wrap64 ((rd l0 2) * (rd l1 3))))) - (wrap64 ((rd l0 3) * (rd l1 2)))), wrap64 ((wrap64 ((wrap64 ((wrap64 ((rd l0 0) * (rd l1 2))) - (wrap64 ((rd l0 1) * (rd l1 3))))) + (wrap64 ((rd l0 2) * (rd l1 0))))) + (wrap64 ((rd l0 3) * (rd l1 1)))), wrap64 ((wrap64 ((wrap64 ((wrap64 ((rd l0 0) * (rd l1 3))) + (wrap64 ((rd l0 1) * (rd l1 2))))) - (wrap64 ((rd l0 2) * (rd l1 1))))) + (wrap64 ((rd l0 3) * (rd l1 0))))] : List Int)) (inner := [.int .i64 (wrap64 ((wrap64 ((wrap64 ((wrap64 ((rd l0 0) * (rd l1 0))) - (wrap64 ((rd l0 1) * (rd l1 1))))) - (wrap64 ((rd l0 2) * (rd l1 2))))) - (wrap64 ((rd l0 3) * (rd l1 3))))), .int .i64 (wrap64 ((wrap64 ((wrap64 ((wrap64 ((rd l0 0) * (rd l1 1))) + (wrap64 ((rd l0 1) * (rd l1 0))))) + (wrap64 ((rd l0 2) * (rd l1 3))))) - (wrap64 ((rd l0 3) * (rd l1 2))))), .int .i64 (wrap64 ((wrap64 ((wrap64 ((wrap64 ((rd l0 0) * (rd l1 2))) - (wrap64 ((rd l0 1) * (rd l1 3))))) + (wrap64 ((rd l0 2) * (rd l1 0))))) + (wrap64 ((rd l0 3) * (rd l1 1))))), .int .i64 (wrap64 ((wrap64 ((wrap64 ((wrap64 ((rd l0 0) * (rd l1 3))) + (wrap64 ((rd l0 1) * (rd l1 2))))) - (wrap64 ((rd l0 2) * (rd l1 1))))) + (wrap64 ((rd l0 3) * (rd l1 0)))))]) (ok := fun _ => True) (okp := fun _ => True) ?hr ?hp (fun _ hk => hk) trivial (Below.refl _ _) (Nat.le_refl _) (by simp) ?_; (case hd => rfl); (case hg => rfl); (case hr => first | (go_simp; done) | (go_simp; rfl)); (case hp => exact (Reps.one (show Kd.M (Kd.int .i64) _ _ _ (wrap64 ((wrap64 ((wrap64 ((wrap64 ((rd l0 0) * (rd l1 0))) - (wrap64 ((rd l0 1) * (rd l1 1))))) - (wrap64 ((rd l0 2) * (rd l1 2))))) - (wrap64 ((rd l0 3) * (rd l1 3))))) [.int .i64 (wrap64 ((wrap64 ((wrap64 ((wrap64 ((rd l0 0) * (rd l1 0))) - (wrap64 ((rd l0 1) * (rd l1 1))))) - (wrap64 ((rd l0 2) * (rd l1 2))))) - (wrap64 ((rd l0 3) * (rd l1 3)))))] from rfl) (Reps.one (show Kd.M (Kd.int .i64) _ _ _ (wrap64 ((wrap64 ((wrap64 ((wrap64 ((rd l0 0) * (rd l1 1))) + (wrap64 ((rd l0 1) * (rd l1 0))))) + (wrap64 ((rd l0 2) * (rd l1 3))))) - (wrap64 ((rd l0 3) * (rd l1 2))))) [.int .i64 (wrap64 ((wrap64 ((wrap64 ((wrap64 ((rd l0 0) * (rd l1 1))) + (wrap64 ((rd l0 1) * (rd l1 0))))) + (wrap64 ((rd l0 2) * (rd l1 3))))) - (wrap64 ((rd l0 3) * (rd l1 2)))))] from rfl) (Reps.one (show Kd.M (Kd.int .i64) _ _ _ (wrap64 ((wrap64 ((wrap64 ((wrap64 ((rd l0 0) * (rd l1 2))) - (wrap64 ((rd l0 1) * (rd l1 3))))) + (wrap64 ((rd l0 2) * (rd l1 0))))) + (wrap64 ((rd l0 3) * (rd l1 1))))) [.int .i64 (wrap64 ((wrap64 ((wrap64 ((wrap64 ((rd l0 0) * (rd l1 2))) - (wrap64 ((rd l0 1) * (rd l1 3))))) + (wrap64 ((rd l0 2) * (rd l1 0))))) + (wrap64 ((rd l0 3) * (rd l1 1)))))] from rfl) (Reps.one (show Kd.M (Kd.int .i64) _ _ _ (wrap64 ((wrap64 ((wrap64 ((wrap64 ((rd l0 0) * (rd l1 3))) + (wrap64 ((rd l0 1) * (rd l1 2))))) - (wrap64 ((rd l0 2) * (rd l1 1))))) + (wrap64 ((rd l0 3) * (rd l1 0))))) [.int .i64 (wrap64 ((wrap64 ((wrap64 ((wrap64 ((rd l0 0) * (rd l1 3))) + (wrap64 ((rd l0 1) * (rd l1 2))))) - (wrap64 ((rd l0 2) * (rd l1 1))))) + (wrap64 ((rd l0 3) * (rd l1 0)))))] from rfl) (Reps.none _ _)))))); intro v114 w25 ho26 hb hg_ hnew_; clear hg_ hnew_; (first | rw [← Ny113.out] at ho26 | (simp only [Int.reduceToNat] at ho26; rw [← Ny113.out] at ho26)); have n0_ := Aside0.mk (Kd.R_lower ho26 (below_size (by repeat (first | (with_reducible first | exact HB.out | apply below_alloc | apply pw_below_drewN | apply below_drew1) | exact HB.out)))); have n1_ := Aside0.mk (below_step (by repeat (first | (with_reducible first | exact HB.out | apply below_alloc | apply pw_below_drewN | apply below_drew1) | exact HB.out)) hb); clear HB; have HO115 := n0_; have HB := n1_; clear n0_ n1_; clear hb ho26; obtain ⟨Ao27, co27, eo27⟩ := Kd.R_slice HO115.out; subst eo27) | (go_at_call 52; (with_reducible refine (impl_QuatValid.calls kj2 _ _ y113 false _ ?side1 ?side2 A19.out).mono ?_); (case side1 => repeat (first | exact (Kd.R_reads' HO115.out).2.2 | (with_reducible refine Kd.C_alloc ?_ _) | (with_reducible refine Kd.C_drewN ?_ _) | (with_reducible refine Kd.C_drew ?_))); (case side2 => exact (Kd.R_reads' HO115.out).2.1); rintro e w28 ⟨rfl, hb⟩; have n0_ := Aside0.mk (Kd.R_below (by (with_reducible repeat (first | apply Kd.R_alloc | apply Kd.R_drewN | apply Kd.R_drew)); exact HO115.out) hb); have n1_ := Aside0.mk (below_step (by repeat (first | (with_reducible first | exact HB.out | apply below_alloc | apply pw_below_drewN | apply below_drew1) | exact HB.out)) hb); clear HO115; clear HB; have HO115 := n0_; have HB := n1_; clear n0_ n1_; (try clear hb); (try clear hb2); (try clear hk); (try clear hi))))
                          go_ret2
                          exact ⟨_, by first | rfl | (simp [errW_none, errW_some] <;> rfl) | (simp [*, errW_none, errW_some] <;> rfl), by first | exact Kd.R_nil _ _ _ _ _ | exact Kd.N_nil _ _ _ _ _ | exact Kd.V_nil _ _ _ _ _ | exact Kd.Q_nil _ _ _ _ _ | exact Kd.S_nil _ _ _ _ _, by repeat (first | (with_reducible first | exact HB.out | apply below_alloc | apply pw_below_drewN | apply below_drew1) | exact HB.out)⟩
                      · rw [if_neg c18] at H
                        exact absurd H (by simp)
                    · rw [if_neg c17] at H
                      exact absurd H (by simp)
                  · rw [if_neg c16] at H
                    exact absurd H (by simp)
                · rw [if_neg c15] at H
                  exact absurd H (by simp)
              · rw [if_neg c14] at H
                exact absurd H (by simp)
            · rw [if_neg c13] at H
              exact absurd H (by simp)
          · rw [if_neg c12] at H
            exact absurd H (by simp)
        · rw [if_neg c11] at H
          exact absurd H (by simp)

/-- A state of type 56 at block g of W; what its slices lead to came in by w0. -/
def IsS56 (w0 W : World) (g : Nat) (f0 : List Int) (f1 : Int) : Prop := ∃ A0 c0, W.heap[g]? = some (.cells #[.slice A0 f0.length c0, .int .i64 f1] 56 (0, 0)) ∧ w0.heap.size ≤ g ∧ Kd.C (Kd.int .u8) w0 A0 f0.length f0
theorem IsS56.grown {w0 W : World} {g : Nat} {f0 : List Int} {f1 : Int} {W1 : World} {row : Option Nat} (h : IsS56 w0 W g f0 f1) (hw : W.grownBy W1 row) (hne : some g ≠ row) : IsS56 w0 W1 g f0 f1 := by
  obtain ⟨A0, c0, hb, hg, hr0⟩ := h
  exact ⟨A0, c0, blk_grown hb hw hne, hg, hr0⟩
theorem IsS56.own_neN {w0 W : World} {g : Nat} {f0 : List Int} {f1 : Int} {α : Type} {d : Kd α} {e : Nat} {base : Nat} {ok : Nat → Prop} {v : Value} {xs : List α} (h : IsS56 w0 W g f0 f1) (ho : Kd.N d e W base ok v xs) (ht : e ≠ 56) : some g ≠ v.ownBlock := by
  obtain ⟨A0, c0, hb, hg, hr0⟩ := h
  exact Kd.N_ne ho hb ht
theorem IsS56.fresh {w0 W : World} {g : Nat} {f0 : List Int} {f1 : Int} (h : IsS56 w0 W g f0 f1) : ∀ k, W.heap.size ≤ k → k ≠ g := by
  obtain ⟨A0, c0, hb, hg, hr0⟩ := h
  exact Kd.freshB hb
theorem IsS56.kept {w0 W : World} {g : Nat} {f0 : List Int} {f1 : Int} {W1 : World} {S : Nat → Prop} (h : IsS56 w0 W g f0 f1) (hk : Kept W W1 S) (hne : ¬ S g) : IsS56 w0 W1 g f0 f1 := by
  obtain ⟨A0, c0, hb, hg, hr0⟩ := h
  exact ⟨A0, c0, blk_kept hb hk hne, hg, hr0⟩
theorem IsS56.below {w0 W : World} {g : Nat} {f0 : List Int} {f1 : Int} {W1 : World} (h : IsS56 w0 W g f0 f1) (hw : Below W.heap.size W W1) : IsS56 w0 W1 g f0 f1 := h.grown (grown_of_below hw none) (by simp)
theorem IsS56.alloc {w0 W : World} {g : Nat} {f0 : List Int} {f1 : Int} (h : IsS56 w0 W g f0 f1) (o : Obj) : IsS56 w0 (W.alloc o) g f0 f1 := h.below (below_alloc (Below.refl _ _) o)
theorem IsS56.drewN {w0 W : World} {g : Nat} {f0 : List Int} {f1 : Int} (h : IsS56 w0 W g f0 f1) (m : Nat) : IsS56 w0 (W.drewN m) g f0 f1 := h
theorem IsS56.drew {w0 W : World} {g : Nat} {f0 : List Int} {f1 : Int} (h : IsS56 w0 W g f0 f1) : IsS56 w0 W.drew g f0 f1 := h
theorem IsS56.at_ {w0 W : World} {g : Nat} {f0 : List Int} {f1 : Int} {w' : World} {m : Nat} (hq : W.drewN m = w') (h : IsS56 w0 W g f0 f1) : IsS56 w0 w' g f0 f1 := by subst hq; exact IsS56.drewN h m
theorem IsS56.apart {w0 W : World} {g : Nat} {f0 : List Int} {f1 : Int} {α : Type} {d : Kd α} {e : Nat} {base : Nat} {ok : Nat → Prop} {v : Value} {xs : List α} (h : IsS56 w0 W g f0 f1) (ho : d.R e W base ok v xs) (ht : ∀ q, q ∈ e :: d.E → q ≠ 56) : d.R e W base (fun k => ok k ∧ k ≠ g) v xs := by
  obtain ⟨A0, c0, hb, hg, hr0⟩ := h
  exact Kd.R_types ho hb ht
theorem IsS56.own_ne {w0 W : World} {g : Nat} {f0 : List Int} {f1 : Int} {α : Type} {d : Kd α} {e : Nat} {base : Nat} {ok : Nat → Prop} {v : Value} {xs : List α} (h : IsS56 w0 W g f0 f1) (ho : d.R e W base ok v xs) (ht : e ≠ 56) : some g ≠ v.ownBlock := by
  obtain ⟨A0, c0, hb, hg, hr0⟩ := h
  exact Kd.R_ne ho hb ht
theorem IsS56.apartQ {w0 W : World} {g : Nat} {f0 : List Int} {f1 : Int} {α : Type} {d : Kd α} {e : Nat} {base : Nat} {ok : Nat → Prop} {v : Value} {xs : List α} (h : IsS56 w0 W g f0 f1) (ho : d.Q e W base ok v xs) (ht : ∀ q, q ∈ e :: d.E → q ≠ 56) : d.Q e W base (fun k => ok k ∧ k ≠ g) v xs := by
  obtain ⟨A0, c0, hb, hg, hr0⟩ := h
  exact Kd.Q_types ho hb ht
theorem IsS56.own_neQ {w0 W : World} {g : Nat} {f0 : List Int} {f1 : Int} {α : Type} {d : Kd α} {e : Nat} {base : Nat} {ok : Nat → Prop} {v : Value} {xs : List α} (h : IsS56 w0 W g f0 f1) (ho : d.Q e W base ok v xs) (ht : e ≠ 56) : some g ≠ v.ownBlock := by
  obtain ⟨A0, c0, hb, hg, hr0⟩ := h
  exact Kd.Q_ne ho hb ht
theorem IsS56.apartS {w0 W : World} {g : Nat} {f0 : List Int} {f1 : Int} {α : Type} {d : Kd α} {e : Nat} {base : Nat} {ok : Nat → Prop} {v : Value} {xs : List α} (h : IsS56 w0 W g f0 f1) (ho : d.S e W base ok v xs) (ht : ∀ q, q ∈ e :: d.E → q ≠ 56) : d.S e W base (fun k => ok k ∧ k ≠ g) v xs := by
  obtain ⟨A0, c0, hb, hg, hr0⟩ := h
  exact Kd.S_types ho hb ht
theorem IsS56.own_neS {w0 W : World} {g : Nat} {f0 : List Int} {f1 : Int} {α : Type} {d : Kd α} {e : Nat} {base : Nat} {ok : Nat → Prop} {v : Value} {xs : List α} (h : IsS56 w0 W g f0 f1) (ho : d.S e W base ok v xs) (ht : e ≠ 56) : some g ≠ v.ownBlock := by
  obtain ⟨A0, c0, hb, hg, hr0⟩ := h
  exact Kd.S_ne ho hb ht
theorem IsS56.lt {w0 W : World} {g : Nat} {f0 : List Int} {f1 : Int} (h : IsS56 w0 W g f0 f1) : g < W.heap.size := by
  obtain ⟨A0, c0, hb, hg, hr0⟩ := h
  exact blk_lt hb
theorem IsS56.ge {w0 W : World} {g : Nat} {f0 : List Int} {f1 : Int} (h : IsS56 w0 W g f0 f1) : w0.heap.size ≤ g := by
  obtain ⟨A0, c0, hb, hg, hr0⟩ := h
  exact hg
theorem IsS56.ne_blk {w0 W : World} {g : Nat} {f0 : List Int} {f1 : Int} {a : Nat} {cs : Array Value} {t : TypeId} {fr : Nat × Nat} (h : IsS56 w0 W g f0 f1) (hb2 : W.heap[a]? = some (.cells cs t fr)) (ht : t ≠ 56) : g ≠ a := by
  obtain ⟨A0, c0, hb, hg, hr0⟩ := h
  rintro rfl
  rw [hb] at hb2
  injection hb2 with hb2
  injection hb2 with _ ht2
  exact ht ht2.symm
theorem IsS56.far {w0 W : World} {g : Nat} {f0 : List Int} {f1 : Int} {p : Addr} (h : IsS56 w0 W g f0 f1) (hne : g ≠ p.block) (u : Value) : IsS56 w0 (W.setCell p u) g f0 f1 := by
  obtain ⟨A0, c0, hb, hg, hr0⟩ := h
  exact ⟨A0, c0, blk_far hb hne u, hg, hr0⟩
theorem cellS56_0 {W : World} {g : Nat} {A0 : Option Addr} {c0 : Nat} {f0 : List Int} {f1 : Int} (h : W.heap[g]? = some (.cells #[.slice A0 f0.length c0, .int .i64 f1] 56 (0, 0))) : W.cell? ⟨g, 0, none⟩ = some (.slice A0 f0.length c0) := (blk_cell h 0).trans rfl
theorem cellS56_1 {W : World} {g : Nat} {A0 : Option Addr} {c0 : Nat} {f0 : List Int} {f1 : Int} (h : W.heap[g]? = some (.cells #[.slice A0 f0.length c0, .int .i64 f1] 56 (0, 0))) : W.cell? ⟨g, 1, none⟩ = some (.int .i64 f1) := (blk_cell h 1).trans rfl
theorem IsS56.set_1 {w0 W : World} {g : Nat} {f0 : List Int} {f1 : Int} (h : IsS56 w0 W g f0 f1) (x : Int) : IsS56 w0 (W.setCell ⟨g, 1, none⟩ (.int .i64 x)) g f0 x := by
  obtain ⟨A0, c0, hb, hg, hr0⟩ := h
  exact ⟨A0, c0, by simpa using blk_set hb 1 (.int .i64 x), hg, hr0⟩
theorem IsS56.new (w0 W : World) (A0 : Option Addr) (c0 : Nat) (f0 : List Int) (f1 : Int) (hB : Below w0.heap.size w0 W) (hr0 : Kd.C (Kd.int .u8) w0 A0 f0.length f0) : IsS56 w0 (W.alloc (.cells #[.slice A0 f0.length c0, .int .i64 f1] 56)) W.heap.size f0 f1 := ⟨A0, c0, by simpa using heap_alloc_new W _, hB.size, hr0⟩

/-! ### spec_l6Open: function 59 -/
def spec_l6Open.f (l0 : List Int) : Option (List Int × Int) := if (l0.length : Int) > 2000 then (if 2000 ≤ (l0.length : Int) then (some (l0.take 2000, 0)) else (none)) else (some (l0, 0))
set_option maxHeartbeats 8000000 in
set_option maxRecDepth 100000 in
theorem spec_l6Open.calls (A0 : Option Addr) (c0 : Nat) (l0 : List Int) (r1 : List Int) (r2 : Int) (w0 w : World) (hB : Below w0.heap.size w0 w) (hr0 : Kd.C (Kd.int .u8) w0 A0 l0.length l0) (hc0 : l0.length ≤ c0) (h : spec_l6Open.f l0 = some (r1, r2)) :
    Calls Try.prog 59 #[.slice A0 l0.length c0] w fun e w' => ∃ g_ : Nat, e = .returned (.pointer (some ⟨g_, 0, none⟩)) ∧ IsS56 w0 w' g_ r1 r2 ∧ Below w0.heap.size w0 w' ∧ Below w.heap.size w w' := by
  have hu56 := Try.underlying56
  have HR0 := Aside0.mk hr0
  have HC0 := Aside0.mk hc0
  clear hr0 hc0
  have HBW := Aside0.mk (Below.refl w.heap.size w)
  have HW0 := Aside0.mk hB.size
  have HB := Aside0.mk hB
  clear hB
  have H : (if (l0.length : Int) > 2000 then (if 2000 ≤ (l0.length : Int) then (some (l0.take 2000, 0)) else (none)) else (some (l0, 0))) = some (r1, r2) := h
  clear h
  by_cases c2 : (l0.length : Int) > 2000
  · rw [if_pos c2] at H
    have c2b0 : decide (2000 < (l0.length : Int)) = true := decide_eq_true c2
    have c2b1 : decide (2000 < l0.length) = true := decide_eq_true (by omega)
    clear c2
    by_cases c3 : 2000 ≤ (l0.length : Int)
    · rw [if_pos c3] at H
      have c3b0 := eq_true c3
      have c3b1 : decide (2000 ≤ (l0.length : Int)) = true := decide_eq_true c3
      clear c3
      simp only [Option.some.injEq, Prod.mk.injEq] at H
      obtain ⟨rfl, rfl⟩ := H
      obtain ⟨i04, hi04, _, hsz4, _⟩ := info_parts info5
      obtain ⟨hcut4, hA4, hC4⟩ := print_take_of (P := Try.prog) (Value.int .u8) 0 32 5 .i64 Try.underlying32 hi04 hsz4 A0 c0 l0 2000 (by omega) (of_decide_eq_true (by first | (with_reducible assumption) | assumption)) HC0.out
      have HR117 := Aside0.mk (Kd.C_of_reads (h1 := fun _ => rfl) (hA4 _ (Kd.reads_of_C HR0.out)))
      have HC117 := Aside0.mk hC4
      clear hA4 hC4 hi04 hsz4
      go_enter Try.func59, Try.ntmps59
      go_wp2_with (first | ((with_reducible refine gate_dst (N := 10) rfl ?_); refine box_event ?hg (N := 10) ?hd (cs := #[.slice A0 (l0.take 2000).length c0, .int .i64 0]) (t := 56) ?hr ?_; (case hd => rfl); (case hg => rfl); (case hr => first | (go_simp; done) | (go_simp; rfl)); intro gb118 hg w5 hbox hb; have n0_ := Aside0.mk (below_step HBW.out hb); have n1_ := Aside0.mk (below_step (by repeat (first | (with_reducible first | exact HB.out | apply below_alloc | apply pw_below_drewN | apply below_drew1) | exact HB.out)) hb); have n2_ := Aside0.mk (hbox); have n3_ := Aside0.mk ((by rw [hg]; exact (below_size (by repeat (first | (with_reducible first | exact HBW.out | apply below_alloc | apply pw_below_drewN | apply below_drew1) | exact HBW.out))) : w.heap.size ≤ gb118)); have n4_ := Aside0.mk ((Nat.le_trans HW0.out (by rw [hg]; exact (below_size (by repeat (first | (with_reducible first | exact HBW.out | apply below_alloc | apply pw_below_drewN | apply below_drew1) | exact HBW.out))) : w.heap.size ≤ gb118) : w0.heap.size ≤ gb118)); clear HBW; clear HB; have HBW := n0_; have HB := n1_; have BK118 := n2_; have GW118 := n3_; have GE118 := n4_; clear n0_ n1_ n2_ n3_ n4_; clear hb hbox hg))
      go_ret
      exact ⟨_, rfl, (show IsS56 w0 _ gb118 (l0.take 2000) 0 from ⟨_, _, by (with_reducible repeat (first | refine blk_drewN ?_ _ | refine blk_drew ?_ | refine blk_alloc ?_ _)); exact BK118.out, GE118.out, HR117.out⟩), by repeat (first | (with_reducible first | exact HB.out | apply below_alloc | apply pw_below_drewN | apply below_drew1 | refine below_set ?_ GE118.out) | exact HB.out), by repeat (first | (with_reducible first | exact HBW.out | apply below_alloc | apply pw_below_drewN | apply below_drew1 | refine below_set ?_ GW118.out) | exact HBW.out)⟩
    · rw [if_neg c3] at H
      exact absurd H (by simp)
  · rw [if_neg c2] at H
    have c2b0 : decide (2000 < (l0.length : Int)) = false := decide_eq_false c2
    have c2b1 : decide (2000 < l0.length) = false := decide_eq_false (by omega)
    clear c2
    simp only [Option.some.injEq, Prod.mk.injEq] at H
    obtain ⟨rfl, rfl⟩ := H
    go_enter Try.func59, Try.ntmps59
    go_wp2_with (first | ((with_reducible refine gate_dst (N := 10) rfl ?_); refine box_event ?hg (N := 10) ?hd (cs := #[.slice A0 l0.length c0, .int .i64 0]) (t := 56) ?hr ?_; (case hd => rfl); (case hg => rfl); (case hr => first | (go_simp; done) | (go_simp; rfl)); intro gb119 hg w6 hbox hb; have n0_ := Aside0.mk (below_step HBW.out hb); have n1_ := Aside0.mk (below_step (by repeat (first | (with_reducible first | exact HB.out | apply below_alloc | apply pw_below_drewN | apply below_drew1) | exact HB.out)) hb); have n2_ := Aside0.mk (hbox); have n3_ := Aside0.mk ((by rw [hg]; exact (below_size (by repeat (first | (with_reducible first | exact HBW.out | apply below_alloc | apply pw_below_drewN | apply below_drew1) | exact HBW.out))) : w.heap.size ≤ gb119)); have n4_ := Aside0.mk ((Nat.le_trans HW0.out (by rw [hg]; exact (below_size (by repeat (first | (with_reducible first | exact HBW.out | apply below_alloc | apply pw_below_drewN | apply below_drew1) | exact HBW.out))) : w.heap.size ≤ gb119) : w0.heap.size ≤ gb119)); clear HBW; clear HB; have HBW := n0_; have HB := n1_; have BK119 := n2_; have GW119 := n3_; have GE119 := n4_; clear n0_ n1_ n2_ n3_ n4_; clear hb hbox hg))
    go_ret
    exact ⟨_, rfl, (show IsS56 w0 _ gb119 l0 0 from ⟨_, _, by (with_reducible repeat (first | refine blk_drewN ?_ _ | refine blk_drew ?_ | refine blk_alloc ?_ _)); exact BK119.out, GE119.out, HR0.out⟩), by repeat (first | (with_reducible first | exact HB.out | apply below_alloc | apply pw_below_drewN | apply below_drew1 | refine below_set ?_ GE119.out) | exact HB.out), by repeat (first | (with_reducible first | exact HBW.out | apply below_alloc | apply pw_below_drewN | apply below_drew1 | refine below_set ?_ GW119.out) | exact HBW.out)⟩

/-! ### spec_l6Rd_pick: function 61 -/
def spec_l6Rd_pick.j0 : Nat → Int → Bool → List Int → Int → Option (Int × Int)
  | 0, _, _, _, _ => none
  | k + 1, x1, x24, x1000, x1001 => if x24 = true then (some (0, x1001)) else (if (wrap64 (x1001 - 1)) < (x1000.length : Int) then (if 0 ≤ (wrap64 (x1001 - 1)) then (if x1 = 0 then (none) else (some (Int.tmod (wrap64 (rd x1000 (wrap64 (x1001 - 1)))) x1, x1001))) else (none)) else (if (x1000.length : Int) = 0 then (none) else (if 0 ≤ (Int.tmod (wrap64 (x1001 - 1)) (x1000.length : Int)) then (if (Int.tmod (wrap64 (x1001 - 1)) (x1000.length : Int)) < (x1000.length : Int) then (if 0 ≤ (Int.tmod (wrap64 ((wrap64 ((wrap64 (x1001 - 1)) * 7)) + 3)) (x1000.length : Int)) then (if (Int.tmod (wrap64 ((wrap64 ((wrap64 (x1001 - 1)) * 7)) + 3)) (x1000.length : Int)) < (x1000.length : Int) then (if x1 = 0 then (none) else (some (Int.tmod (Go.bits .xor .i64 (wrap64 ((wrap64 ((wrap64 ((wrap64 ((wrap64 (rd x1000 (Int.tmod (wrap64 (x1001 - 1)) (x1000.length : Int)))) * 131)) + (wrap64 ((wrap64 (rd x1000 (Int.tmod (wrap64 ((wrap64 ((wrap64 (x1001 - 1)) * 7)) + 3)) (x1000.length : Int)))) * 1117)))) + (wrap64 ((wrap64 (x1001 - 1)) * 29)))) + (wrap64 ((wrap64 (Int.tdiv (wrap64 (x1001 - 1)) (x1000.length : Int))) * 53)))) (wrap64 (Int.tdiv (wrap64 ((wrap64 ((wrap64 ((wrap64 ((wrap64 (rd x1000 (Int.tmod (wrap64 (x1001 - 1)) (x1000.length : Int)))) * 131)) + (wrap64 ((wrap64 (rd x1000 (Int.tmod (wrap64 ((wrap64 ((wrap64 (x1001 - 1)) * 7)) + 3)) (x1000.length : Int)))) * 1117)))) + (wrap64 ((wrap64 (x1001 - 1)) * 29)))) + (wrap64 ((wrap64 (Int.tdiv (wrap64 (x1001 - 1)) (x1000.length : Int))) * 53)))) 64))) x1, x1001))) else (none)) else (none)) else (none)) else (none))))
def spec_l6Rd_pick.f (k : Nat) (s0_0 : List Int) (s0_1 : Int) (a1 : Int) : Option (Int × Int) := if a1 < 1 then (spec_l6Rd_pick.j0 k a1 true s0_0 (wrap64 (s0_1 + 1))) else (spec_l6Rd_pick.j0 k a1 ((s0_0.length : Int) == 0) s0_0 (wrap64 (s0_1 + 1)))
theorem spec_l6Rd_pick.mono_l : ∀ k, (∀ y0 y1 y2 y3, LeO (spec_l6Rd_pick.j0 k y0 y1 y2 y3) (spec_l6Rd_pick.j0 (k + 1) y0 y1 y2 y3))
  | 0 => fun _ _ _ _ r h => by simp [spec_l6Rd_pick.j0] at h
  | k + 1 => by
    have ih0 := spec_l6Rd_pick.mono_l k
    · intro y0 y1 y2 y3
      unfold spec_l6Rd_pick.j0
      repeat' first
      | (with_reducible exact ih0 _ _ _ _)
      | (with_reducible exact LeO.refl _)
      | (with_reducible exact LeO.none _)
      | (with_reducible refine LeO.ite ?_ ?_)
      | (with_reducible refine LeO.bind ?_ (fun _ => ?_))
      | exact ih0 _ _ _ _
      | exact LeO.none _
      | refine LeO.ite ?_ ?_
      | refine LeO.bind ?_ (fun _ => ?_)
theorem spec_l6Rd_pick.mono : ∀ a0 a1 a2 k, LeO (spec_l6Rd_pick.f k a0 a1 a2) (spec_l6Rd_pick.f (k + 1) a0 a1 a2) := by
  intro a0 a1 a2 k
  have ih0 := spec_l6Rd_pick.mono_l k
  unfold spec_l6Rd_pick.f
  repeat' first
      | (with_reducible exact ih0 _ _ _ _)
      | (with_reducible exact LeO.refl _)
      | (with_reducible exact LeO.none _)
      | (with_reducible refine LeO.ite ?_ ?_)
      | (with_reducible refine LeO.bind ?_ (fun _ => ?_))
      | exact ih0 _ _ _ _
      | exact LeO.none _
      | refine LeO.ite ?_ ?_
      | refine LeO.bind ?_ (fun _ => ?_)
set_option maxHeartbeats 8000000 in
set_option maxRecDepth 100000 in
theorem spec_l6Rd_pick.calls (k : Nat) (g : Nat) (s0_0 : List Int) (s0_1 : Int) (a1 : Int) (r1 : Int) (r2 : Int) (w0 w : World) (hI : IsS56 w0 w g s0_0 s0_1) (hB : Below w0.heap.size w0 w) (h : spec_l6Rd_pick.f k s0_0 s0_1 a1 = some (r1, r2)) :
    Calls Try.prog 61 #[.pointer (some ⟨g, 0, none⟩), .int .i64 a1] w fun e w' => e = .returned (.int .i64 r1) ∧ IsS56 w0 w' g s0_0 r2 ∧ Below w0.heap.size w0 w' ∧ KeepBut w w' g none := by
  have HI0 := Aside0.mk hI
  have HK := Aside0.mk (KeepBut.refl w g none)
  have HL := Aside0.mk hB.size
  clear hI
  have HW0 := Aside0.mk hB.size
  have HB := Aside0.mk hB
  clear hB
  have H : (if a1 < 1 then (spec_l6Rd_pick.j0 k a1 true s0_0 (wrap64 (s0_1 + 1))) else (spec_l6Rd_pick.j0 k a1 ((s0_0.length : Int) == 0) s0_0 (wrap64 (s0_1 + 1)))) = some (r1, r2) := h
  clear h
  have HC3 := Aside0.mk H
  clear H
  obtain ⟨ASz4_0, cSz4_0, HGz4, hgz4, HSz4_0⟩ := HI0.out
  have hcz4_0 := cellS56_0 HGz4
  have hcz4_1 := cellS56_1 HGz4
  have hfz4_1 := blk_frozen HGz4 1
  clear HGz4 hgz4
  go_enter Try.func61, Try.ntmps61
  go_upto_region 2 with (fail)
  repeat (go_quiet (fail); go_upto_region 2 with (fail))
  go_cut [24] (fun v24 wc => ∃ (kq : Nat) (x24_2 : Bool), v24 = .bool x24_2 ∧ Aside0 (spec_l6Rd_pick.j0 kq a1 x24_2 s0_0 (wrap64 (s0_1 + 1)) = some (r1, r2)) ∧ Aside0 (kq ≤ k) ∧ Aside0 (IsS56 w0 wc g s0_0 (wrap64 (s0_1 + 1))) ∧ Aside0 (KeepBut w wc g none) ∧ Aside0 (Below w0.heap.size w0 wc))
  case first =>
    have H := HC3.out
    clear HC3
    by_cases c5 : a1 < 1
    · rw [if_pos c5] at H
      have c5b0 : decide (a1 < 1) = true := decide_eq_true c5
      clear c5
      (first | rw [c5b0] | (simp only [i64_w, i32_w]; rw [c5b0]) | skip)
      have H' := Aside0.mk H
      clear H
      go_wp2
      repeat (go_quiet (fail); try go_wp2)
      go_meet
      case rel => exact ⟨_, (true), (by first | rfl | (simp; done) | (simp [*]; done)), H', ⟨by first | omega | exact Nat.le_refl _⟩, ⟨by repeat (first | (with_reducible first | exact HI0.out | apply IsS56.alloc | apply IsS56.drewN | apply IsS56.drew | apply IsS56.set_1) | exact HI0.out)⟩, ⟨by repeat (first | (with_reducible first | exact HK.out | apply KeepBut.set_ | apply keep_drewN | apply keep_drew | apply keep_alloc) | exact HK.out)⟩, ⟨by repeat (first | (with_reducible first | exact HB.out | apply below_alloc | apply pw_below_drewN | apply below_drew1 | refine below_set ?_ (IsS56.ge HI0.out)) | exact HB.out)⟩⟩
    · rw [if_neg c5] at H
      have c5b0 : decide (a1 < 1) = false := decide_eq_false c5
      clear c5
      (first | rw [c5b0] | (simp only [i64_w, i32_w]; rw [c5b0]) | skip)
      have H' := Aside0.mk H
      clear H
      obtain ⟨ASz6_0, cSz6_0, HGz6, hgz6, HSz6_0⟩ := HI0.out
      have hcz6_0 := cellS56_0 HGz6
      have hcz6_1 := cellS56_1 HGz6
      have hfz6_1 := blk_frozen HGz6 1
      clear HGz6 hgz6
      go_wp2
      repeat (go_quiet (fail); try go_wp2)
      go_meet
      case rel => exact ⟨_, (((s0_0.length : Int) == 0)), (by first | rfl | (simp; done) | (simp [*]; done)), H', ⟨by first | omega | exact Nat.le_refl _⟩, ⟨by repeat (first | (with_reducible first | exact HI0.out | apply IsS56.alloc | apply IsS56.drewN | apply IsS56.drew | apply IsS56.set_1) | exact HI0.out)⟩, ⟨by repeat (first | (with_reducible first | exact HK.out | apply KeepBut.set_ | apply keep_drewN | apply keep_drew | apply keep_alloc) | exact HK.out)⟩, ⟨by repeat (first | (with_reducible first | exact HB.out | apply below_alloc | apply pw_below_drewN | apply below_drew1 | refine below_set ?_ (IsS56.ge HI0.out)) | exact HB.out)⟩⟩
  case rest =>
    clear HC3
    try clear p2
    try clear c5
    try clear c5b0
    try clear c6
    try clear p6
    try clear hcz4_0
    try clear hcz4_1
    try clear hcz6_0
    try clear hcz6_1
    try clear hfz4_1
    try clear hfz6_1
    obtain ⟨kq, x24_2, rfl, HA, HJ2, HI0, HK, HB⟩ := hcut
    cases kq with
    | zero => exact absurd HA.out (by simp [spec_l6Rd_pick.j0])
    | succ kj2 =>
      have H := HA.out
      clear HA
      simp only [spec_l6Rd_pick.j0] at H
      by_cases c7 : x24_2 = true
      · subst c7
        have H1 : (some (0, (wrap64 (s0_1 + 1)))) = some (r1, r2) := by rw [if_pos rfl] at H; exact H
        clear H
        have H := H1
        clear H1
        simp only [Option.some.injEq, Prod.mk.injEq] at H
        obtain ⟨rfl, rfl⟩ := H
        go_wp2
        repeat (go_quiet (fail); try go_wp2)
        go_ret
        exact ⟨by first | rfl | (simp [errW_none, errW_some] <;> rfl) | (simp [*, errW_none, errW_some] <;> rfl), by repeat (first | (with_reducible first | exact HI0.out | apply IsS56.alloc | apply IsS56.drewN | apply IsS56.drew | apply IsS56.set_1) | exact HI0.out), by repeat (first | (with_reducible first | exact HB.out | apply below_alloc | apply pw_below_drewN | apply below_drew1 | refine below_set ?_ (IsS56.ge HI0.out)) | exact HB.out), by repeat (first | (with_reducible first | exact HK.out | apply KeepBut.set_ | apply keep_drewN | apply keep_drew | apply keep_alloc) | exact HK.out)⟩
      · replace c7 := Bool.eq_false_iff.mpr c7
        subst c7
        have H1 : (if (wrap64 ((wrap64 (s0_1 + 1)) - 1)) < (s0_0.length : Int) then (if 0 ≤ (wrap64 ((wrap64 (s0_1 + 1)) - 1)) then (if a1 = 0 then (none) else (some (Int.tmod (wrap64 (rd s0_0 (wrap64 ((wrap64 (s0_1 + 1)) - 1)))) a1, (wrap64 (s0_1 + 1))))) else (none)) else (if (s0_0.length : Int) = 0 then (none) else (if 0 ≤ (Int.tmod (wrap64 ((wrap64 (s0_1 + 1)) - 1)) (s0_0.length : Int)) then (if (Int.tmod (wrap64 ((wrap64 (s0_1 + 1)) - 1)) (s0_0.length : Int)) < (s0_0.length : Int) then (if 0 ≤ (Int.tmod (wrap64 ((wrap64 ((wrap64 ((wrap64 (s0_1 + 1)) - 1)) * 7)) + 3)) (s0_0.length : Int)) then (if (Int.tmod (wrap64 ((wrap64 ((wrap64 ((wrap64 (s0_1 + 1)) - 1)) * 7)) + 3)) (s0_0.length : Int)) < (s0_0.length : Int) then (if a1 = 0 then (none) else (some (Int.tmod (Go.bits .xor .i64 (wrap64 ((wrap64 ((wrap64 ((wrap64 ((wrap64 (rd s0_0 (Int.tmod (wrap64 ((wrap64 (s0_1 + 1)) - 1)) (s0_0.length : Int)))) * 131)) + (wrap64 ((wrap64 (rd s0_0 (Int.tmod (wrap64 ((wrap64 ((wrap64 ((wrap64 (s0_1 + 1)) - 1)) * 7)) + 3)) (s0_0.length : Int)))) * 1117)))) + (wrap64 ((wrap64 ((wrap64 (s0_1 + 1)) - 1)) * 29)))) + (wrap64 ((wrap64 (Int.tdiv (wrap64 ((wrap64 (s0_1 + 1)) - 1)) (s0_0.length : Int))) * 53)))) (wrap64 (Int.tdiv (wrap64 ((wrap64 ((wrap64 ((wrap64 ((wrap64 (rd s0_0 (Int.tmod (wrap64 ((wrap64 (s0_1 + 1)) - 1)) (s0_0.length : Int)))) * 131)) + (wrap64 ((wrap64 (rd s0_0 (Int.tmod (wrap64 ((wrap64 ((wrap64 ((wrap64 (s0_1 + 1)) - 1)) * 7)) + 3)) (s0_0.length : Int)))) * 1117)))) + (wrap64 ((wrap64 ((wrap64 (s0_1 + 1)) - 1)) * 29)))) + (wrap64 ((wrap64 (Int.tdiv (wrap64 ((wrap64 (s0_1 + 1)) - 1)) (s0_0.length : Int))) * 53)))) 64))) a1, (wrap64 (s0_1 + 1))))) else (none)) else (none)) else (none)) else (none)))) = some (r1, r2) := by rw [if_neg (show ¬ (false = true) by decide)] at H; exact H
        clear H
        have H := H1
        clear H1
        by_cases c8 : (wrap64 ((wrap64 (s0_1 + 1)) - 1)) < (s0_0.length : Int)
        · rw [if_pos c8] at H
          have c8b0 : decide ((wrap64 ((wrap64 (s0_1 + 1)) - 1)) < (s0_0.length : Int)) = true := decide_eq_true c8
          clear c8
          obtain ⟨ji9, hji9⟩ : ∃ j_ : Int, (wrap64 ((wrap64 (s0_1 + 1)) - 1)) = j_ := ⟨_, rfl⟩
          replace H : (if 0 ≤ (ji9) then (if a1 = 0 then (none) else (some (Int.tmod (wrap64 (rd s0_0 (ji9))) a1, (wrap64 (s0_1 + 1))))) else (none)) = some (r1, r2) := by first | (rw [hji9] at H; exact H) | (simp only [hji9] at H ⊢; exact H)
          (try rw [hji9] at c8b0)
          have hji9w : (IntKind.i64.wrap ((wrap64 (s0_1 + 1)) - 1)) = ji9 := (i64_w _).trans hji9
          by_cases c10 : 0 ≤ (ji9)
          · rw [if_pos c10] at H
            have c10b0 : decide (0 ≤ (ji9)) = true := decide_eq_true c10
            clear c10
            by_cases c11 : a1 = 0
            · rw [if_pos c11] at H
              exact absurd H (by simp)
            · rw [if_neg c11] at H
              have c11b0 : (a1 == 0) = false := beq_eq_false_iff_ne.mpr c11
              have c11b1 : (a1 != 0) = true := bne_iff_ne.mpr c11
              simp only [Option.some.injEq, Prod.mk.injEq] at H
              obtain ⟨rfl, rfl⟩ := H
              obtain ⟨ASz12_0, cSz12_0, HGz12, hgz12, HSz12_0⟩ := HI0.out
              have hcz12_0 := cellS56_0 HGz12
              have hcz12_1 := cellS56_1 HGz12
              have hfz12_1 := blk_frozen HGz12 1
              clear HGz12 hgz12
              have p120 : 0 ≤ ((ji9) : Int) := of_decide_eq_true (by first | (with_reducible assumption) | assumption)
              have q120 : (ji9) < (s0_0.length : Int) := of_decide_eq_true (by first | (with_reducible assumption) | assumption)
              obtain ⟨ad120, e120, hx120_0⟩ := Kd.at_int HSz12_0 (ji9) p120 q120
              cases e120
              replace hx120_0 := pw_cell_below HB.out hx120_0
              replace p120 := eq_true p120
              replace q120 := eq_true q120
              go_wp2
              repeat (go_quiet (fail); try go_wp2)
              go_ret
              exact ⟨by first | rfl | (simp [errW_none, errW_some] <;> rfl) | (simp only [← hji9]; first | rfl | (simp [errW_none, errW_some] <;> rfl)) | (simp [*, errW_none, errW_some] <;> rfl), by repeat (first | (with_reducible first | exact HI0.out | apply IsS56.alloc | apply IsS56.drewN | apply IsS56.drew | apply IsS56.set_1) | exact HI0.out), by repeat (first | (with_reducible first | exact HB.out | apply below_alloc | apply pw_below_drewN | apply below_drew1 | refine below_set ?_ (IsS56.ge HI0.out)) | exact HB.out), by repeat (first | (with_reducible first | exact HK.out | apply KeepBut.set_ | apply keep_drewN | apply keep_drew | apply keep_alloc) | exact HK.out)⟩
          · rw [if_neg c10] at H
            exact absurd H (by simp)
        · rw [if_neg c8] at H
          have c8b0 : decide ((wrap64 ((wrap64 (s0_1 + 1)) - 1)) < (s0_0.length : Int)) = false := decide_eq_false c8
          clear c8
          by_cases c13 : (s0_0.length : Int) = 0
          · rw [if_pos c13] at H
            exact absurd H (by simp)
          · rw [if_neg c13] at H
            have c13b0 : ((s0_0.length : Int) == 0) = false := beq_eq_false_iff_ne.mpr c13
            have c13b1 : ((s0_0.length : Int) != 0) = true := bne_iff_ne.mpr c13
            have c13b2 : ¬ (s0_0 = []) := fun h_ => c13 (by rw [h_]; rfl)
            obtain ⟨ji14, hji14⟩ : ∃ j_ : Int, (Int.tmod (wrap64 ((wrap64 (s0_1 + 1)) - 1)) (s0_0.length : Int)) = j_ := ⟨_, rfl⟩
            replace H : (if 0 ≤ (ji14) then (if (ji14) < (s0_0.length : Int) then (if 0 ≤ (Int.tmod (wrap64 ((wrap64 ((wrap64 ((wrap64 (s0_1 + 1)) - 1)) * 7)) + 3)) (s0_0.length : Int)) then (if (Int.tmod (wrap64 ((wrap64 ((wrap64 ((wrap64 (s0_1 + 1)) - 1)) * 7)) + 3)) (s0_0.length : Int)) < (s0_0.length : Int) then (if a1 = 0 then (none) else (some (Int.tmod (Go.bits .xor .i64 (wrap64 ((wrap64 ((wrap64 ((wrap64 ((wrap64 (rd s0_0 (ji14))) * 131)) + (wrap64 ((wrap64 (rd s0_0 (Int.tmod (wrap64 ((wrap64 ((wrap64 ((wrap64 (s0_1 + 1)) - 1)) * 7)) + 3)) (s0_0.length : Int)))) * 1117)))) + (wrap64 ((wrap64 ((wrap64 (s0_1 + 1)) - 1)) * 29)))) + (wrap64 ((wrap64 (Int.tdiv (wrap64 ((wrap64 (s0_1 + 1)) - 1)) (s0_0.length : Int))) * 53)))) (wrap64 (Int.tdiv (wrap64 ((wrap64 ((wrap64 ((wrap64 ((wrap64 (rd s0_0 (ji14))) * 131)) + (wrap64 ((wrap64 (rd s0_0 (Int.tmod (wrap64 ((wrap64 ((wrap64 ((wrap64 (s0_1 + 1)) - 1)) * 7)) + 3)) (s0_0.length : Int)))) * 1117)))) + (wrap64 ((wrap64 ((wrap64 (s0_1 + 1)) - 1)) * 29)))) + (wrap64 ((wrap64 (Int.tdiv (wrap64 ((wrap64 (s0_1 + 1)) - 1)) (s0_0.length : Int))) * 53)))) 64))) a1, (wrap64 (s0_1 + 1))))) else (none)) else (none)) else (none)) else (none)) = some (r1, r2) := by first | (rw [hji14] at H; exact H) | (simp only [hji14] at H ⊢; exact H)
            by_cases c15 : 0 ≤ (ji14)
            · rw [if_pos c15] at H
              have c15b0 : decide (0 ≤ (ji14)) = true := decide_eq_true c15
              clear c15
              by_cases c16 : (ji14) < (s0_0.length : Int)
              · rw [if_pos c16] at H
                have c16b0 : decide ((ji14) < (s0_0.length : Int)) = true := decide_eq_true c16
                clear c16
                obtain ⟨ji17, hji17⟩ : ∃ j_ : Int, (Int.tmod (wrap64 ((wrap64 ((wrap64 ((wrap64 (s0_1 + 1)) - 1)) * 7)) + 3)) (s0_0.length : Int)) = j_ := ⟨_, rfl⟩
                replace H : (if 0 ≤ (ji17) then (if (ji17) < (s0_0.length : Int) then (if a1 = 0 then (none) else (some (Int.tmod (Go.bits .xor .i64 (wrap64 ((wrap64 ((wrap64 ((wrap64 ((wrap64 (rd s0_0 (ji14))) * 131)) + (wrap64 ((wrap64 (rd s0_0 (ji17))) * 1117)))) + (wrap64 ((wrap64 ((wrap64 (s0_1 + 1)) - 1)) * 29)))) + (wrap64 ((wrap64 (Int.tdiv (wrap64 ((wrap64 (s0_1 + 1)) - 1)) (s0_0.length : Int))) * 53)))) (wrap64 (Int.tdiv (wrap64 ((wrap64 ((wrap64 ((wrap64 ((wrap64 (rd s0_0 (ji14))) * 131)) + (wrap64 ((wrap64 (rd s0_0 (ji17))) * 1117)))) + (wrap64 ((wrap64 ((wrap64 (s0_1 + 1)) - 1)) * 29)))) + (wrap64 ((wrap64 (Int.tdiv (wrap64 ((wrap64 (s0_1 + 1)) - 1)) (s0_0.length : Int))) * 53)))) 64))) a1, (wrap64 (s0_1 + 1))))) else (none)) else (none)) = some (r1, r2) := by first | (rw [hji17] at H; exact H) | (simp only [hji17] at H ⊢; exact H)
                by_cases c18 : 0 ≤ (ji17)
                · rw [if_pos c18] at H
                  have c18b0 : decide (0 ≤ (ji17)) = true := decide_eq_true c18
                  clear c18
                  by_cases c19 : (ji17) < (s0_0.length : Int)
                  · rw [if_pos c19] at H
                    have c19b0 : decide ((ji17) < (s0_0.length : Int)) = true := decide_eq_true c19
                    clear c19
                    by_cases c20 : a1 = 0
                    · rw [if_pos c20] at H
                      exact absurd H (by simp)
                    · rw [if_neg c20] at H
                      have c20b0 : (a1 == 0) = false := beq_eq_false_iff_ne.mpr c20
                      have c20b1 : (a1 != 0) = true := bne_iff_ne.mpr c20
                      simp only [Option.some.injEq, Prod.mk.injEq] at H
                      obtain ⟨rfl, rfl⟩ := H
                      obtain ⟨ASz21_0, cSz21_0, HGz21, hgz21, HSz21_0⟩ := HI0.out
                      have hcz21_0 := cellS56_0 HGz21
                      have hcz21_1 := cellS56_1 HGz21
                      have hfz21_1 := blk_frozen HGz21 1
                      clear HGz21 hgz21
                      have p121 : 0 ≤ ((ji14) : Int) := of_decide_eq_true (by first | (with_reducible assumption) | assumption)
                      have q121 : (ji14) < (s0_0.length : Int) := of_decide_eq_true (by first | (with_reducible assumption) | assumption)
                      obtain ⟨ad121, e121, hx121_0⟩ := Kd.at_int HSz21_0 (ji14) p121 q121
                      cases e121
                      replace hx121_0 := pw_cell_below HB.out hx121_0
                      replace p121 := eq_true p121
                      replace q121 := eq_true q121
                      have p122 : 0 ≤ ((ji17) : Int) := of_decide_eq_true (by first | (with_reducible assumption) | assumption)
                      have q122 : (ji17) < (s0_0.length : Int) := of_decide_eq_true (by first | (with_reducible assumption) | assumption)
                      obtain ⟨ad122, e122, hx122_0⟩ := Kd.at_int HSz21_0 (ji17) p122 q122
                      obtain rfl : ad121 = ad122 := (by injection e122)
                      replace hx122_0 := pw_cell_below HB.out hx122_0
                      replace p122 := eq_true p122
                      replace q122 := eq_true q122
                      go_wp2
                      repeat (go_quiet (fail); try go_wp2)
                      go_ret
                      exact ⟨by first | rfl | (simp [errW_none, errW_some] <;> rfl) | (simp only [← hji14, ← hji17]; first | rfl | (simp [errW_none, errW_some] <;> rfl)) | (simp [*, errW_none, errW_some] <;> rfl), by repeat (first | (with_reducible first | exact HI0.out | apply IsS56.alloc | apply IsS56.drewN | apply IsS56.drew | apply IsS56.set_1) | exact HI0.out), by repeat (first | (with_reducible first | exact HB.out | apply below_alloc | apply pw_below_drewN | apply below_drew1 | refine below_set ?_ (IsS56.ge HI0.out)) | exact HB.out), by repeat (first | (with_reducible first | exact HK.out | apply KeepBut.set_ | apply keep_drewN | apply keep_drew | apply keep_alloc) | exact HK.out)⟩
                  · rw [if_neg c19] at H
                    exact absurd H (by simp)
                · rw [if_neg c18] at H
                  exact absurd H (by simp)
              · rw [if_neg c16] at H
                exact absurd H (by simp)
            · rw [if_neg c15] at H
              exact absurd H (by simp)

end Go.Proofs.Ytfhehcgefbknbaa.PFnQuatNorm
