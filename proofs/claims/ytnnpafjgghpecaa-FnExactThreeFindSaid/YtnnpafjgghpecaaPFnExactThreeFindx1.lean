/- A function's Lean twin and its walk, written by a program of this session. -/
import Derived.Test.YtnnpafjgghpecaaPFnExactThreeFindx0
namespace Go.Proofs.Ytnnpafjgghpecaa.PFnExactThreeFind
open Go.RowKit Go.Proofs.YtnnpafjgghpecaaW.PrintWords Go.Proofs.YtnnpafjgghpecaaW.PrintLast Go.Proofs.YtnnpafjgghpecaaW.PrintMore
attribute [local go_sem] max2_int min2_int max_two min_two max_three min_three max_four min_four   -- for this text's walks alone
set_option linter.unusedVariables false
set_option linter.unusedSimpArgs false

/-! ### spec_l6In: function 68 -/
def spec_l6In.f (a0 : Int) (a1 : Int) (a2 : Int) : Option (Bool) := if a0 ≥ a1 then (some (decide (a0 ≤ a2))) else (some false)
set_option maxHeartbeats 8000000 in
set_option maxRecDepth 100000 in
theorem spec_l6In.calls (a0 : Int) (a1 : Int) (a2 : Int) (r : Bool) (w : World) (h : spec_l6In.f a0 a1 a2 = some r) :
    Calls Try.prog 68 #[.int .i64 a0, .int .i64 a1, .int .i64 a2] w fun e w' => e = .returned (.bool r) ∧ Drawn0 w w' := by
  have H : (if a0 ≥ a1 then (some (decide (a0 ≤ a2))) else (some false)) = some r := h
  clear h
  by_cases c4 : a0 ≥ a1
  · rw [if_pos c4] at H
    have c4b0 : decide (a1 ≤ a0) = true := decide_eq_true c4
    clear c4
    obtain rfl := Option.some.inj H
    go_enter Try.func68, Try.ntmps68
    go_wp2
    go_ret
    exact ⟨by first | rfl | (simp; done) | (simp [*]; done), by repeat (first | exact Drawn0.refl _ | apply Drawn0.step)⟩
  · rw [if_neg c4] at H
    have c4b0 : decide (a1 ≤ a0) = false := decide_eq_false c4
    clear c4
    obtain rfl := Option.some.inj H
    go_enter Try.func68, Try.ntmps68
    go_wp2
    go_ret
    exact ⟨by first | rfl | (simp; done) | (simp [*]; done), by repeat (first | exact Drawn0.refl _ | apply Drawn0.step)⟩

/-! ### spec_l8Sum: function 35 -/
def spec_l8Sum.f (a0 : Int) (a1 : Int) : Option (Bool) := (spec_l6In.f a0 a1 2000).bind fun t101 => (some t101)
set_option maxHeartbeats 8000000 in
set_option maxRecDepth 100000 in
theorem spec_l8Sum.calls (a0 : Int) (a1 : Int) (r : Bool) (w : World) (h : spec_l8Sum.f a0 a1 = some r) :
    Calls Try.prog 35 #[.int .i64 a0, .int .i64 a1] w fun e w' => e = .returned (.bool r) ∧ Drawn0 w w' := by
  have H : ((spec_l6In.f a0 a1 2000).bind fun t101 => (some t101)) = some r := h
  clear h
  replace H := Option.bind_eq_some_iff.mp H
  obtain ⟨t101, A30, H⟩ := H
  replace H : (some t101) = some r := H
  have A3 := Aside0.mk A30
  clear A30
  obtain rfl := Option.some.inj H
  go_enter Try.func35, Try.ntmps35
  go_wp2_with (first | ((with_reducible refine gate_callee (f := 68) rfl ?_); refine goesL_ (some 7) rfl rfl Try.func68 (by kernel_rfl) rfl #[.int .i64 a0, .int .i64 a1, .int .i64 2000] rfl (by (try simp only [List.map_toArray, List.map_cons, List.map_nil]); first | done | rfl | (simp only [List.length_drop, List.length_take]; rfl)) ?_; (with_reducible refine (spec_l6In.calls a0 a1 2000 t101 _ A3.out).mono ?_); rintro e w' ⟨rfl, ⟨nd, rfl⟩⟩; refine ⟨_, rfl, ?_⟩))
  go_ret
  exact ⟨by first | rfl | (simp; done) | (simp [*]; done), by repeat (first | exact Drawn0.refl _ | apply Drawn0.step)⟩

/-! ### spec_l5Root: function 36 -/
def spec_l5Root.l0 : Nat → Int → Int → Int → Option (Int)
  | 0, _, _, _ => none
  | k + 1, x0, x3, x4 => if x3 < x4 then (if (wrap64 ((wrap64 (Int.tdiv (wrap64 (x3 + x4)) 2)) * (wrap64 (Int.tdiv (wrap64 (x3 + x4)) 2)))) < x0 then (spec_l5Root.l0 k x0 (wrap64 ((wrap64 (Int.tdiv (wrap64 (x3 + x4)) 2)) + 1)) x4) else (spec_l5Root.l0 k x0 x3 (wrap64 (Int.tdiv (wrap64 (x3 + x4)) 2)))) else (if (wrap64 (x3 * x3)) = x0 then (some x3) else (some (-1)))
def spec_l5Root.f (k : Nat) (a0 : Int) : Option (Int) := spec_l5Root.l0 k a0 0 1048576
set_option maxHeartbeats 8000000 in
set_option maxRecDepth 100000 in
theorem spec_l5Root.calls (k : Nat) (a0 : Int) (r : Int) (w : World) (h : spec_l5Root.f k a0 = some r) :
    Calls Try.prog 36 #[.int .i64 a0] w fun e w' => e = .returned (.int .i64 r) ∧ Drawn0 w w' := by
  have H : (spec_l5Root.l0 k a0 0 1048576) = some r := h
  clear h
  have H' := Aside0.mk H
  clear H
  go_enter Try.func36, Try.ntmps36
  go_wp2
  go_loopg [3, 4] k (fun kq v3 v4 w' => ∃ (x3_1 : Int) (x4_1 : Int), v3 = .int .i64 x3_1 ∧ v4 = .int .i64 x4_1 ∧ Aside0 (spec_l5Root.l0 kq a0 x3_1 x4_1 = some r) ∧ Aside0 (kq ≤ k) ∧ Drawn0 w w')
  case atStart => exact ⟨(0), (1048576), (by first | rfl | (simp; done) | (simp [*]; done)), (by first | rfl | (simp; done) | (simp [*]; done)), H', ⟨Nat.le_refl _⟩, by repeat (first | exact Drawn0.refl _ | apply Drawn0.step)⟩
  case round =>
    clear H'
    obtain ⟨x3_1, x4_1, rfl, rfl, HA, HK1, ⟨m1, rfl⟩⟩ := hrel
    cases gk with
    | zero => exact absurd HA.out (by simp [spec_l5Root.l0])
    | succ k1 =>
      have H := HA.out
      clear HA
      simp only [spec_l5Root.l0] at H
      by_cases c2 : x3_1 < x4_1
      · rw [if_pos c2] at H
        have c2b0 : decide (x3_1 < x4_1) = true := decide_eq_true c2
        clear c2
        by_cases c3 : (wrap64 ((wrap64 (Int.tdiv (wrap64 (x3_1 + x4_1)) 2)) * (wrap64 (Int.tdiv (wrap64 (x3_1 + x4_1)) 2)))) < a0
        · rw [if_pos c3] at H
          have c3b0 : decide ((wrap64 ((wrap64 (Int.tdiv (wrap64 (x3_1 + x4_1)) 2)) * (wrap64 (Int.tdiv (wrap64 (x3_1 + x4_1)) 2)))) < a0) = true := decide_eq_true c3
          clear c3
          have H' := Aside0.mk H
          clear H
          go_wp2
          go_roundg k1
          case measure => have := HK1.out; omega
          case rel => exact ⟨(wrap64 ((wrap64 (Int.tdiv (wrap64 (x3_1 + x4_1)) 2)) + 1)), (x4_1), (by first | rfl | (simp; done) | (simp [*]; done)), (by first | rfl | (simp; done) | (simp [*]; done)), H', ⟨by have := HK1.out; omega⟩, by repeat (first | exact Drawn0.refl _ | apply Drawn0.step)⟩
        · rw [if_neg c3] at H
          have c3b0 : decide ((wrap64 ((wrap64 (Int.tdiv (wrap64 (x3_1 + x4_1)) 2)) * (wrap64 (Int.tdiv (wrap64 (x3_1 + x4_1)) 2)))) < a0) = false := decide_eq_false c3
          clear c3
          have H' := Aside0.mk H
          clear H
          go_wp2
          go_roundg k1
          case measure => have := HK1.out; omega
          case rel => exact ⟨(x3_1), (wrap64 (Int.tdiv (wrap64 (x3_1 + x4_1)) 2)), (by first | rfl | (simp; done) | (simp [*]; done)), (by first | rfl | (simp; done) | (simp [*]; done)), H', ⟨by have := HK1.out; omega⟩, by repeat (first | exact Drawn0.refl _ | apply Drawn0.step)⟩
      · rw [if_neg c2] at H
        have c2b0 : decide (x3_1 < x4_1) = false := decide_eq_false c2
        clear c2
        by_cases c4 : (wrap64 (x3_1 * x3_1)) = a0
        · rw [if_pos c4] at H
          have c4b0 : ((wrap64 (x3_1 * x3_1)) == a0) = true := beq_iff_eq.mpr c4
          have c4b1 : ((wrap64 (x3_1 * x3_1)) != a0) = false := bne_eq_false_iff_eq.mpr c4
          clear c4
          obtain rfl := Option.some.inj H
          go_wp2
          go_ret
          exact ⟨by first | rfl | (simp; done) | (simp [*]; done), by repeat (first | exact Drawn0.refl _ | apply Drawn0.step)⟩
        · rw [if_neg c4] at H
          have c4b0 : ((wrap64 (x3_1 * x3_1)) == a0) = false := beq_eq_false_iff_ne.mpr c4
          have c4b1 : ((wrap64 (x3_1 * x3_1)) != a0) = true := bne_iff_ne.mpr c4
          obtain rfl := Option.some.inj H
          go_wp2
          go_ret
          exact ⟨by first | rfl | (simp; done) | (simp [*]; done), by repeat (first | exact Drawn0.refl _ | apply Drawn0.step)⟩

/-! ### spec_ThreeFind: function 11 -/
mutual
def spec_ThreeFind.l0 : Nat → Int → Int → Option (List Int × Bool)
  | 0, _, _ => none
  | k + 1, x0, x4 => if (wrap64 ((wrap64 (3 * x4)) * x4)) ≤ x0 then ((spec_l8Sum.f x0 0).bind fun t102 => (spec_ThreeFind.j1 k x0 x4 t102)) else (spec_ThreeFind.j1 k x0 x4 false)
def spec_ThreeFind.j1 : Nat → Int → Int → Bool → Option (List Int × Bool)
  | 0, _, _, _ => none
  | k + 1, x0, x4, x16 => if x16 = true then (spec_ThreeFind.l1 k x0 x4 x4) else (some ((([] : List Int)), false))
def spec_ThreeFind.l1 : Nat → Int → Int → Int → Option (List Int × Bool)
  | 0, _, _, _ => none
  | k + 1, x0, x4, x5 => if (wrap64 ((wrap64 (2 * x5)) * x5)) ≤ (wrap64 (x0 - (wrap64 (x4 * x4)))) then ((spec_l5Root.f k (wrap64 ((wrap64 (x0 - (wrap64 (x4 * x4)))) - (wrap64 (x5 * x5))))).bind fun t106 => (if t106 ≥ 0 then (some ((([x4, x5, t106] : List Int)), true)) else (spec_ThreeFind.l1 k x0 x4 (wrap64 (x5 + 1))))) else (spec_ThreeFind.l0 k x0 (wrap64 (x4 + 1)))
end
def spec_ThreeFind.f (k : Nat) (a0 : Int) : Option (List Int × Bool) := spec_ThreeFind.l0 k a0 0
set_option maxHeartbeats 8000000 in
set_option maxRecDepth 100000 in
theorem spec_ThreeFind.calls (k : Nat) (a0 : Int) (r1 : List Int) (r2 : Bool) (w : World) (h : spec_ThreeFind.f k a0 = some (r1, r2)) :
    Calls Try.prog 11 #[.int .i64 a0] w fun e w' => ∃ v0_ : Value, e = .returned (.tuple #[v0_, .bool r2]) ∧ Kd.R (Kd.int .i64) 3 w' w.heap.size (fun _ => True) v0_ r1 ∧ Below w.heap.size w w' := by
  have HB := Aside0.mk (Below.refl w.heap.size w)
  have H : (spec_ThreeFind.l0 k a0 0) = some (r1, r2) := h
  clear h
  have H' := Aside0.mk H
  clear H
  go_enter Try.func11, Try.ntmps11
  go_wp2
  go_loopg [4] k (fun kq v4 w' => ∃ (x4_1 : Int), v4 = .int .i64 x4_1 ∧ Aside0 (spec_ThreeFind.l0 kq a0 x4_1 = some (r1, r2)) ∧ Aside0 (kq ≤ k) ∧ Aside0 (Below w.heap.size w w'))
  case atStart => exact ⟨(0), (by first | rfl | (simp; done) | (simp [*]; done)), H', ⟨Nat.le_refl _⟩, ⟨by repeat (first | (with_reducible first | exact HB.out | apply below_alloc | apply pw_below_drewN | apply below_drew1) | exact HB.out)⟩⟩
  case round =>
    clear H'
    try clear c1
    obtain ⟨x4_1, rfl, HA, HK1, HB⟩ := hrel
    cases gk with
    | zero => exact absurd HA.out (by simp [spec_ThreeFind.l0])
    | succ k1 =>
      have H := HA.out
      clear HA
      simp only [spec_ThreeFind.l0] at H
      have HC2 := Aside0.mk H
      clear H
      go_upto_region 2 with (fail)
      go_cut [16] (fun v16 wc => ∃ (kq : Nat) (x16_1 : Bool), v16 = .bool x16_1 ∧ Aside0 (spec_ThreeFind.j1 kq a0 x4_1 x16_1 = some (r1, r2)) ∧ Aside0 (kq ≤ k1) ∧ Aside0 (Below w.heap.size w wc))
      case first =>
        have H := HC2.out
        clear HC2
        by_cases c3 : (wrap64 ((wrap64 (3 * x4_1)) * x4_1)) ≤ a0
        · rw [if_pos c3] at H
          have c3b0 : decide ((wrap64 ((wrap64 (3 * x4_1)) * x4_1)) ≤ a0) = true := decide_eq_true c3
          clear c3
          (first | rw [c3b0] | (simp only [i64_w, i32_w]; rw [c3b0]) | skip)
          replace H := Option.bind_eq_some_iff.mp H
          obtain ⟨t102, A40, H⟩ := H
          replace H : (spec_ThreeFind.j1 k1 a0 x4_1 t102) = some (r1, r2) := H
          have A4 := Aside0.mk A40
          clear A40
          have H' := Aside0.mk H
          clear H
          go_wp2_with (first | (go_at_call 35; (with_reducible refine (spec_l8Sum.calls a0 0 t102 _ A4.out).mono ?_); rintro e w' ⟨rfl, ⟨nd, rfl⟩⟩))
          go_meet
          case rel => exact ⟨_, (t102), (by first | rfl | (simp; done) | (simp [*]; done)), H', ⟨by have := HK1.out; first | omega | exact Nat.le_refl _⟩, ⟨by repeat (first | (with_reducible first | exact HB.out | apply below_alloc | apply pw_below_drewN | apply below_drew1) | exact HB.out)⟩⟩
        · rw [if_neg c3] at H
          have c3b0 : decide ((wrap64 ((wrap64 (3 * x4_1)) * x4_1)) ≤ a0) = false := decide_eq_false c3
          clear c3
          (first | rw [c3b0] | (simp only [i64_w, i32_w]; rw [c3b0]) | skip)
          have H' := Aside0.mk H
          clear H
          go_wp2
          go_meet
          case rel => exact ⟨_, (false), (by first | rfl | (simp; done) | (simp [*]; done)), H', ⟨by have := HK1.out; first | omega | exact Nat.le_refl _⟩, ⟨by repeat (first | (with_reducible first | exact HB.out | apply below_alloc | apply pw_below_drewN | apply below_drew1) | exact HB.out)⟩⟩
      case rest =>
        clear HC2
        try clear c1
        try clear p2
        try clear c3
        try clear c3b0
        obtain ⟨kq, x16_1, rfl, HA, HJ1, HB⟩ := hcut
        cases kq with
        | zero => exact absurd HA.out (by simp [spec_ThreeFind.j1])
        | succ kj1 =>
          have H := HA.out
          clear HA
          simp only [spec_ThreeFind.j1] at H
          by_cases c5 : x16_1 = true
          · subst c5
            have H1 : (spec_ThreeFind.l1 kj1 a0 x4_1 x4_1) = some (r1, r2) := by rw [if_pos rfl] at H; exact H
            clear H
            have H := H1
            clear H1
            have H' := Aside0.mk H
            clear H
            go_wp2
            go_loopg [5] kj1 (fun kq v5 w' => ∃ (x5_3 : Int), v5 = .int .i64 x5_3 ∧ Aside0 (spec_ThreeFind.l1 kq a0 x4_1 x5_3 = some (r1, r2)) ∧ Aside0 (kq ≤ kj1) ∧ Aside0 (Below w.heap.size w w'))
            case atStart => exact ⟨(x4_1), (by first | rfl | (simp; done) | (simp [*]; done)), H', ⟨Nat.le_refl _⟩, ⟨by repeat (first | (with_reducible first | exact HB.out | apply below_alloc | apply pw_below_drewN | apply below_drew1) | exact HB.out)⟩⟩
            case round =>
              clear H'
              try clear c1
              try clear p2
              try clear c3
              try clear c3b0
              try clear c5
              try clear p2
              obtain ⟨x5_3, rfl, HA, HK3, HB⟩ := hrel
              cases gk with
              | zero => exact absurd HA.out (by simp [spec_ThreeFind.l1])
              | succ k3 =>
                have H := HA.out
                clear HA
                simp only [spec_ThreeFind.l1] at H
                by_cases c6 : (wrap64 ((wrap64 (2 * x5_3)) * x5_3)) ≤ (wrap64 (a0 - (wrap64 (x4_1 * x4_1))))
                · rw [if_pos c6] at H
                  have c6b0 : decide ((wrap64 ((wrap64 (2 * x5_3)) * x5_3)) ≤ (wrap64 (a0 - (wrap64 (x4_1 * x4_1))))) = true := decide_eq_true c6
                  clear c6
                  replace H := Option.bind_eq_some_iff.mp H
                  obtain ⟨t106, A70, H⟩ := H
                  replace H : (if t106 ≥ 0 then (some ((([x4_1, x5_3, t106] : List Int)), true)) else (spec_ThreeFind.l1 k3 a0 x4_1 (wrap64 (x5_3 + 1)))) = some (r1, r2) := H
                  have A7 := Aside0.mk A70
                  clear A70
                  by_cases c8 : t106 ≥ 0
                  · rw [if_pos c8] at H
                    have c8b0 : decide (0 ≤ t106) = true := decide_eq_true c8
                    clear c8
                    obtain ⟨y107, hy107⟩ : ∃ y_ : List Int, y_ = (([x4_1, x5_3, t106] : List Int)) := ⟨_, rfl⟩
                    replace H : (some (y107, true)) = some (r1, r2) := by first | (rw [hy107]; with_reducible exact H) | (have H2_ := (Option.bind_some _ _).symm.trans H; rw [hy107]; with_reducible exact H2_) | (have H2_ := (Option.bind_some _ _).symm.trans H; with_reducible exact H2_) | with_reducible exact H | (rw [hy107]; exact H) | exact H
                    have Ny107 := Aside0.mk hy107
                    clear hy107
                    simp only [Option.some.injEq, Prod.mk.injEq] at H
                    obtain ⟨rfl, rfl⟩ := H
                    go_wp2_with (first | ((with_reducible refine gate_callee (f := 36) rfl ?_); refine goesL_ (some 41) rfl rfl Try.func36 (by kernel_rfl) rfl #[.int .i64 (wrap64 ((wrap64 (a0 - (wrap64 (x4_1 * x4_1)))) - (wrap64 (x5_3 * x5_3))))] rfl (by (try simp only [List.map_toArray, List.map_cons, List.map_nil]); first | done | rfl | (simp only [List.length_drop, List.length_take]; rfl)) ?_; (with_reducible refine (spec_l5Root.calls k3 (wrap64 ((wrap64 (a0 - (wrap64 (x4_1 * x4_1)))) - (wrap64 (x5_3 * x5_3)))) t106 _ A7.out).mono ?_); rintro e w' ⟨rfl, ⟨nd, rfl⟩⟩; refine ⟨_, rfl, ?_⟩) | ((with_reducible refine gate_dst (N := 47) rfl ?_); refine Kd.R_lit (Kd.int .i64) _ 3 ?hg (N := 47) ?hd (xs := ([x4_1, x5_3, t106] : List Int)) (inner := [.int .i64 x4_1, .int .i64 x5_3, .int .i64 t106]) (ok := fun _ => True) (okp := fun _ => True) ?hr ?hp (fun _ hk => hk) trivial (Below.refl _ _) (Nat.le_refl _) (by simp) ?_; (case hd => rfl); (case hg => rfl); (case hr => first | (go_simp; done) | (go_simp; rfl)); (case hp => exact (Reps.one (show Kd.M (Kd.int .i64) _ _ _ x4_1 [.int .i64 x4_1] from rfl) (Reps.one (show Kd.M (Kd.int .i64) _ _ _ x5_3 [.int .i64 x5_3] from rfl) (Reps.one (show Kd.M (Kd.int .i64) _ _ _ t106 [.int .i64 t106] from rfl) (Reps.none _ _))))); intro v108 w9 ho10 hb hg_ hnew_; clear hg_ hnew_; (first | rw [← Ny107.out] at ho10 | (simp only [Int.reduceToNat] at ho10; rw [← Ny107.out] at ho10)); have n0_ := Aside0.mk (Kd.R_lower ho10 (below_size (by repeat (first | (with_reducible first | exact HB.out | apply below_alloc | apply pw_below_drewN | apply below_drew1) | exact HB.out)))); have n1_ := Aside0.mk (below_step (by repeat (first | (with_reducible first | exact HB.out | apply below_alloc | apply pw_below_drewN | apply below_drew1) | exact HB.out)) hb); clear HB; have HO109 := n0_; have HB := n1_; clear n0_ n1_; clear hb ho10))
                    go_ret2
                    exact ⟨_, by first | rfl | (simp [errW_none, errW_some] <;> rfl) | (simp [*, errW_none, errW_some] <;> rfl), by (with_reducible repeat (first | apply Kd.R_alloc | apply Kd.R_drewN | apply Kd.R_drew)); exact HO109.out, by repeat (first | (with_reducible first | exact HB.out | apply below_alloc | apply pw_below_drewN | apply below_drew1) | exact HB.out)⟩
                  · rw [if_neg c8] at H
                    have c8b0 : decide (0 ≤ t106) = false := decide_eq_false c8
                    clear c8
                    have H' := Aside0.mk H
                    clear H
                    go_wp2_with (first | ((with_reducible refine gate_callee (f := 36) rfl ?_); refine goesL_ (some 41) rfl rfl Try.func36 (by kernel_rfl) rfl #[.int .i64 (wrap64 ((wrap64 (a0 - (wrap64 (x4_1 * x4_1)))) - (wrap64 (x5_3 * x5_3))))] rfl (by (try simp only [List.map_toArray, List.map_cons, List.map_nil]); first | done | rfl | (simp only [List.length_drop, List.length_take]; rfl)) ?_; (with_reducible refine (spec_l5Root.calls k3 (wrap64 ((wrap64 (a0 - (wrap64 (x4_1 * x4_1)))) - (wrap64 (x5_3 * x5_3)))) t106 _ A7.out).mono ?_); rintro e w' ⟨rfl, ⟨nd, rfl⟩⟩; refine ⟨_, rfl, ?_⟩))
                    go_roundg k3
                    case measure => have := HK1.out; have := HJ1.out; have := HK3.out; omega
                    case rel => exact ⟨(wrap64 (x5_3 + 1)), (by first | rfl | (simp; done) | (simp [*]; done)), H', ⟨by have := HK1.out; have := HJ1.out; have := HK3.out; omega⟩, ⟨by repeat (first | (with_reducible first | exact HB.out | apply below_alloc | apply pw_below_drewN | apply below_drew1) | exact HB.out)⟩⟩
                · rw [if_neg c6] at H
                  have c6b0 : decide ((wrap64 ((wrap64 (2 * x5_3)) * x5_3)) ≤ (wrap64 (a0 - (wrap64 (x4_1 * x4_1))))) = false := decide_eq_false c6
                  clear c6
                  have H' := Aside0.mk H
                  clear H
                  go_wp2
                  go_roundg k3
                  case measure => have := HK1.out; have := HJ1.out; have := HK3.out; omega
                  case rel => exact ⟨(wrap64 (x4_1 + 1)), (by first | rfl | (simp; done) | (simp [*]; done)), H', ⟨by have := HK1.out; have := HJ1.out; have := HK3.out; omega⟩, ⟨by repeat (first | (with_reducible first | exact HB.out | apply below_alloc | apply pw_below_drewN | apply below_drew1) | exact HB.out)⟩⟩
          · replace c5 := Bool.eq_false_iff.mpr c5
            subst c5
            have H1 : (some ((([] : List Int)), false)) = some (r1, r2) := by rw [if_neg (show ¬ (false = true) by decide)] at H; exact H
            clear H
            have H := H1
            clear H1
            obtain ⟨y103, hy103⟩ : ∃ y_ : List Int, y_ = (([] : List Int)) := ⟨_, rfl⟩
            replace H : (some (y103, false)) = some (r1, r2) := by first | (rw [hy103]; with_reducible exact H) | (have H2_ := (Option.bind_some _ _).symm.trans H; rw [hy103]; with_reducible exact H2_) | (have H2_ := (Option.bind_some _ _).symm.trans H; with_reducible exact H2_) | with_reducible exact H | (rw [hy103]; exact H) | exact H
            have Ny103 := Aside0.mk hy103
            clear hy103
            simp only [Option.some.injEq, Prod.mk.injEq] at H
            obtain ⟨rfl, rfl⟩ := H
            go_wp2_with (first | ((with_reducible refine gate_dst (N := 48) rfl ?_); refine Kd.R_lit (Kd.int .i64) _ 3 ?hg (N := 48) ?hd (xs := ([] : List Int)) (inner := []) (ok := fun _ => True) (okp := fun _ => True) ?hr ?hp (fun _ hk => hk) trivial (Below.refl _ _) (Nat.le_refl _) (by simp) ?_; (case hd => rfl); (case hg => rfl); (case hr => first | (go_simp; done) | (go_simp; rfl)); (case hp => exact (Reps.none _ _)); intro v104 w11 ho12 hb hg_ hnew_; clear hg_ hnew_; (first | rw [← Ny103.out] at ho12 | (simp only [Int.reduceToNat] at ho12; rw [← Ny103.out] at ho12)); have n0_ := Aside0.mk (Kd.R_lower ho12 (below_size (by repeat (first | (with_reducible first | exact HB.out | apply below_alloc | apply pw_below_drewN | apply below_drew1) | exact HB.out)))); have n1_ := Aside0.mk (below_step (by repeat (first | (with_reducible first | exact HB.out | apply below_alloc | apply pw_below_drewN | apply below_drew1) | exact HB.out)) hb); clear HB; have HO105 := n0_; have HB := n1_; clear n0_ n1_; clear hb ho12))
            go_ret2
            exact ⟨_, by first | rfl | (simp [errW_none, errW_some] <;> rfl) | (simp [*, errW_none, errW_some] <;> rfl), by (with_reducible repeat (first | apply Kd.R_alloc | apply Kd.R_drewN | apply Kd.R_drew)); exact HO105.out, by repeat (first | (with_reducible first | exact HB.out | apply below_alloc | apply pw_below_drewN | apply below_drew1) | exact HB.out)⟩

/-! ### impl_squareRoot: function 70 -/
def impl_squareRoot.l0 : Nat → Int → Int → Int → Option (Int × Bool)
  | 0, _, _, _ => none
  | k + 1, x0, x4, x5 => if x5 > 0 then (if (wrap64 ((wrap64 (x4 + x5)) * (wrap64 (x4 + x5)))) ≤ x0 then (impl_squareRoot.l0 k x0 (wrap64 (x4 + x5)) (wrap64 (Int.tdiv x5 2))) else (impl_squareRoot.l0 k x0 x4 (wrap64 (Int.tdiv x5 2)))) else (some (x4, ((wrap64 (x4 * x4)) == x0)))
def impl_squareRoot.f (k : Nat) (a0 : Int) : Option (Int × Bool) := if a0 < 0 then (some (0, false)) else (impl_squareRoot.l0 k a0 0 1073741824)
set_option maxHeartbeats 8000000 in
set_option maxRecDepth 100000 in
theorem impl_squareRoot.calls (k : Nat) (a0 : Int) (r1 : Int) (r2 : Bool) (w : World) (h : impl_squareRoot.f k a0 = some (r1, r2)) :
    Calls Try.prog 70 #[.int .i64 a0] w fun e w' => e = .returned (.tuple #[.int .i64 r1, .bool r2]) ∧ Drawn0 w w' := by
  have H : (if a0 < 0 then (some (0, false)) else (impl_squareRoot.l0 k a0 0 1073741824)) = some (r1, r2) := h
  clear h
  by_cases c2 : a0 < 0
  · rw [if_pos c2] at H
    have c2b0 : decide (a0 < 0) = true := decide_eq_true c2
    clear c2
    simp only [Option.some.injEq, Prod.mk.injEq] at H
    obtain ⟨rfl, rfl⟩ := H
    go_enter Try.func70, Try.ntmps70
    go_wp2
    go_ret2
    exact ⟨by first | rfl | (simp; done) | (simp [*]; done), by repeat (first | exact Drawn0.refl _ | apply Drawn0.step)⟩
  · rw [if_neg c2] at H
    have c2b0 : decide (a0 < 0) = false := decide_eq_false c2
    clear c2
    have H' := Aside0.mk H
    clear H
    go_enter Try.func70, Try.ntmps70
    go_wp2
    go_loopg [4, 5] k (fun kq v4 v5 w' => ∃ (x4_1 : Int) (x5_1 : Int), v4 = .int .i64 x4_1 ∧ v5 = .int .i64 x5_1 ∧ Aside0 (impl_squareRoot.l0 kq a0 x4_1 x5_1 = some (r1, r2)) ∧ Aside0 (kq ≤ k) ∧ Drawn0 w w')
    case atStart => exact ⟨(0), (1073741824), (by first | rfl | (simp; done) | (simp [*]; done)), (by first | rfl | (simp; done) | (simp [*]; done)), H', ⟨Nat.le_refl _⟩, by repeat (first | exact Drawn0.refl _ | apply Drawn0.step)⟩
    case round =>
      clear H'
      try clear c2
      try clear c2b0
      try clear p2
      obtain ⟨x4_1, x5_1, rfl, rfl, HA, HK1, ⟨m1, rfl⟩⟩ := hrel
      cases gk with
      | zero => exact absurd HA.out (by simp [impl_squareRoot.l0])
      | succ k1 =>
        have H := HA.out
        clear HA
        simp only [impl_squareRoot.l0] at H
        by_cases c3 : x5_1 > 0
        · rw [if_pos c3] at H
          have c3b0 : decide (0 < x5_1) = true := decide_eq_true c3
          clear c3
          by_cases c4 : (wrap64 ((wrap64 (x4_1 + x5_1)) * (wrap64 (x4_1 + x5_1)))) ≤ a0
          · rw [if_pos c4] at H
            have c4b0 : decide ((wrap64 ((wrap64 (x4_1 + x5_1)) * (wrap64 (x4_1 + x5_1)))) ≤ a0) = true := decide_eq_true c4
            clear c4
            have H' := Aside0.mk H
            clear H
            go_wp2
            go_roundg k1
            case measure => have := HK1.out; omega
            case rel => exact ⟨(wrap64 (x4_1 + x5_1)), (wrap64 (Int.tdiv x5_1 2)), (by first | rfl | (simp; done) | (simp [*]; done)), (by first | rfl | (simp; done) | (simp [*]; done)), H', ⟨by have := HK1.out; omega⟩, by repeat (first | exact Drawn0.refl _ | apply Drawn0.step)⟩
          · rw [if_neg c4] at H
            have c4b0 : decide ((wrap64 ((wrap64 (x4_1 + x5_1)) * (wrap64 (x4_1 + x5_1)))) ≤ a0) = false := decide_eq_false c4
            clear c4
            have H' := Aside0.mk H
            clear H
            go_wp2
            go_roundg k1
            case measure => have := HK1.out; omega
            case rel => exact ⟨(x4_1), (wrap64 (Int.tdiv x5_1 2)), (by first | rfl | (simp; done) | (simp [*]; done)), (by first | rfl | (simp; done) | (simp [*]; done)), H', ⟨by have := HK1.out; omega⟩, by repeat (first | exact Drawn0.refl _ | apply Drawn0.step)⟩
        · rw [if_neg c3] at H
          have c3b0 : decide (0 < x5_1) = false := decide_eq_false c3
          clear c3
          simp only [Option.some.injEq, Prod.mk.injEq] at H
          obtain ⟨rfl, rfl⟩ := H
          go_wp2
          go_ret2
          exact ⟨by first | rfl | (simp; done) | (simp [*]; done), by repeat (first | exact Drawn0.refl _ | apply Drawn0.step)⟩

/-! ### impl_squaresOf: function 37 -/
section
open Locg
theorem squareRoot_l (n : Int) (h0 : 0 ≤ n) (hn : n < 4611686018427387904) : ∀ (d : Nat) (x bit : Int) (k : Nat), 0 ≤ x → x * x ≤ n → n < (x + 2 * bit) * (x + 2 * bit) → x + 2 * bit ≤ 2147483648 → bit = 2 ^ d → d + 1 < k →
    impl_squareRoot.l0 k n x bit = some (isq n, isq n * isq n == n) := by
  intro d
  have stop : ∀ (x : Int) (k : Nat), 0 ≤ x → x * x ≤ n → n < (x + 1) * (x + 1) → 0 < k → impl_squareRoot.l0 k n x 0 = some (isq n, isq n * isq n == n) := by
    intro x k hx hl hg hk
    obtain ⟨k, rfl⟩ : ∃ m, k = m + 1 := ⟨k - 1, by omega⟩
    simp only [impl_squareRoot.l0]
    have hb : x < 2147483648 := by
      rcases Int.lt_or_le x 2147483648 with h | h
      · exact h
      · have := sq_le (by omega) h; omega
    have hm : wrap64 (x * x) = x * x := w64' (sq_nonneg x) (by omega)
    rw [if_neg (by omega), hm, isq_unique hx hl hg]
  induction d with
  | zero =>
    intro x bit k hx hl hg hB hb hk
    obtain ⟨k, rfl⟩ : ∃ m, k = m + 1 := ⟨k - 1, by omega⟩
    obtain rfl : bit = 1 := by simpa using hb
    simp only [impl_squareRoot.l0]
    have hs := sq_le (a := x + 1) (b := 2147483648) (by omega) (by omega)
    rw [if_pos (by omega), w64 (x := x + 1) (by omega) (by omega), w64' (x := (x + 1) * (x + 1)) (sq_nonneg _) (by omega)]
    have e : wrap64 (Int.tdiv 1 2) = 0 := by decide +kernel
    rw [e]
    by_cases c : (x + 1) * (x + 1) ≤ n
    · rw [if_pos c]
      exact stop _ _ (by omega) c (by rw [show x + 1 + 1 = x + 2 * 1 from by omega]; exact hg) (by omega)
    · rw [if_neg c]
      exact stop _ _ hx hl (by omega) (by omega)
  | succ d ih =>
    intro x bit k hx hl hg hB hb hk
    obtain ⟨k, rfl⟩ : ∃ m, k = m + 1 := ⟨k - 1, by omega⟩
    have hp : (0 : Int) < 2 ^ d := Int.pow_pos (by omega)
    obtain ⟨c2, hc2⟩ : ∃ c2 : Int, c2 = 2 ^ d := ⟨_, rfl⟩
    have hb2 : bit = 2 * c2 := by rw [hb, Int.pow_succ, hc2]; omega
    subst hb2
    simp only [impl_squareRoot.l0]
    have hs := sq_le (a := x + 2 * c2) (b := 2147483648) (by omega) (by omega)
    have e : wrap64 (Int.tdiv (2 * c2) 2) = c2 := by rw [tdiv2 (by omega), w64 (by omega) (by omega)]; omega
    rw [if_pos (by omega), w64 (x := x + 2 * c2) (by omega) (by omega), w64' (x := (x + 2 * c2) * (x + 2 * c2)) (sq_nonneg _) (by omega), e]
    by_cases c : (x + 2 * c2) * (x + 2 * c2) ≤ n
    · rw [if_pos c]
      exact ih _ _ _ (by omega) c (by rw [show x + 2 * c2 + 2 * c2 = x + 2 * (2 * c2) from by omega]; exact hg) (by omega) hc2 (by omega)
    · rw [if_neg c]
      exact ih _ _ _ hx hl (by omega) (by omega) hc2 (by omega)
theorem squareRoot (n : Int) (h0 : 0 ≤ n) (hn : n < 4611686018427387904) (k : Nat) (hk : 31 < k) : impl_squareRoot.f k n = some (isq n, isq n * isq n == n) := by
  unfold impl_squareRoot.f
  rw [if_neg (by omega)]
  exact squareRoot_l n h0 hn 30 0 1073741824 k (by omega) (by omega) (by omega) (by omega) (by decide) (by omega)
/-! ### the first squares with a sum: the closure and its maker -/
theorem sqInfo : (Try.prog.info? 3).map (fun i => (i.zero, i.size, i.bytes)) = some (some (.int .i64 0), 1, 8) := by kernel_rfl
def SqInv (Bm Bl Bt : Nat) (many : Int) (xs : List Int) (w : World) : Prop :=
  ∃ v, w.heap[Bl]? = some (.cells #[v] 22 (0, 0)) ∧ w.heap[Bm]? = some (.cells #[.int .i64 many] 3 (0, 0)) ∧
    w.heap[Bt]? = some (.cells #[.func (.func 69) #[] #[.pointer (some ⟨Bl, 0, none⟩), .pointer (some ⟨Bm, 0, none⟩), .pointer (some ⟨Bt, 0, none⟩)]] 42 (0, 0)) ∧
    w.ownsRow (Bm + 1) 3 1 v xs.length (nums .i64 xs)
theorem SqInv.drewN {Bm Bl Bt : Nat} {many : Int} {xs : List Int} {w : World} (h : SqInv Bm Bl Bt many xs w) (n : Nat) : SqInv Bm Bl Bt many xs (w.drewN n) := h
theorem sq_apart {w : World} {b : Nat} {v : Value} {xs : List Value} {g t : Nat} {cells : Array Value} (hown : w.ownsRow b 3 1 v xs.length xs) (hg : w.heap[g]? = some (.cells cells t (0, 0))) (ht : t ≠ 3) : v.ownBlock ≠ some g := by
  intro e
  obtain ⟨cells', hc⟩ := own_typed hown g e
  rw [hc] at hg
  injection hg with hg
  injection hg with _ hg
  exact ht hg.symm
theorem sq_push {Bm Bl Bt : Nat} {many : Int} {xs : List Int} {y : Int} {W w1 : World} {v v1 : Value} (hv : W.heap[Bl]? = some (.cells #[v] 22 (0, 0))) (hmn : W.heap[Bm]? = some (.cells #[.int .i64 many] 3 (0, 0)))
    (ht : W.heap[Bt]? = some (.cells #[.func (.func 69) #[] #[.pointer (some ⟨Bl, 0, none⟩), .pointer (some ⟨Bm, 0, none⟩), .pointer (some ⟨Bt, 0, none⟩)]] 42 (0, 0)))
    (hown : W.ownsRow (Bm + 1) 3 1 v xs.length (nums .i64 xs)) (hown1 : w1.ownsRow (Bm + 1) 3 1 v1 (xs ++ [y]).length (nums .i64 (xs ++ [y]))) (hg : W.grownBy w1 v.ownBlock) :
    SqInv Bm Bl Bt many (xs ++ [y]) (w1.setCell ⟨Bl, 0, none⟩ v1) := by
  have hl : xs.length = (nums .i64 xs).length := (nums_length _ _).symm
  have hl1 : (xs ++ [y]).length = (nums .i64 (xs ++ [y])).length := (nums_length _ _).symm
  have nl := sq_apart (by rw [← hl]; exact hown) hv (by decide)
  have nt := sq_apart (by rw [← hl]; exact hown) ht (by decide)
  have nm : v.ownBlock ≠ some Bm := fun e => by have := own_base hown Bm e; omega
  have hv' := (hg.block Bl (lt_of_block hv) (fun e => nl e.symm)).trans hv
  have hm' := (hg.block Bm (lt_of_block hmn) (fun e => nm e.symm)).trans hmn
  have ht' := (hg.block Bt (lt_of_block ht) (fun e => nt e.symm)).trans ht
  have n1 := sq_apart (by rw [← hl1]; exact hown1) hv' (by decide)
  have dm : Bm ≠ Bl := fun e => by subst e; rw [hv] at hmn; simp at hmn
  have dt : Bt ≠ Bl := fun e => by subst e; rw [hv] at ht; simp at ht
  refine ⟨v1, one_setCell hv', (Below.heap_setCell _ _ _ _ dm).trans hm', (Below.heap_setCell _ _ _ _ dt).trans ht', own_move hown1 (fun k hk => Below.heap_setCell _ _ _ _ (fun e => n1 (by rw [hk, e])))⟩
theorem sq_drop {Bm Bl Bt : Nat} {many : Int} {xs : List Int} {y : Int} {W : World} {g c : Nat} (h : SqInv Bm Bl Bt many (xs ++ [y]) W) (hv : W.heap[Bl]? = some (.cells #[.slice (some ⟨g, 0, none⟩) (xs ++ [y]).length c] 22 (0, 0))) :
    SqInv Bm Bl Bt many xs (W.setCell ⟨Bl, 0, none⟩ (.slice (some ⟨g, 0, none⟩) xs.length c)) := by
  obtain ⟨v, hv0, hmn, ht, hown⟩ := h
  obtain rfl : v = .slice (some ⟨g, 0, none⟩) (xs ++ [y]).length c := by rw [hv] at hv0; simpa using hv0.symm
  have hl1 : (xs ++ [y]).length = (nums .i64 (xs ++ [y])).length := (nums_length _ _).symm
  have n1 := sq_apart (by rw [← hl1]; exact hown) hv (by decide)
  have dm : Bm ≠ Bl := fun e => by subst e; rw [hv] at hmn; simp at hmn
  have dt : Bt ≠ Bl := fun e => by subst e; rw [hv] at ht; simp at ht
  have hgl : g ≠ Bl := fun e => n1 (by rw [e]; rfl)
  refine ⟨_, one_setCell hv, (Below.heap_setCell _ _ _ _ dm).trans hmn, (Below.heap_setCell _ _ _ _ dt).trans ht, ?_⟩
  rcases hown.2 with ⟨h', _⟩ | ⟨g', cap', cur, h', hb, hh, hnc, hcp, hcs, htake⟩
  · cases h'
  · simp only [Value.slice.injEq, Option.some.injEq, Addr.mk.injEq, and_true, true_and] at h'
    obtain ⟨rfl, rfl⟩ := h'
    refine ⟨by simp [nums], .inr ⟨g, c, cur, rfl, hb, (Below.heap_setCell _ _ _ _ hgl).trans hh, by simp at hnc; omega, hcp, hcs, ?_⟩⟩
    have := congrArg (List.take xs.length) htake
    rw [List.take_take] at this
    simpa [nums] using this
theorem sq_same {Bm Bl : Nat} {xs : List Int} {W w1 : World} {v : Value} (hv : W.heap[Bl]? = some (.cells #[v] 22 (0, 0))) (hown : W.ownsRow (Bm + 1) 3 1 v xs.length (nums .i64 xs)) (hg : W.grownBy w1 v.ownBlock) :
    w1.cell? ⟨Bl, 0, none⟩ = some v ∧ w1.frozen? ⟨Bl, 0, none⟩ = false := by
  have hl : xs.length = (nums .i64 xs).length := (nums_length _ _).symm
  have nl := sq_apart (by rw [← hl]; exact hown) hv (by decide)
  have hv' := (hg.block Bl (lt_of_block hv) (fun e => nl e.symm)).trans hv
  exact ⟨cell_of_one hv', free_of_one hv'⟩
theorem sq_root (n : Int) (h0 : 0 ≤ n) (hn : n ≤ 5000) : ∃ r, 0 ≤ r ∧ r ≤ 71 ∧ isq n = r ∧ impl_squareRoot.f 32 n = some (r, decide (r * r = n)) := by
  refine ⟨isq n, isq_nonneg n, ?_, rfl, ?_⟩
  · have := isq_bound (b := 71) h0 (by omega) (by omega); omega
  · rw [squareRoot n h0 (by omega) 32 (by omega)]
    rfl
theorem sq_hide {p : Prop} (h : p) : Hid p := Lib.hid h
set_option maxHeartbeats 1600000 in
set_option maxRecDepth 100000 in
theorem sq_base (Bm Bl Bt : Nat) (many low left : Int) (xs : List Int) (w : World) (h : SqInv Bm Bl Bt many xs w) (hm : (xs.length : Int) + 1 = many) (hM : many ≤ 4) (h0 : 0 ≤ low) (hL : low ≤ 5000) (hl0 : 0 ≤ left) (hl : left ≤ 5000) (hlt : Bm < Bl) (hlt2 : Bm < Bt) :
    Calls Try.prog 69 #[.int .i64 low, .int .i64 left, .pointer (some ⟨Bl, 0, none⟩), .pointer (some ⟨Bm, 0, none⟩), .pointer (some ⟨Bt, 0, none⟩)] w fun e w' =>
      e = .returned (.bool (sqs 0 low left).isSome) ∧ SqInv Bm Bl Bt many (xs ++ (sqs 0 low left).getD []) w' ∧ Below Bm w w' := by
  have hi := h
  obtain ⟨v, hv, hmn, ht, hown⟩ := h
  obtain ⟨A, c, rfl⟩ := own_slice hown
  have cL := cell_of_one hv
  have fL := free_of_one hv
  have cM := cell_of_one hmn
  have e1 : (((xs.length : Nat) : Int) == many - 1) = true := by rw [beq_iff_eq]; omega
  obtain ⟨r, hr0, hr1, hr, hsq⟩ := sq_root left hl0 hl
  simp only [sqs, hr]
  have HI := sq_hide hi
  have HV := sq_hide hv
  have HM := sq_hide hmn
  have HT := sq_hide ht
  have HO := sq_hide hown
  have hxl : xs.length ≤ 3 := by omega
  have hM1 : 1 ≤ many := by omega
  have hB : Bm < w.heap.size := lt_of_block hmn
  clear hi hv hmn ht hown hr hm
  by_cases c1 : r * r = left
  · rw [decide_eq_true c1] at hsq
    have HS := sq_hide hsq
    clear hsq
    by_cases c2 : low ≤ r
    · have c2b : decide (low ≤ r) = true := decide_eq_true c2
      rw [if_pos ⟨c1, c2⟩]
      clear c1
      go_enter Try.func69, Try.ntmps69
      go_wp2_with (first | (go_at_call 70; refine (impl_squareRoot.calls 32 left r true _ HS.out).mono ?_; rintro e w' ⟨rfl, ⟨n, rfl⟩⟩) | (at_builtin; go_loud (refine print_append_num (w0 := w) (Bm + 1) rfl (.tmp 27) (.tmp 29) 22 3 .i64 8 rfl Try.underlying22 sqInfo (by decide) (.slice A xs.length c) xs r rfl rfl HO.out (pw_below_drewN (Below.refl _ _) _) (by simp; omega) (by omega) ?_; intro v1 w1 hown1 hB1 hg1 hat1; clear hat1; obtain ⟨A1, k1, rfl⟩ := own_slice hown1; have HV1 := sq_hide (sq_push (hg := hg1) (hv := by exact HV.out) (hmn := by exact HM.out) (ht := by exact HT.out) (hown := by exact HO.out) (hown1 := hown1)); obtain ⟨cL1, fL1⟩ := sq_same (hg := hg1) (hv := by exact HV.out) (hown := by exact HO.out); clear hown1 hg1)))
      go_ret
      exact ⟨rfl, by simpa using HV1.out, (hB1.setCell (show Bm + 1 ≤ Bl by omega) _).mono (by omega)⟩
    · have c2b : decide (low ≤ r) = false := decide_eq_false c2
      rw [if_neg (fun h => c2 h.2)]
      clear c1
      go_enter Try.func69, Try.ntmps69
      go_wp2_with (first | (go_at_call 70; refine (impl_squareRoot.calls 32 left r true _ HS.out).mono ?_; rintro e w' ⟨rfl, ⟨n, rfl⟩⟩) | fail)
      go_ret
      exact ⟨rfl, by simpa using HI.out.drewN n, pw_below_drewN (Below.refl _ _) _⟩
  · rw [decide_eq_false c1] at hsq
    rw [if_neg (fun h => c1 h.1)]
    have HS := sq_hide hsq
    clear hsq c1
    go_enter Try.func69, Try.ntmps69
    go_wp2_with (first | (go_at_call 70; refine (impl_squareRoot.calls 32 left r false _ HS.out).mono ?_; rintro e w' ⟨rfl, ⟨n, rfl⟩⟩) | fail)
    go_ret
    exact ⟨rfl, by simpa using HI.out.drewN n, pw_below_drewN (Below.refl _ _) _⟩
def SqSays (Bm Bl Bt : Nat) (many : Int) (m : Nat) : Prop := ∀ (low left : Int) (xs : List Int) (w : World), SqInv Bm Bl Bt many xs w → (xs.length : Int) + m + 1 = many → 0 ≤ low → low ≤ 5000 → 0 ≤ left → left ≤ 5000 →
    Calls Try.prog 69 #[.int .i64 low, .int .i64 left, .pointer (some ⟨Bl, 0, none⟩), .pointer (some ⟨Bm, 0, none⟩), .pointer (some ⟨Bt, 0, none⟩)] w fun e w' =>
      e = .returned (.bool (sqs m low left).isSome) ∧ SqInv Bm Bl Bt many (xs ++ (sqs m low left).getD []) w' ∧ Below Bm w w'
def SqYes (Bm Bl Bt : Nat) (many x left : Int) (xs res : List Int) : Prop := ∀ w : World, SqInv Bm Bl Bt many (xs ++ [x]) w →
    Calls Try.prog 69 #[.int .i64 x, .int .i64 (left - x * x), .pointer (some ⟨Bl, 0, none⟩), .pointer (some ⟨Bm, 0, none⟩), .pointer (some ⟨Bt, 0, none⟩)] w fun e w' =>
      e = .returned (.bool true) ∧ SqInv Bm Bl Bt many (xs ++ x :: res) w' ∧ Below Bm w w'
def SqNo (Bm Bl Bt : Nat) (many x left : Int) (xs : List Int) : Prop := ∀ w : World, SqInv Bm Bl Bt many (xs ++ [x]) w →
    Calls Try.prog 69 #[.int .i64 x, .int .i64 (left - x * x), .pointer (some ⟨Bl, 0, none⟩), .pointer (some ⟨Bm, 0, none⟩), .pointer (some ⟨Bt, 0, none⟩)] w fun e w' =>
      e = .returned (.bool false) ∧ (∃ g c, w'.heap[Bl]? = some (.cells #[.slice (some ⟨g, 0, none⟩) (xs.length + 1) c] 22 (0, 0)) ∧ xs.length + 1 ≤ c ∧ c ≤ 9223372036854775807 ∧ SqInv Bm Bl Bt many (xs ++ [x]) w') ∧ Below Bm w w'
theorem sq_yes {Bm Bl Bt : Nat} {many : Int} {m : Nat} (IH : SqSays Bm Bl Bt many m) {x left : Int} {xs res : List Int} (hm : (xs.length : Int) + (m + 1) + 1 = many) (h0 : 0 ≤ x) (h1 : x ≤ 5000) (h2 : x * x ≤ left) (h3 : left ≤ 5000) (hs : sqs m x (left - x * x) = some res) : SqYes Bm Bl Bt many x left xs res := by
  intro w hw
  have := IH x (left - x * x) (xs ++ [x]) w hw (by simp; omega) h0 h1 (by omega) (by have := sq_nonneg x; omega)
  rw [hs] at this
  simpa using this
theorem sq_no {Bm Bl Bt : Nat} {many : Int} {m : Nat} (IH : SqSays Bm Bl Bt many m) {x left : Int} {xs : List Int} (hm : (xs.length : Int) + (m + 1) + 1 = many) (h0 : 0 ≤ x) (h1 : x ≤ 5000) (h2 : x * x ≤ left) (h3 : left ≤ 5000) (hs : sqs m x (left - x * x) = none) : SqNo Bm Bl Bt many x left xs := by
  intro w hw
  have := IH x (left - x * x) (xs ++ [x]) w hw (by simp; omega) h0 h1 (by omega) (by have := sq_nonneg x; omega)
  rw [hs] at this
  refine this.mono ?_
  rintro e w' ⟨he, hi, hb⟩
  simp only [Option.getD_none, List.append_nil] at hi
  refine ⟨by simpa using he, ?_, hb⟩
  have hi0 := hi
  obtain ⟨v, hv, _, _, hown⟩ := hi
  obtain ⟨g, c, rfl, _⟩ := hown.form (by simp)
  refine ⟨g, c, by simpa using hv, ?_, ?_, hi0⟩
  · rcases hown.2 with ⟨h', _⟩ | ⟨g', cap', cur, h', _, _, hn, hc, _⟩
    · cases h'
    · simp only [Value.slice.injEq, true_and] at h'; obtain ⟨_, rfl⟩ := h'; simpa using hn
  · rcases hown.2 with ⟨h', _⟩ | ⟨g', cap', cur, h', _, _, hn, hc, _⟩
    · cases h'
    · simp only [Value.slice.injEq, true_and] at h'; obtain ⟨_, rfl⟩ := h'; simpa [maxLen] using hc
theorem sq_cellT {Bm Bt : Nat} {xs : List Int} {W w1 : World} {v u : Value} (ht : W.heap[Bt]? = some (.cells #[u] 42 (0, 0))) (hown : W.ownsRow (Bm + 1) 3 1 v xs.length (nums .i64 xs)) (hg : W.grownBy w1 v.ownBlock) :
    w1.cell? ⟨Bt, 0, none⟩ = some u := by
  have hl : xs.length = (nums .i64 xs).length := (nums_length _ _).symm
  have nl := sq_apart (by rw [← hl]; exact hown) ht (by decide)
  exact cell_of_one ((hg.block Bt (lt_of_block ht) (fun e => nl e.symm)).trans ht)
set_option maxHeartbeats 4000000 in
set_option maxRecDepth 100000 in
theorem sq_step (Bm Bl Bt : Nat) (many : Int) (hM : many ≤ 4) (hlt : Bm < Bl) (hlt2 : Bm < Bt) (m : Nat) (IH : SqSays Bm Bl Bt many m) : SqSays Bm Bl Bt many (m + 1) := by
  intro low left xs w h hm h0 hL hl0 hl
  have hi := h
  obtain ⟨v, hv, hmn, ht, hown⟩ := h
  obtain ⟨A, c, rfl⟩ := own_slice hown
  have cL := cell_of_one hv
  have fL := free_of_one hv
  have cM := cell_of_one hmn
  have e1 : (((xs.length : Nat) : Int) == many - 1) = false := by rw [beq_eq_false_iff_ne]; omega
  have hxl : xs.length ≤ 3 := by omega
  have hM1 : 1 ≤ many := by omega
  have HI := sq_hide hi
  have HX0 : Hid (¬ Bt = Bl) := sq_hide (fun e => by subst e; rw [hv] at ht; simp at ht)
  have HE := sq_hide hm
  have HIH := sq_hide IH
  clear hi hv hmn ht hown hm IH
  go_enter Try.func69, Try.ntmps69
  go_wp2
  clear cL fL cM
  go_loopw [10] (fun x wr => ∃ xi : Int, x = .int .i64 xi ∧ low ≤ xi ∧ Hid (xi ≤ left + 1 ∨ xi = low) ∧ Hid (SqInv Bm Bl Bt many xs wr) ∧ Hid (sqs (m + 1) low left = sqFrom (fun x => sqs m x (left - x * x)) (m + 2) left (left + 2 - xi).toNat xi) ∧ Below Bm w wr) (fun x _ => (left + 2 - intOf x).toNat)
  case atStart => exact ⟨low, rfl, Int.le_refl _, sq_hide (.inr rfl), HI, sq_hide rfl, Below.refl _ _⟩
  case round =>
    obtain ⟨xi, rfl, hlx, HX, HW, HF, hB⟩ := hrel
    have hw := HW.out
    obtain ⟨v, hv, hmn, ht, hown⟩ := hw
    obtain ⟨A, c, rfl⟩ := own_slice hown
    have cL := cell_of_one hv
    have fL := free_of_one hv
    have cM := cell_of_one hmn
    have hx5 : xi ≤ 5001 := by rcases HX.out with h | h <;> omega
    have hs := sq_nonneg xi
    have hS := sq_le (show 0 ≤ xi by omega) hx5
    have em : many - (xs.length : Int) = m + 2 := by have := HE.out; omega
    have hmm : (m : Int) + 2 ≤ 4 := by have := HE.out; omega
    have hp0 : 0 ≤ xi * xi * (m + 2) := Int.mul_nonneg hs (by omega)
    have hp1 : xi * xi * (m + 2) ≤ 25010001 * 4 := mul_le2 hs (by omega) (by omega) hmm
    have w1 : wrap64 (xi * xi) = xi * xi := w64 (by omega) (by omega)
    have w2 : wrap64 (many - (xs.length : Int)) = m + 2 := by rw [em]; exact w64 (by omega) (by omega)
    have w3 : wrap64 (xi * xi * (m + 2)) = xi * xi * (m + 2) := w64 (by omega) (by omega)
    have HV := sq_hide hv
    have HM := sq_hide hmn
    have HT := sq_hide ht
    have HO := sq_hide hown
    have HBB : Hid (Bm + 1 ≤ wr.heap.size) := sq_hide (lt_of_block hmn)
    have H88 : Hid ((xs.length + 1) * 8 ≤ 140737488355328) := sq_hide (by omega)
    clear hv hmn ht hown hS hp0 hp1
    by_cases c1 : xi * xi * (m + 2) ≤ left
    · have hbd := sq_bound (c := (m : Int) + 2) (by omega) (by omega) c1
      have c1b : decide (xi * xi * ((m : Int) + 2) ≤ left) = true := decide_eq_true c1
      have C1 := sq_hide c1
      clear c1
      have w4 : wrap64 (left - xi * xi) = left - xi * xi := w64 (by omega) (by omega)
      cases hcase : sqs m xi (left - xi * xi) with
      | some res =>
        have HY := sq_hide (sq_yes HIH.out (xs := xs) (many := many) (x := xi) (left := left) (res := res) HE.out (by omega) (by omega) hbd.1 (by omega) hcase)
        have hfin : sqs (m + 1) low left = some (xi :: res) := by rw [HF.out]; exact sqFrom_hit (by omega) (by omega) C1.out hcase
        have HN := sq_hide hfin
        have hne : ¬ Bt = Bl := HX0.out
        have hne2 : ¬ Bl = Bt := fun h => hne h.symm
        have hxe : xi ≤ left := hbd.2
        clear hcase hfin hbd
        go_wp2_with (first | (at_builtin; refine print_append_num (w0 := wr) (Bm + 1) rfl (.tmp 50) (.tmp 52) 22 3 .i64 8 rfl Try.underlying22 sqInfo (by decide) (.slice A xs.length c) xs xi rfl rfl HO.out (Below.refl _ _) HBB.out H88.out ?_; intro v1 w1 hown1 hB1 hg1 hat1; clear hat1; obtain ⟨A1, k1, rfl⟩ := own_slice hown1; have HV1 := sq_hide (sq_push (hg := hg1) (hv := by exact HV.out) (hmn := by exact HM.out) (ht := by exact HT.out) (hown := by exact HO.out) (hown1 := hown1)); obtain ⟨cL1, fL1⟩ := sq_same (hg := hg1) (hv := by exact HV.out) (hown := by exact HO.out); have cT1 := sq_cellT (u := .func (.func 69) #[] #[.pointer (some ⟨Bl, 0, none⟩), .pointer (some ⟨Bm, 0, none⟩), .pointer (some ⟨Bt, 0, none⟩)]) (xs := xs) (W := wr) (v := .slice A xs.length c) HT.out HO.out hg1; clear hown1 hg1 cL fL) | (go_at_call 69; refine (HY.out _ (by simpa using HV1.out)).mono ?_; rintro e w2 ⟨rfl, hI2, hB2⟩; have HI2 := sq_hide hI2; clear hI2))
        go_ret
        rw [HN.out]
        exact ⟨rfl, by simpa using HI2.out, hB.trans (((hB1.setCell (show Bm + 1 ≤ Bl by omega) _).mono (by omega)).trans (by simpa using hB2))⟩
      | none =>
        have HY := sq_hide (sq_no HIH.out (xs := xs) (many := many) (x := xi) (left := left) HE.out (by omega) (by omega) hbd.1 (by omega) hcase)
        have hfin := (HF.out).trans (sqFrom_next (by omega) (by omega) C1.out hcase)
        have HN := sq_hide hfin
        have hne : ¬ Bt = Bl := HX0.out
        have hne2 : ¬ Bl = Bt := fun h => hne h.symm
        have hxe : xi ≤ left := hbd.2
        clear hcase hfin hbd
        go_wp2_with (first | (at_builtin; refine print_append_num (w0 := wr) (Bm + 1) rfl (.tmp 50) (.tmp 52) 22 3 .i64 8 rfl Try.underlying22 sqInfo (by decide) (.slice A xs.length c) xs xi rfl rfl HO.out (Below.refl _ _) HBB.out H88.out ?_; intro v1 w1 hown1 hB1 hg1 hat1; clear hat1; obtain ⟨A1, k1, rfl⟩ := own_slice hown1; have HV1 := sq_hide (sq_push (hg := hg1) (hv := by exact HV.out) (hmn := by exact HM.out) (ht := by exact HT.out) (hown := by exact HO.out) (hown1 := hown1)); obtain ⟨cL1, fL1⟩ := sq_same (hg := hg1) (hv := by exact HV.out) (hown := by exact HO.out); have cT1 := sq_cellT (u := .func (.func 69) #[] #[.pointer (some ⟨Bl, 0, none⟩), .pointer (some ⟨Bm, 0, none⟩), .pointer (some ⟨Bt, 0, none⟩)]) (xs := xs) (W := wr) (v := .slice A xs.length c) HT.out HO.out hg1; clear hown1 hg1 cL fL) | (go_at_call 69; refine (HY.out _ (by simpa using HV1.out)).mono ?_; rintro e w2 ⟨rfl, ⟨g2, k2, hv2, hk2, hk3, hI2⟩, hB2⟩; have cL2 := cell_of_one hv2; have fL2 := free_of_one hv2; have HI2 := sq_hide hI2; have HV2 := sq_hide hv2; clear hI2 hv2))
        go_roundw
        case rel => exact ⟨xi + 1, by go_num, by omega, sq_hide (.inl (by omega)), sq_hide (by have := sq_drop (y := xi) HI2.out (by simpa using HV2.out); simpa using this), HN, (hB.trans (((hB1.setCell (show Bm + 1 ≤ Bl by omega) _).mono (by omega)).trans (by simpa using hB2))).setCell (show Bm ≤ Bl by omega) _⟩
        case measure => simp [intOf]; omega
    · have c1b : decide (xi * xi * ((m : Int) + 2) ≤ left) = false := decide_eq_false c1
      have hfin : sqs (m + 1) low left = none := by rw [HF.out]; exact sqFrom_stop _ c1
      have HN := sq_hide hfin
      clear c1 hfin
      go_wp2
      go_ret
      rw [HN.out]
      exact ⟨rfl, by simpa using HW.out, hB⟩
theorem sq_all (Bm Bl Bt : Nat) (many : Int) (hM : many ≤ 4) (hlt : Bm < Bl) (hlt2 : Bm < Bt) : ∀ m, SqSays Bm Bl Bt many m
  | 0 => fun low left xs w h hm h0 hL hl0 hl => sq_base Bm Bl Bt many low left xs w h (by simpa using hm) hM h0 hL hl0 hl hlt hlt2
  | m + 1 => sq_step Bm Bl Bt many hM hlt hlt2 m (sq_all Bm Bl Bt many hM hlt hlt2 m)
theorem sq_start (w : World) (a1 : Int) : SqInv w.heap.size (w.heap.size + 1 + 1) (w.heap.size + 1 + 1 + 1) a1 []
    ((((w.alloc (.cells #[.int .i64 a1] 3)).alloc (.cells #[] 3)).alloc (.cells #[.slice (some ⟨w.heap.size + 1, 0, none⟩) 0 0] 22)).alloc
      (.cells #[.func (.func 69) #[] #[.pointer (some ⟨w.heap.size + 1 + 1, 0, none⟩), .pointer (some ⟨w.heap.size, 0, none⟩), .pointer (some ⟨w.heap.size + 1 + 1 + 1, 0, none⟩)]] 42)) := by
  refine ⟨.slice (some ⟨w.heap.size + 1, 0, none⟩) 0 0, ?_, ?_, ?_, by simp [nums], .inr ⟨w.heap.size + 1, 0, #[], rfl, Nat.le_refl _, ?_, Nat.le_refl _, by simp [maxLen], by simp, by simp [nums]⟩⟩
  · refine (Below.heap_alloc _ _ _ (by simp)).trans ?_
    simpa using heap_alloc_new ((w.alloc (.cells #[.int .i64 a1] 3)).alloc (.cells #[] 3)) (.cells #[.slice (some ⟨w.heap.size + 1, 0, none⟩) 0 0] 22)
  · refine (Below.heap_alloc _ _ _ (by simp <;> omega)).trans ((Below.heap_alloc _ _ _ (by simp <;> omega)).trans ((Below.heap_alloc _ _ _ (by simp)).trans ?_))
    exact heap_alloc_new w _
  · simpa using heap_alloc_new (((w.alloc (.cells #[.int .i64 a1] 3)).alloc (.cells #[] 3)).alloc (.cells #[.slice (some ⟨w.heap.size + 1, 0, none⟩) 0 0] 22)) (.cells #[.func (.func 69) #[] #[.pointer (some ⟨w.heap.size + 1 + 1, 0, none⟩), .pointer (some ⟨w.heap.size, 0, none⟩), .pointer (some ⟨w.heap.size + 1 + 1 + 1, 0, none⟩)]] 42)
  · refine (Below.heap_alloc _ _ _ (by simp <;> omega)).trans ((Below.heap_alloc _ _ _ (by simp)).trans ?_)
    simpa using heap_alloc_new (w.alloc (.cells #[.int .i64 a1] 3)) (.cells #[] 3)
/-- squaresOf, as it is asked here: of 1 to 4 squares. -/
def impl_squaresOf.f (a0 : Int) (a1 : Int) : Option (List Int × Bool) :=
  if 1 ≤ a1 ∧ a1 ≤ 4 then (if a0 < 0 ∨ a0 > 2000 then some ([], false) else match sqs (a1 - 1).toNat 0 a0 with | some r => some (r, true) | none => some ([], false)) else none
set_option maxHeartbeats 4000000 in
set_option maxRecDepth 100000 in
theorem impl_squaresOf.calls (a0 : Int) (a1 : Int) (r1 : List Int) (r2 : Bool) (w : World) (h : impl_squaresOf.f a0 a1 = some (r1, r2)) :
    Calls Try.prog 37 #[.int .i64 a0, .int .i64 a1] w fun e w' => ∃ v0_ : Value, e = .returned (.tuple #[v0_, .bool r2]) ∧ Kd.R (Kd.int .i64) 3 w' w.heap.size (fun _ => True) v0_ r1 ∧ Below w.heap.size w w' := by
  unfold impl_squaresOf.f at h
  by_cases hm : 1 ≤ a1 ∧ a1 ≤ 4
  · rw [if_pos hm] at h
    obtain ⟨hm1, hm4⟩ := hm
    by_cases hlo : a0 < 0
    · rw [if_pos (.inl hlo)] at h
      have h1 : decide (a0 < 0) = true := decide_eq_true hlo
      simp only [Option.some.injEq, Prod.mk.injEq] at h
      obtain ⟨rfl, rfl⟩ := h
      clear hlo
      go_enter Try.func37, Try.ntmps37
      go_wp2
      go_ret2
      exact ⟨_, rfl, Kd.R_nil _ _ _ _ _, (Below.refl _ _).alloc (Nat.le_refl _) _⟩
    · by_cases hhi : a0 > 2000
      · rw [if_pos (.inr hhi)] at h
        have h1 : decide (a0 < 0) = false := decide_eq_false hlo
        have h2 : decide (2000 < a0) = true := decide_eq_true hhi
        simp only [Option.some.injEq, Prod.mk.injEq] at h
        obtain ⟨rfl, rfl⟩ := h
        clear hlo hhi
        go_enter Try.func37, Try.ntmps37
        go_wp2
        go_ret2
        exact ⟨_, rfl, Kd.R_nil _ _ _ _ _, (Below.refl _ _).alloc (Nat.le_refl _) _⟩
      · rw [if_neg (by omega)] at h
        have h1 : decide (a0 < 0) = false := decide_eq_false hlo
        have h2 : decide (2000 < a0) = false := decide_eq_false hhi
        have hs := sq_all w.heap.size (w.heap.size + 1 + 1) (w.heap.size + 1 + 1 + 1) a1 hm4 (by omega) (by omega) (a1 - 1).toNat 0 a0 [] _ (sq_start w a1) (by simp <;> omega) (by omega) (by omega) (by omega) (by omega)
        simp only [List.nil_append] at hs
        clear hlo hhi hm1 hm4
        cases hq : sqs (a1 - 1).toNat 0 a0 with
        | none =>
          rw [hq] at hs h
          simp only [Option.some.injEq, Prod.mk.injEq] at h
          obtain ⟨rfl, rfl⟩ := h
          simp only [Option.isSome_none] at hs
          have HS := sq_hide hs
          clear hs hq
          go_enter Try.func37, Try.ntmps37
          go_wp2_with (go_at_call 69; refine HS.out.mono ?_; rintro e w2 ⟨rfl, hI2, hB2⟩; clear hI2)
          go_ret2
          exact ⟨_, rfl, Kd.R_nil _ _ _ _ _, (((((Below.refl _ w).alloc (Nat.le_refl _) _).alloc (by simp) _).alloc (by simp <;> omega) _).alloc (by simp <;> omega) _).trans (by simpa using hB2)⟩
        | some r =>
          rw [hq] at hs h
          simp only [Option.some.injEq, Prod.mk.injEq] at h
          obtain ⟨rfl, rfl⟩ := h
          simp only [Option.isSome_some, Option.getD_some] at hs
          have HS := sq_hide hs
          clear hs hq
          go_enter Try.func37, Try.ntmps37
          go_wp2_with (go_at_call 69; refine HS.out.mono ?_; rintro e w2 ⟨rfl, ⟨v2, hv2, _, _, hown2⟩, hB2⟩; obtain ⟨A2, k2, rfl⟩ := own_slice hown2; have cL2 := cell_of_one hv2; clear hv2)
          go_ret2
          exact ⟨_, rfl, Kd.R_of_own (own_weaken hown2 (Nat.le_succ _)) (fun _ _ => trivial), (((((Below.refl _ w).alloc (Nat.le_refl _) _).alloc (by simp) _).alloc (by simp <;> omega) _).alloc (by simp <;> omega) _).trans (by simpa using hB2)⟩
  · rw [if_neg hm] at h; cases h

end

/-! ### impl_ThreeFind: function 12 -/
def impl_ThreeFind.f (a0 : Int) : Option (List Int × Bool) := (impl_squaresOf.f a0 3).bind fun bt110 => (some (bt110.1, bt110.2))
set_option maxHeartbeats 8000000 in
set_option maxRecDepth 100000 in
theorem impl_ThreeFind.calls (a0 : Int) (r1 : List Int) (r2 : Bool) (w : World) (h : impl_ThreeFind.f a0 = some (r1, r2)) :
    Calls Try.prog 12 #[.int .i64 a0] w fun e w' => ∃ v0_ : Value, e = .returned (.tuple #[v0_, .bool r2]) ∧ Kd.R (Kd.int .i64) 3 w' w.heap.size (fun _ => True) v0_ r1 ∧ Below w.heap.size w w' := by
  have HB := Aside0.mk (Below.refl w.heap.size w)
  have H : ((impl_squaresOf.f a0 3).bind fun bt110 => (some (bt110.1, bt110.2))) = some (r1, r2) := h
  clear h
  replace H := Option.bind_eq_some_iff.mp H
  obtain ⟨⟨t110, t111⟩, A20, H⟩ := H
  replace H : (some (t110, t111)) = some (r1, r2) := H
  have A2 := Aside0.mk A20
  clear A20
  simp only [Option.some.injEq, Prod.mk.injEq] at H
  obtain ⟨rfl, rfl⟩ := H
  go_enter Try.func12, Try.ntmps12
  go_wp2_with (first | ((with_reducible refine gate_callee (f := 37) rfl ?_); refine goesL_ (some 5) rfl rfl Try.func37 (by kernel_rfl) rfl #[.int .i64 a0, .int .i64 3] rfl (by (try simp only [List.map_toArray, List.map_cons, List.map_nil]); first | done | rfl | (simp only [List.length_drop, List.length_take]; rfl)) ?_; (with_reducible refine (impl_squaresOf.calls a0 3 t110 t111 _ A2.out).mono ?_); rintro e w3 ⟨v112, rfl, ho0, hb⟩; refine ⟨_, rfl, ?_⟩; have n0_ := Aside0.mk (Kd.R_lower ho0 (below_size (by repeat (first | (with_reducible first | exact HB.out | apply below_alloc | apply pw_below_drewN | apply below_drew1) | exact HB.out)))); have n1_ := Aside0.mk (below_step (by repeat (first | (with_reducible first | exact HB.out | apply below_alloc | apply pw_below_drewN | apply below_drew1) | exact HB.out)) hb); clear HB; have HO113 := n0_; have HB := n1_; clear n0_ n1_; (try clear hb); (try clear hb2); (try clear hk); (try clear hi); (try clear ho0)))
  go_ret2
  exact ⟨_, by first | rfl | (simp [errW_none, errW_some] <;> rfl) | (simp [*, errW_none, errW_some] <;> rfl), by (with_reducible repeat (first | apply Kd.R_alloc | apply Kd.R_drewN | apply Kd.R_drew)); exact HO113.out, by repeat (first | (with_reducible first | exact HB.out | apply below_alloc | apply pw_below_drewN | apply below_drew1) | exact HB.out)⟩

/-! ### laws_eqIntS: function 13 -/
def laws_eqIntS.l0 : Nat → List Int → List Int → Int → Option (Bool)
  | 0, _, _, _ => none
  | k + 1, x0, x1, x5 => if x5 < (x0.length : Int) then (if 0 ≤ x5 then (if x5 < (x1.length : Int) then (if (rd x0 x5) = (rd x1 x5) then (laws_eqIntS.l0 k x0 x1 (wrap64 (x5 + 1))) else (some false)) else (none)) else (none)) else (some true)
def laws_eqIntS.f (k : Nat) (l0 : List Int) (l1 : List Int) : Option (Bool) := if (l0.length : Int) = (l1.length : Int) then (laws_eqIntS.l0 k l0 l1 0) else (some false)
set_option maxHeartbeats 8000000 in
set_option maxRecDepth 100000 in
theorem laws_eqIntS.calls (k : Nat) (A0 : Option Addr) (c0 : Nat) (l0 : List Int) (A1 : Option Addr) (c1 : Nat) (l1 : List Int) (r : Bool) (w : World) (hr0 : Kd.C (Kd.int .i64) w A0 l0.length l0) (hc0 : l0.length ≤ c0) (hr1 : Kd.C (Kd.int .i64) w A1 l1.length l1) (hc1 : l1.length ≤ c1) (h : laws_eqIntS.f k l0 l1 = some r) :
    Calls Try.prog 13 #[.slice A0 l0.length c0, .slice A1 l1.length c1] w fun e w' => e = .returned (.bool r) ∧ Drawn0 w w' := by
  have HR0 := Aside0.mk hr0
  have HC0 := Aside0.mk hc0
  clear hr0 hc0
  have HR1 := Aside0.mk hr1
  have HC1 := Aside0.mk hc1
  clear hr1 hc1
  have H : (if (l0.length : Int) = (l1.length : Int) then (laws_eqIntS.l0 k l0 l1 0) else (some false)) = some r := h
  clear h
  by_cases c3 : (l0.length : Int) = (l1.length : Int)
  · rw [if_pos c3] at H
    have c3b0 : ((l0.length : Int) == (l1.length : Int)) = true := beq_iff_eq.mpr c3
    have c3b1 : ((l0.length : Int) != (l1.length : Int)) = false := bne_eq_false_iff_eq.mpr c3
    have c3b2 : (l0.length == l1.length) = true := by first | simpa using c3 | (simp at c3 ⊢; omega)
    clear c3
    have H' := Aside0.mk H
    clear H
    go_enter Try.func13, Try.ntmps13
    go_wp2
    repeat (go_quiet (fail); try go_wp2)
    go_loopg [5] k (fun kq v5 w' => ∃ (x5_1 : Int), v5 = .int .i64 x5_1 ∧ Aside0 (laws_eqIntS.l0 kq l0 l1 x5_1 = some r) ∧ Aside0 (kq ≤ k) ∧ Drawn0 w w')
    case atStart => exact ⟨(0), (by first | rfl | (simp; done) | (simp [*]; done)), H', ⟨Nat.le_refl _⟩, by repeat (first | exact Drawn0.refl _ | apply Drawn0.step)⟩
    case round =>
      clear H'
      try clear c1
      try clear p2
      try clear c3
      try clear c3b0
      try clear c3b1
      try clear c3b2
      obtain ⟨x5_1, rfl, HA, HK1, ⟨m1, rfl⟩⟩ := hrel
      cases gk with
      | zero => exact absurd HA.out (by simp [laws_eqIntS.l0])
      | succ k1 =>
        have H := HA.out
        clear HA
        simp only [laws_eqIntS.l0] at H
        by_cases c4 : x5_1 < (l0.length : Int)
        · rw [if_pos c4] at H
          have c4b0 : decide (x5_1 < (l0.length : Int)) = true := decide_eq_true c4
          clear c4
          by_cases c5 : 0 ≤ x5_1
          · rw [if_pos c5] at H
            have c5b0 : decide (0 ≤ x5_1) = true := decide_eq_true c5
            clear c5
            by_cases c6 : x5_1 < (l1.length : Int)
            · rw [if_pos c6] at H
              have c6b0 : decide (x5_1 < (l1.length : Int)) = true := decide_eq_true c6
              clear c6
              by_cases c7 : (rd l0 x5_1) = (rd l1 x5_1)
              · rw [if_pos c7] at H
                have c7b0 : ((rd l0 x5_1) == (rd l1 x5_1)) = true := beq_iff_eq.mpr c7
                have c7b1 : ((rd l0 x5_1) != (rd l1 x5_1)) = false := bne_eq_false_iff_eq.mpr c7
                clear c7
                have H' := Aside0.mk H
                clear H
                have p114 : 0 ≤ (x5_1 : Int) := of_decide_eq_true (by first | (with_reducible assumption) | assumption)
                have q114 : x5_1 < (l0.length : Int) := of_decide_eq_true (by first | (with_reducible assumption) | assumption)
                obtain ⟨ad114, e114, hx114_0⟩ := Kd.at_int HR0.out x5_1 p114 q114
                cases e114
                replace p114 := eq_true p114
                replace q114 := eq_true q114
                have p115 : 0 ≤ (x5_1 : Int) := of_decide_eq_true (by first | (with_reducible assumption) | assumption)
                have q115 : x5_1 < (l1.length : Int) := of_decide_eq_true (by first | (with_reducible assumption) | assumption)
                obtain ⟨ad115, e115, hx115_0⟩ := Kd.at_int HR1.out x5_1 p115 q115
                cases e115
                replace p115 := eq_true p115
                replace q115 := eq_true q115
                go_wp2
                repeat (go_quiet (fail); try go_wp2)
                go_roundg k1
                case measure => have := HK1.out; omega
                case rel => exact ⟨(wrap64 (x5_1 + 1)), (by first | rfl | (simp; done) | (simp [*]; done)), H', ⟨by have := HK1.out; omega⟩, by repeat (first | exact Drawn0.refl _ | apply Drawn0.step)⟩
              · rw [if_neg c7] at H
                have c7b0 : ((rd l0 x5_1) == (rd l1 x5_1)) = false := beq_eq_false_iff_ne.mpr c7
                have c7b1 : ((rd l0 x5_1) != (rd l1 x5_1)) = true := bne_iff_ne.mpr c7
                obtain rfl := Option.some.inj H
                have p114 : 0 ≤ (x5_1 : Int) := of_decide_eq_true (by first | (with_reducible assumption) | assumption)
                have q114 : x5_1 < (l0.length : Int) := of_decide_eq_true (by first | (with_reducible assumption) | assumption)
                obtain ⟨ad114, e114, hx114_0⟩ := Kd.at_int HR0.out x5_1 p114 q114
                cases e114
                replace p114 := eq_true p114
                replace q114 := eq_true q114
                have p115 : 0 ≤ (x5_1 : Int) := of_decide_eq_true (by first | (with_reducible assumption) | assumption)
                have q115 : x5_1 < (l1.length : Int) := of_decide_eq_true (by first | (with_reducible assumption) | assumption)
                obtain ⟨ad115, e115, hx115_0⟩ := Kd.at_int HR1.out x5_1 p115 q115
                cases e115
                replace p115 := eq_true p115
                replace q115 := eq_true q115
                go_wp2
                repeat (go_quiet (fail); try go_wp2)
                go_ret
                exact ⟨by first | rfl | (simp; done) | (simp [*]; done), by repeat (first | exact Drawn0.refl _ | apply Drawn0.step)⟩
            · rw [if_neg c6] at H
              exact absurd H (by simp)
          · rw [if_neg c5] at H
            exact absurd H (by simp)
        · rw [if_neg c4] at H
          have c4b0 : decide (x5_1 < (l0.length : Int)) = false := decide_eq_false c4
          clear c4
          obtain rfl := Option.some.inj H
          go_wp2
          repeat (go_quiet (fail); try go_wp2)
          go_ret
          exact ⟨by first | rfl | (simp; done) | (simp [*]; done), by repeat (first | exact Drawn0.refl _ | apply Drawn0.step)⟩
  · rw [if_neg c3] at H
    have c3b0 : ((l0.length : Int) == (l1.length : Int)) = false := beq_eq_false_iff_ne.mpr c3
    have c3b1 : ((l0.length : Int) != (l1.length : Int)) = true := bne_iff_ne.mpr c3
    have c3b2 : (l0.length == l1.length) = false := by first | simpa using c3 | (simp at c3 ⊢; omega)
    obtain rfl := Option.some.inj H
    go_enter Try.func13, Try.ntmps13
    go_wp2
    repeat (go_quiet (fail); try go_wp2)
    go_ret
    exact ⟨by first | rfl | (simp; done) | (simp [*]; done), by repeat (first | exact Drawn0.refl _ | apply Drawn0.step)⟩

end Go.Proofs.Ytnnpafjgghpecaa.PFnExactThreeFind
