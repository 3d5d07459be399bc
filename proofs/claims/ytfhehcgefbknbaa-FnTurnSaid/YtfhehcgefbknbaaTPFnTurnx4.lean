/- A function's Lean twin and its walk, written by a program of this session. -/
import Derived.Test.YtfhehcgefbknbaaTPFnTurnx0
import Derived.Test.YtfhehcgefbknbaaTPFnTurnx1
import Derived.Test.YtfhehcgefbknbaaTPFnTurnx2
import Derived.Test.YtfhehcgefbknbaaTPFnTurnx3
namespace Go.Proofs.Ytfhehcgefbknbaa.PFnTurn
open Go.RowKit Go.Proofs.YtfhehcgefbknbaaW.PrintWords Go.Proofs.YtfhehcgefbknbaaW.PrintLast Go.Proofs.YtfhehcgefbknbaaW.PrintMore
attribute [local go_sem] max2_int min2_int max_two min_two max_three min_three max_four min_four   -- for this text's walks alone
set_option linter.unusedVariables false
set_option linter.unusedSimpArgs false

/-! ### spec_QuatTurn: function 42 -/
def spec_QuatTurn.j0 : Nat → List Int → List Int → Bool → Option (List Int × Bool)
  | 0, _, _, _ => none
  | k + 1, x0, x1, x35 => if x35 = true then (some ((([] : List Int)), false)) else (if 0 < (x1.length : Int) then (if 1 < (x1.length : Int) then (if 2 < (x1.length : Int) then ((spec_QuatMul.f k x0 (([0, rd x1 0, rd x1 1, rd x1 2] : List Int))).bind fun bt142 => ((spec_QuatConj.f k x0).bind fun bt146 => ((spec_QuatMul.f k bt142.1 bt146.1).bind fun bt150 => (if bt142.2 = true then (if bt146.2 = true then (if bt150.2 = true then (if 1 ≤ (bt150.1.length : Int) then (some ((bt150.1.drop (1 : Int).toNat), true)) else (none)) else (some ((([] : List Int)), false))) else (some ((([] : List Int)), false))) else (some ((([] : List Int)), false)))))) else (none)) else (none)) else (none))
def spec_QuatTurn.f (k : Nat) (l0 : List Int) (l1 : List Int) : Option (List Int × Bool) := if (l1.length : Int) = 3 then (if 0 < (l1.length : Int) then ((spec_l6In.f (rd l1 0) (-100) 100).bind fun t128 => (if t128 = true then (if 1 < (l1.length : Int) then ((spec_l6In.f (rd l1 1) (-100) 100).bind fun t130 => (if t130 = true then (if 2 < (l1.length : Int) then ((spec_l6In.f (rd l1 2) (-100) 100).bind fun t132 => (spec_QuatTurn.j0 k l0 l1 (!t132))) else (none)) else (spec_QuatTurn.j0 k l0 l1 true))) else (none)) else (spec_QuatTurn.j0 k l0 l1 true))) else (none)) else (spec_QuatTurn.j0 k l0 l1 true)
def spec_QuatTurn.T3 : Bool × List (List Nat × List Nat) := (true, [([], []), ([], []), ([1], [1]), ([2], [2]), ([], []), ([4], [4]), ([5], [5]), ([], []), ([7], [7]), ([8], [8]), ([3, 6, 9], [3, 6, 9]), ([0, 10], [0, 10]), ([11], [11]), ([12], [12]), ([12], [12]), ([13, 11, 0, 1, 2, 3, 4, 5, 6, 7, 8, 9, 10, 11, 12, 13], [13]), ([14, 15, 0, 1, 2, 3, 4, 5, 6, 7, 8, 9, 10, 11, 12, 13, 14, 15], [14])])
def spec_QuatTurn.B3 : List Nat := [0, 0, 2, 6, 0, 16, 48, 0, 128, 384, 1022, 2047, 4095, 8191, 8191, 16383, 65535]
theorem spec_QuatTurn.tab3 : rtab .any (opsOf Try.f42 3) = spec_QuatTurn.T3 := by kernel_rfl
theorem spec_QuatTurn.bits3 : waitsOk spec_QuatTurn.T3.2 spec_QuatTurn.B3 = true := by kernel_rfl
set_option maxHeartbeats 8000000 in
set_option maxRecDepth 100000 in
theorem spec_QuatTurn.calls (k : Nat) (A0 : Option Addr) (c0 : Nat) (l0 : List Int) (A1 : Option Addr) (c1 : Nat) (l1 : List Int) (r1 : List Int) (r2 : Bool) (w : World) (hr0 : Kd.C (Kd.int .i64) w A0 l0.length l0) (hc0 : l0.length ≤ c0) (hr1 : Kd.C (Kd.int .i64) w A1 l1.length l1) (hc1 : l1.length ≤ c1) (h : spec_QuatTurn.f k l0 l1 = some (r1, r2)) :
    Calls Try.prog 42 #[.slice A0 l0.length c0, .slice A1 l1.length c1] w fun e w' => ∃ v0_ : Value, e = .returned (.tuple #[v0_, .bool r2]) ∧ Kd.Q (Kd.int .i64) 3 w' w.heap.size (fun _ => True) v0_ r1 ∧ Below w.heap.size w w' := by
  have HR0 := Aside0.mk hr0
  have HC0 := Aside0.mk hc0
  clear hr0 hc0
  have HR1 := Aside0.mk hr1
  have HC1 := Aside0.mk hc1
  clear hr1 hc1
  have HB := Aside0.mk (Below.refl w.heap.size w)
  have H : (if (l1.length : Int) = 3 then (if 0 < (l1.length : Int) then ((spec_l6In.f (rd l1 0) (-100) 100).bind fun t128 => (if t128 = true then (if 1 < (l1.length : Int) then ((spec_l6In.f (rd l1 1) (-100) 100).bind fun t130 => (if t130 = true then (if 2 < (l1.length : Int) then ((spec_l6In.f (rd l1 2) (-100) 100).bind fun t132 => (spec_QuatTurn.j0 k l0 l1 (!t132))) else (none)) else (spec_QuatTurn.j0 k l0 l1 true))) else (none)) else (spec_QuatTurn.j0 k l0 l1 true))) else (none)) else (spec_QuatTurn.j0 k l0 l1 true)) = some (r1, r2) := h
  clear h
  have HC3 := Aside0.mk H
  clear H
  go_enter Try.func42, Try.ntmps42
  go_upto_region 1 with (fail)
  go_cut [35] (fun v35 wc => ∃ (kq : Nat) (x35_2 : Bool), v35 = .bool x35_2 ∧ Aside0 (spec_QuatTurn.j0 kq l0 l1 x35_2 = some (r1, r2)) ∧ Aside0 (kq ≤ k) ∧ Aside0 (Below w.heap.size w wc))
  case first =>
    have H := HC3.out
    clear HC3
    by_cases c4 : (l1.length : Int) = 3
    · rw [if_pos c4] at H
      have c4b0 : ((l1.length : Int) == 3) = true := beq_iff_eq.mpr c4
      have c4b1 : ((l1.length : Int) != 3) = false := bne_eq_false_iff_eq.mpr c4
      clear c4
      (first | rw [c4b0] | (simp only [i64_w, i32_w]; rw [c4b0]) | skip)
      by_cases c5 : 0 < (l1.length : Int)
      · rw [if_pos c5] at H
        have c5b0 : decide (0 < (l1.length : Int)) = true := decide_eq_true c5
        have c5b1 : decide (0 < l1.length) = true := decide_eq_true (by omega)
        clear c5
        replace H := Option.bind_eq_some_iff.mp H
        obtain ⟨t128, A60, H⟩ := H
        replace H : (if t128 = true then (if 1 < (l1.length : Int) then ((spec_l6In.f (rd l1 1) (-100) 100).bind fun t130 => (if t130 = true then (if 2 < (l1.length : Int) then ((spec_l6In.f (rd l1 2) (-100) 100).bind fun t132 => (spec_QuatTurn.j0 k l0 l1 (!t132))) else (none)) else (spec_QuatTurn.j0 k l0 l1 true))) else (none)) else (spec_QuatTurn.j0 k l0 l1 true)) = some (r1, r2) := H
        have A6 := Aside0.mk A60
        clear A60
        by_cases c7 : t128 = true
        · subst c7
          have H1 : (if 1 < (l1.length : Int) then ((spec_l6In.f (rd l1 1) (-100) 100).bind fun t130 => (if t130 = true then (if 2 < (l1.length : Int) then ((spec_l6In.f (rd l1 2) (-100) 100).bind fun t132 => (spec_QuatTurn.j0 k l0 l1 (!t132))) else (none)) else (spec_QuatTurn.j0 k l0 l1 true))) else (none)) = some (r1, r2) := by rw [if_pos rfl] at H; exact H
          clear H
          have H := H1
          clear H1
          by_cases c8 : 1 < (l1.length : Int)
          · rw [if_pos c8] at H
            have c8b0 : decide (1 < (l1.length : Int)) = true := decide_eq_true c8
            have c8b1 : decide (1 < l1.length) = true := decide_eq_true (by omega)
            clear c8
            replace H := Option.bind_eq_some_iff.mp H
            obtain ⟨t130, A90, H⟩ := H
            replace H : (if t130 = true then (if 2 < (l1.length : Int) then ((spec_l6In.f (rd l1 2) (-100) 100).bind fun t132 => (spec_QuatTurn.j0 k l0 l1 (!t132))) else (none)) else (spec_QuatTurn.j0 k l0 l1 true)) = some (r1, r2) := H
            have A9 := Aside0.mk A90
            clear A90
            by_cases c10 : t130 = true
            · subst c10
              have H1 : (if 2 < (l1.length : Int) then ((spec_l6In.f (rd l1 2) (-100) 100).bind fun t132 => (spec_QuatTurn.j0 k l0 l1 (!t132))) else (none)) = some (r1, r2) := by rw [if_pos rfl] at H; exact H
              clear H
              have H := H1
              clear H1
              by_cases c11 : 2 < (l1.length : Int)
              · rw [if_pos c11] at H
                have c11b0 : decide (2 < (l1.length : Int)) = true := decide_eq_true c11
                have c11b1 : decide (2 < l1.length) = true := decide_eq_true (by omega)
                clear c11
                replace H := Option.bind_eq_some_iff.mp H
                obtain ⟨t132, A120, H⟩ := H
                replace H : (spec_QuatTurn.j0 k l0 l1 (!t132)) = some (r1, r2) := H
                have A12 := Aside0.mk A120
                clear A120
                have H' := Aside0.mk H
                clear H
                have p127 : 0 ≤ (0 : Int) := (by omega)
                have q127 : 0 < (l1.length : Int) := of_decide_eq_true (by first | (with_reducible assumption) | assumption)
                obtain ⟨ad127, e127, hx127_0⟩ := Kd.at_int HR1.out 0 p127 q127
                cases e127
                have qi127 : (0 < l1.length) = True := eq_true (by omega)
                (try rw [show ((0 : Int)).toNat = 0 from rfl] at hx127_0)
                (try rw [Addr.add_zero'] at hx127_0)
                replace hx127_0 := (HB.out.cell (World.block_lt_of_cell? w _ hx127_0)).trans hx127_0
                replace p127 := eq_true p127
                replace q127 := eq_true q127
                go_wp2_with (first | (go_at_call 53; (with_reducible refine (spec_l6In.calls (rd l1 0) (-100) 100 true _ A6.out).mono ?_); rintro e w' ⟨rfl, ⟨nd, rfl⟩⟩; have p129 : 0 ≤ (1 : Int) := (by omega); have q129 : 1 < (l1.length : Int) := of_decide_eq_true (by first | (with_reducible assumption) | assumption); obtain ⟨ad129, e129, hx129_0⟩ := Kd.at_int HR1.out 1 p129 q129; obtain rfl : ad127 = ad129 := (by injection e129); (try simp only [show (1 : Int).toNat = 1 from rfl, Nat.reduceMul, Nat.reduceEqDiff, Go.Addr.add, ↓reduceIte] at hx129_0); have qi129 : (1 < l1.length) = True := eq_true (by omega); (try rw [show ((1 : Int)).toNat = 1 from rfl] at hx129_0); replace hx129_0 := (HB.out.cell (World.block_lt_of_cell? w _ hx129_0)).trans hx129_0; replace p129 := eq_true p129; replace q129 := eq_true q129) | (go_at_call 53; (with_reducible refine (spec_l6In.calls (rd l1 1) (-100) 100 true _ A9.out).mono ?_); rintro e w' ⟨rfl, ⟨nd, rfl⟩⟩; have p131 : 0 ≤ (2 : Int) := (by omega); have q131 : 2 < (l1.length : Int) := of_decide_eq_true (by first | (with_reducible assumption) | assumption); obtain ⟨ad131, e131, hx131_0⟩ := Kd.at_int HR1.out 2 p131 q131; obtain rfl : ad127 = ad131 := (by injection e131); (try simp only [show (2 : Int).toNat = 2 from rfl, Nat.reduceMul, Nat.reduceEqDiff, Go.Addr.add, ↓reduceIte] at hx131_0); have qi131 : (2 < l1.length) = True := eq_true (by omega); (try rw [show ((2 : Int)).toNat = 2 from rfl] at hx131_0); replace hx131_0 := (HB.out.cell (World.block_lt_of_cell? w _ hx131_0)).trans hx131_0; replace p131 := eq_true p131; replace q131 := eq_true q131) | (go_at_call 53; (with_reducible refine (spec_l6In.calls (rd l1 2) (-100) 100 t132 _ A12.out).mono ?_); rintro e w' ⟨rfl, ⟨nd, rfl⟩⟩))
                go_meet
                case rel => exact ⟨_, (!t132), Sqz.auS, H', ⟨Sqz.auN⟩, ⟨Sqz.auHB⟩⟩
              · rw [if_neg c11] at H
                exact absurd H (by simp)
            · replace c10 := Bool.eq_false_iff.mpr c10
              subst c10
              have H1 : (spec_QuatTurn.j0 k l0 l1 true) = some (r1, r2) := by rw [if_neg (show ¬ (false = true) by decide)] at H; exact H
              clear H
              have H := H1
              clear H1
              have H' := Aside0.mk H
              clear H
              have p127 : 0 ≤ (0 : Int) := (by omega)
              have q127 : 0 < (l1.length : Int) := of_decide_eq_true (by first | (with_reducible assumption) | assumption)
              obtain ⟨ad127, e127, hx127_0⟩ := Kd.at_int HR1.out 0 p127 q127
              cases e127
              have qi127 : (0 < l1.length) = True := eq_true (by omega)
              (try rw [show ((0 : Int)).toNat = 0 from rfl] at hx127_0)
              (try rw [Addr.add_zero'] at hx127_0)
              replace hx127_0 := (HB.out.cell (World.block_lt_of_cell? w _ hx127_0)).trans hx127_0
              replace p127 := eq_true p127
              replace q127 := eq_true q127
              go_wp2_with (first | (go_at_call 53; (with_reducible refine (spec_l6In.calls (rd l1 0) (-100) 100 true _ A6.out).mono ?_); rintro e w' ⟨rfl, ⟨nd, rfl⟩⟩; have p129 : 0 ≤ (1 : Int) := (by omega); have q129 : 1 < (l1.length : Int) := of_decide_eq_true (by first | (with_reducible assumption) | assumption); obtain ⟨ad129, e129, hx129_0⟩ := Kd.at_int HR1.out 1 p129 q129; obtain rfl : ad127 = ad129 := (by injection e129); (try simp only [show (1 : Int).toNat = 1 from rfl, Nat.reduceMul, Nat.reduceEqDiff, Go.Addr.add, ↓reduceIte] at hx129_0); have qi129 : (1 < l1.length) = True := eq_true (by omega); (try rw [show ((1 : Int)).toNat = 1 from rfl] at hx129_0); replace hx129_0 := (HB.out.cell (World.block_lt_of_cell? w _ hx129_0)).trans hx129_0; replace p129 := eq_true p129; replace q129 := eq_true q129) | (go_at_call 53; (with_reducible refine (spec_l6In.calls (rd l1 1) (-100) 100 false _ A9.out).mono ?_); rintro e w' ⟨rfl, ⟨nd, rfl⟩⟩))
              go_meet
              case rel => exact ⟨_, (true), Sqz.auS, H', ⟨Sqz.auN⟩, ⟨Sqz.auHB⟩⟩
          · rw [if_neg c8] at H
            exact absurd H (by simp)
        · replace c7 := Bool.eq_false_iff.mpr c7
          subst c7
          have H1 : (spec_QuatTurn.j0 k l0 l1 true) = some (r1, r2) := by rw [if_neg (show ¬ (false = true) by decide)] at H; exact H
          clear H
          have H := H1
          clear H1
          have H' := Aside0.mk H
          clear H
          have p127 : 0 ≤ (0 : Int) := (by omega)
          have q127 : 0 < (l1.length : Int) := of_decide_eq_true (by first | (with_reducible assumption) | assumption)
          obtain ⟨ad127, e127, hx127_0⟩ := Kd.at_int HR1.out 0 p127 q127
          cases e127
          have qi127 : (0 < l1.length) = True := eq_true (by omega)
          (try rw [show ((0 : Int)).toNat = 0 from rfl] at hx127_0)
          (try rw [Addr.add_zero'] at hx127_0)
          replace hx127_0 := (HB.out.cell (World.block_lt_of_cell? w _ hx127_0)).trans hx127_0
          replace p127 := eq_true p127
          replace q127 := eq_true q127
          go_wp2_with (first | (go_at_call 53; (with_reducible refine (spec_l6In.calls (rd l1 0) (-100) 100 false _ A6.out).mono ?_); rintro e w' ⟨rfl, ⟨nd, rfl⟩⟩))
          go_meet
          case rel => exact ⟨_, (true), Sqz.auS, H', ⟨Sqz.auN⟩, ⟨Sqz.auHB⟩⟩
      · rw [if_neg c5] at H
        exact absurd H (by simp)
    · rw [if_neg c4] at H
      have c4b0 : ((l1.length : Int) == 3) = false := beq_eq_false_iff_ne.mpr c4
      have c4b1 : ((l1.length : Int) != 3) = true := bne_iff_ne.mpr c4
      (first | rw [c4b0] | (simp only [i64_w, i32_w]; rw [c4b0]) | skip)
      have H' := Aside0.mk H
      clear H
      go_wp2
      go_meet
      case rel => exact ⟨_, (true), Sqz.auS, H', ⟨Sqz.auN⟩, ⟨Sqz.auHB⟩⟩
  case rest =>
    clear HC3
    try clear c1
    try clear p1
    try clear q1
    try clear hx1
    try clear qi1
    try clear p2
    try clear c4
    try clear c4b0
    try clear c4b1
    try clear c5
    try clear c5b0
    try clear c5b1
    try clear c7
    try clear c8
    try clear c8b0
    try clear c8b1
    try clear c10
    try clear c11
    try clear c11b0
    try clear c11b1
    try clear p12
    try clear q12
    try clear hx12
    try clear qi12
    try clear hx127_0
    try clear hx129_0
    try clear hx131_0
    try clear p127
    try clear p129
    try clear p131
    try clear q127
    try clear q129
    try clear q131
    obtain ⟨kq, x35_2, rfl, HA, HJ2, HB⟩ := hcut
    cases kq with
    | zero => exact absurd HA.out (by simp [spec_QuatTurn.j0])
    | succ kj2 =>
      have H := HA.out
      clear HA
      simp only [spec_QuatTurn.j0] at H
      by_cases c13 : x35_2 = true
      · subst c13
        have H1 : (some ((([] : List Int)), false)) = some (r1, r2) := by rw [if_pos rfl] at H; exact H
        clear H
        have H := H1
        clear H1
        obtain ⟨y133, hy133⟩ : ∃ y_ : List Int, y_ = (([] : List Int)) := ⟨_, rfl⟩
        replace H : (some (y133, false)) = some (r1, r2) := by first | (rw [hy133]; with_reducible exact H) | (have H2_ := (Option.bind_some _ _).symm.trans H; rw [hy133]; with_reducible exact H2_) | (have H2_ := (Option.bind_some _ _).symm.trans H; with_reducible exact H2_) | with_reducible exact H | (rw [hy133]; exact H) | exact H
        have Ny133 := Aside0.mk hy133
        clear hy133
        simp only [Option.some.injEq, Prod.mk.injEq] at H
        obtain ⟨rfl, rfl⟩ := H
        go_wp2_with (first | ((with_reducible refine gate_dst (N := 36) rfl ?_); refine Kd.R_lit (Kd.int .i64) _ 3 ?hg (N := 36) ?hd (xs := ([] : List Int)) (inner := []) (ok := fun _ => True) (okp := fun _ => True) ?hr ?hp (fun _ hk => hk) trivial (Below.refl _ _) (Nat.le_refl _) (by simp) ?_; (case hd => rfl); (case hg => rfl); (case hr => first | (go_simp; done) | (go_simp; rfl)); (case hp => exact (Reps.none _ _)); intro v134 w14 ho15 hb hg_ hnew_; clear hg_ hnew_; (first | rw [← Ny133.out] at ho15 | (simp only [Int.reduceToNat] at ho15; rw [← Ny133.out] at ho15)); have n0_ := Aside0.mk (Kd.R_lower ho15 (below_size (Sqz.auHB))); have n1_ := Aside0.mk (below_step (Sqz.auHB) hb); clear HB; have HO135 := n0_; have HB := n1_; clear n0_ n1_; clear hb ho15))
        go_ret2
        exact ⟨_, Sqz.auR, Kd.Q_of_R ((Sqz.mvR HO135.out)), Sqz.auHB⟩
      · replace c13 := Bool.eq_false_iff.mpr c13
        subst c13
        have H1 : (if 0 < (l1.length : Int) then (if 1 < (l1.length : Int) then (if 2 < (l1.length : Int) then ((spec_QuatMul.f kj2 l0 (([0, rd l1 0, rd l1 1, rd l1 2] : List Int))).bind fun bt142 => ((spec_QuatConj.f kj2 l0).bind fun bt146 => ((spec_QuatMul.f kj2 bt142.1 bt146.1).bind fun bt150 => (if bt142.2 = true then (if bt146.2 = true then (if bt150.2 = true then (if 1 ≤ (bt150.1.length : Int) then (some ((bt150.1.drop (1 : Int).toNat), true)) else (none)) else (some ((([] : List Int)), false))) else (some ((([] : List Int)), false))) else (some ((([] : List Int)), false)))))) else (none)) else (none)) else (none)) = some (r1, r2) := by rw [if_neg (show ¬ (false = true) by decide)] at H; exact H
        clear H
        have H := H1
        clear H1
        by_cases c16 : 0 < (l1.length : Int)
        · rw [if_pos c16] at H
          have c16b0 : decide (0 < (l1.length : Int)) = true := decide_eq_true c16
          have c16b1 : decide (0 < l1.length) = true := decide_eq_true (by omega)
          clear c16
          by_cases c17 : 1 < (l1.length : Int)
          · rw [if_pos c17] at H
            have c17b0 : decide (1 < (l1.length : Int)) = true := decide_eq_true c17
            have c17b1 : decide (1 < l1.length) = true := decide_eq_true (by omega)
            clear c17
            by_cases c18 : 2 < (l1.length : Int)
            · rw [if_pos c18] at H
              have c18b0 : decide (2 < (l1.length : Int)) = true := decide_eq_true c18
              have c18b1 : decide (2 < l1.length) = true := decide_eq_true (by omega)
              clear c18
              obtain ⟨y139, hy139⟩ : ∃ y_ : List Int, y_ = (([0, rd l1 0, rd l1 1, rd l1 2] : List Int)) := ⟨_, rfl⟩
              replace H : ((spec_QuatMul.f kj2 l0 y139).bind fun bt142 => ((spec_QuatConj.f kj2 l0).bind fun bt146 => ((spec_QuatMul.f kj2 bt142.1 bt146.1).bind fun bt150 => (if bt142.2 = true then (if bt146.2 = true then (if bt150.2 = true then (if 1 ≤ (bt150.1.length : Int) then (some ((bt150.1.drop (1 : Int).toNat), true)) else (none)) else (some ((([] : List Int)), false))) else (some ((([] : List Int)), false))) else (some ((([] : List Int)), false)))))) = some (r1, r2) := by first | (rw [hy139]; with_reducible exact H) | (have H2_ := (Option.bind_some _ _).symm.trans H; rw [hy139]; with_reducible exact H2_) | (have H2_ := (Option.bind_some _ _).symm.trans H; with_reducible exact H2_) | with_reducible exact H | (rw [hy139]; exact H) | exact H
              have Ny139 := Aside0.mk hy139
              clear hy139
              replace H := Option.bind_eq_some_iff.mp H
              obtain ⟨⟨t142, t143⟩, A190, H⟩ := H
              replace H : ((spec_QuatConj.f kj2 l0).bind fun bt146 => ((spec_QuatMul.f kj2 t142 bt146.1).bind fun bt150 => (if t143 = true then (if bt146.2 = true then (if bt150.2 = true then (if 1 ≤ (bt150.1.length : Int) then (some ((bt150.1.drop (1 : Int).toNat), true)) else (none)) else (some ((([] : List Int)), false))) else (some ((([] : List Int)), false))) else (some ((([] : List Int)), false))))) = some (r1, r2) := H
              have A19 := Aside0.mk A190
              clear A190
              replace H := Option.bind_eq_some_iff.mp H
              obtain ⟨⟨t146, t147⟩, A200, H⟩ := H
              replace H : ((spec_QuatMul.f kj2 t142 t146).bind fun bt150 => (if t143 = true then (if t147 = true then (if bt150.2 = true then (if 1 ≤ (bt150.1.length : Int) then (some ((bt150.1.drop (1 : Int).toNat), true)) else (none)) else (some ((([] : List Int)), false))) else (some ((([] : List Int)), false))) else (some ((([] : List Int)), false)))) = some (r1, r2) := H
              have A20 := Aside0.mk A200
              clear A200
              replace H := Option.bind_eq_some_iff.mp H
              obtain ⟨⟨t150, t151⟩, A210, H⟩ := H
              replace H : (if t143 = true then (if t147 = true then (if t151 = true then (if 1 ≤ (t150.length : Int) then (some ((t150.drop (1 : Int).toNat), true)) else (none)) else (some ((([] : List Int)), false))) else (some ((([] : List Int)), false))) else (some ((([] : List Int)), false))) = some (r1, r2) := H
              have A21 := Aside0.mk A210
              clear A210
              by_cases c22 : t143 = true
              · subst c22
                have H1 : (if t147 = true then (if t151 = true then (if 1 ≤ (t150.length : Int) then (some ((t150.drop (1 : Int).toNat), true)) else (none)) else (some ((([] : List Int)), false))) else (some ((([] : List Int)), false))) = some (r1, r2) := by rw [if_pos rfl] at H; exact H
                clear H
                have H := H1
                clear H1
                by_cases c23 : t147 = true
                · subst c23
                  have H1 : (if t151 = true then (if 1 ≤ (t150.length : Int) then (some ((t150.drop (1 : Int).toNat), true)) else (none)) else (some ((([] : List Int)), false))) = some (r1, r2) := by rw [if_pos rfl] at H; exact H
                  clear H
                  have H := H1
                  clear H1
                  by_cases c24 : t151 = true
                  · subst c24
                    have H1 : (if 1 ≤ (t150.length : Int) then (some ((t150.drop (1 : Int).toNat), true)) else (none)) = some (r1, r2) := by rw [if_pos rfl] at H; exact H
                    clear H
                    have H := H1
                    clear H1
                    by_cases c25 : 1 ≤ (t150.length : Int)
                    · rw [if_pos c25] at H
                      have c25b0 := eq_true c25
                      have c25b1 : decide (1 ≤ (t150.length : Int)) = true := decide_eq_true c25
                      clear c25
                      obtain ⟨y154, hy154⟩ : ∃ y_ : List Int, y_ = (t150.drop (1 : Int).toNat) := ⟨_, rfl⟩
                      replace H : (some (y154, true)) = some (r1, r2) := by first | (rw [hy154]; with_reducible exact H) | (have H2_ := (Option.bind_some _ _).symm.trans H; rw [hy154]; with_reducible exact H2_) | (have H2_ := (Option.bind_some _ _).symm.trans H; with_reducible exact H2_) | with_reducible exact H | (rw [hy154]; exact H) | exact H
                      have Ny154 := Aside0.mk hy154
                      clear hy154
                      simp only [Option.some.injEq, Prod.mk.injEq] at H
                      obtain ⟨rfl, rfl⟩ := H
                      try go_wp2
                      have n0_ := Aside0.mk (below_drew1 HB.out)
                      clear HB
                      have HB := n0_
                      clear n0_
                      have p136 : 0 ≤ (0 : Int) := (by omega)
                      have q136 : 0 < (l1.length : Int) := of_decide_eq_true (by first | (with_reducible assumption) | assumption)
                      obtain ⟨ad136, e136, hx136_0⟩ := Kd.at_int HR1.out 0 p136 q136
                      have hw136_0 := hx136_0
                      (try rw [show ((0 : Int)).toNat = 0 from rfl] at hw136_0)
                      (try rw [show 0 * 1 = 0 from rfl] at hw136_0)
                      (try rw [Addr.add_zero'] at hw136_0)
                      cases e136
                      have qi136 : (0 < l1.length) = True := eq_true (by omega)
                      (try rw [show ((0 : Int)).toNat = 0 from rfl] at hx136_0)
                      (try rw [Addr.add_zero'] at hx136_0)
                      replace hx136_0 := (HB.out.cell (World.block_lt_of_cell? w _ hx136_0)).trans hx136_0
                      replace p136 := eq_true p136
                      replace q136 := eq_true q136
                      have p137 : 0 ≤ (1 : Int) := (by omega)
                      have q137 : 1 < (l1.length : Int) := of_decide_eq_true (by first | (with_reducible assumption) | assumption)
                      obtain ⟨ad137, e137, hx137_0⟩ := Kd.at_int HR1.out 1 p137 q137
                      have hw137_0 := hx137_0
                      (try rw [show ((1 : Int)).toNat = 1 from rfl] at hw137_0)
                      (try rw [show 1 * 1 = 1 from rfl] at hw137_0)
                      (try simp only [Nat.reduceMul, Nat.reduceEqDiff, Go.Addr.add, ↓reduceIte] at hw137_0)
                      obtain rfl : ad136 = ad137 := (by injection e137)
                      (try simp only [show (1 : Int).toNat = 1 from rfl, Nat.reduceMul, Nat.reduceEqDiff, Go.Addr.add, ↓reduceIte] at hx137_0)
                      have qi137 : (1 < l1.length) = True := eq_true (by omega)
                      (try rw [show ((1 : Int)).toNat = 1 from rfl] at hx137_0)
                      replace hx137_0 := (HB.out.cell (World.block_lt_of_cell? w _ hx137_0)).trans hx137_0
                      replace p137 := eq_true p137
                      replace q137 := eq_true q137
                      have p138 : 0 ≤ (2 : Int) := (by omega)
                      have q138 : 2 < (l1.length : Int) := of_decide_eq_true (by first | (with_reducible assumption) | assumption)
                      obtain ⟨ad138, e138, hx138_0⟩ := Kd.at_int HR1.out 2 p138 q138
                      have hw138_0 := hx138_0
                      (try rw [show ((2 : Int)).toNat = 2 from rfl] at hw138_0)
                      (try rw [show 2 * 1 = 2 from rfl] at hw138_0)
                      (try simp only [Nat.reduceMul, Nat.reduceEqDiff, Go.Addr.add, ↓reduceIte] at hw138_0)
                      obtain rfl : ad136 = ad138 := (by injection e138)
                      (try simp only [show (2 : Int).toNat = 2 from rfl, Nat.reduceMul, Nat.reduceEqDiff, Go.Addr.add, ↓reduceIte] at hx138_0)
                      have qi138 : (2 < l1.length) = True := eq_true (by omega)
                      (try rw [show ((2 : Int)).toNat = 2 from rfl] at hx138_0)
                      replace hx138_0 := (HB.out.cell (World.block_lt_of_cell? w _ hx138_0)).trans hx138_0
                      replace p138 := eq_true p138
                      replace q138 := eq_true q138
                      refine start_ (n := 17) (S := fun w' => w'.cell? ad136 = some (.int .i64 (rd l1 0)) ∧ w'.cell? ⟨ad136.block, ad136.off + 1, none⟩ = some (.int .i64 (rd l1 1)) ∧ w'.cell? ⟨ad136.block, ad136.off + 2, none⟩ = some (.int .i64 (rd l1 2))) (ds := []) #[false, false, false, false, false, false, false, false, false, false, false, false, false, false, false, false, false] (by kernel_rfl) rfl rfl ⟨((HB.out.cell (World.block_lt_of_cell? w _ hw136_0)).trans hw136_0), ((HB.out.cell (World.block_lt_of_cell? w _ hw137_0)).trans hw137_0), ((HB.out.cell (World.block_lt_of_cell? w _ hw138_0)).trans hw138_0)⟩ (fun hHeld => ?_); refine with_tabW spec_QuatTurn.tab3 spec_QuatTurn.bits3 (fun HT_ HW_ => ?_)
                      generalize wc.drew = w26 at HB hx136_0 hx137_0 hx138_0 hHeld ⊢
                      refine pure_ (i := 0) (N := some 38) (v := ?_) (a' := ?_) #[true, false, false, false, false, false, false, false, false, false, false, false, false, false, false, false, false] rfl rfl (any_of HT_.out (by kernel_rfl)) (fun _ _ _ h => h) (Or.inl ⟨by rfl, ?_⟩) ?_ ?_
                      rotate_left
                      · intro w'
                        go_simp
                        with_reducible rfl
                      rotate_left
                      · simp only [Act.put, List.setIfInBounds_toArray, List.set_cons_zero, List.set_cons_succ, i64_w, i32_w]
                        rfl
                      refine pure_ (i := 1) (N := some 39) (v := ?_) (a' := ?_) #[true, true, false, false, false, false, false, false, false, false, false, false, false, false, false, false, false] rfl rfl (any_of HT_.out (by kernel_rfl)) (fun _ _ _ h => h) (Or.inl ⟨by rfl, ?_⟩) ?_ ?_
                      rotate_left
                      · intro w'
                        go_simp
                        with_reducible rfl
                      rotate_left
                      · simp only [Act.put, List.setIfInBounds_toArray, List.set_cons_zero, List.set_cons_succ, i64_w, i32_w]
                        rfl
                      refine pure_ (i := 2) (N := some 40) (v := ?_) (a' := ?_) #[true, true, true, false, false, false, false, false, false, false, false, false, false, false, false, false, false] rfl rfl (any_of HT_.out (by kernel_rfl)) (fun _ _ _ h => h) (Or.inl ⟨by rfl, ?_⟩) ?_ ?_
                      rotate_left
                      · intro w'
                        go_simp
                        with_reducible rfl
                      rotate_left
                      · simp only [Act.put, List.setIfInBounds_toArray, List.set_cons_zero, List.set_cons_succ, i64_w, i32_w]
                        rfl
                      refine pure_ (i := 4) (N := some 42) (v := ?_) (a' := ?_) #[true, true, true, false, true, false, false, false, false, false, false, false, false, false, false, false, false] rfl rfl (any_of HT_.out (by kernel_rfl)) (fun _ _ _ h => h) (Or.inl ⟨by rfl, ?_⟩) ?_ ?_
                      rotate_left
                      · intro w'
                        go_simp
                        with_reducible rfl
                      rotate_left
                      · simp only [Act.put, List.setIfInBounds_toArray, List.set_cons_zero, List.set_cons_succ, i64_w, i32_w]
                        rfl
                      refine pure_ (i := 5) (N := some 43) (v := ?_) (a' := ?_) #[true, true, true, false, true, true, false, false, false, false, false, false, false, false, false, false, false] rfl rfl (any_of HT_.out (by kernel_rfl)) (fun _ _ _ h => h) (Or.inl ⟨by rfl, ?_⟩) ?_ ?_
                      rotate_left
                      · intro w'
                        go_simp
                        with_reducible rfl
                      rotate_left
                      · simp only [Act.put, List.setIfInBounds_toArray, List.set_cons_zero, List.set_cons_succ, i64_w, i32_w]
                        rfl
                      refine pure_ (i := 7) (N := some 45) (v := ?_) (a' := ?_) #[true, true, true, false, true, true, false, true, false, false, false, false, false, false, false, false, false] rfl rfl (any_of HT_.out (by kernel_rfl)) (fun _ _ _ h => h) (Or.inl ⟨by rfl, ?_⟩) ?_ ?_
                      rotate_left
                      · intro w'
                        go_simp
                        with_reducible rfl
                      rotate_left
                      · simp only [Act.put, List.setIfInBounds_toArray, List.set_cons_zero, List.set_cons_succ, i64_w, i32_w]
                        rfl
                      refine pure_ (i := 8) (N := some 46) (v := ?_) (a' := ?_) #[true, true, true, false, true, true, false, true, true, false, false, false, false, false, false, false, false] rfl rfl (any_of HT_.out (by kernel_rfl)) (fun _ _ _ h => h) (Or.inl ⟨by rfl, ?_⟩) ?_ ?_
                      rotate_left
                      · intro w'
                        go_simp
                        with_reducible rfl
                      rotate_left
                      · simp only [Act.put, List.setIfInBounds_toArray, List.set_cons_zero, List.set_cons_succ, i64_w, i32_w]
                        rfl
                      refine take_ (i := 3) (N := some 41) (v := ?_) (a' := ?_) #[true, true, true, true, true, true, false, true, true, false, false, false, false, false, false, false, false] rfl rfl (take_ofW HT_.out HW_.out (by kernel_rfl)) (fun _ _ _ h => h) (Or.inl ⟨by rfl, ?_⟩) hHeld ?_ ?_
                      rotate_left
                      · rintro w' ⟨s0, s1, s2⟩
                        go_simp
                        with_reducible rfl
                      rotate_left
                      · simp only [Act.put, List.setIfInBounds_toArray, List.set_cons_zero, List.set_cons_succ, i64_w, i32_w]
                        rfl
                      refine take_ (i := 6) (N := some 44) (v := ?_) (a' := ?_) #[true, true, true, true, true, true, true, true, true, false, false, false, false, false, false, false, false] rfl rfl (take_ofW HT_.out HW_.out (by kernel_rfl)) (fun _ _ _ h => h) (Or.inl ⟨by rfl, ?_⟩) hHeld ?_ ?_
                      rotate_left
                      · rintro w' ⟨s0, s1, s2⟩
                        go_simp
                        with_reducible rfl
                      rotate_left
                      · simp only [Act.put, List.setIfInBounds_toArray, List.set_cons_zero, List.set_cons_succ, i64_w, i32_w]
                        rfl
                      refine take_ (i := 9) (N := some 47) (v := ?_) (a' := ?_) #[true, true, true, true, true, true, true, true, true, true, false, false, false, false, false, false, false] rfl rfl (take_ofW HT_.out HW_.out (by kernel_rfl)) (fun _ _ _ h => h) (Or.inl ⟨by rfl, ?_⟩) hHeld ?_ ?_
                      rotate_left
                      · rintro w' ⟨s0, s1, s2⟩
                        go_simp
                        with_reducible rfl
                      rotate_left
                      · simp only [Act.put, List.setIfInBounds_toArray, List.set_cons_zero, List.set_cons_succ, i64_w, i32_w]
                        rfl
                      refine one_ (i := 10) (N := some 48) #[true, true, true, true, true, true, true, true, true, true, true, false, false, false, false, false, false] rfl rfl (one_of HT_.out (by kernel_rfl)) (by decide) (fun K hK => ?_)
                      refine Kd.R_lit_step (Kd.int .i64) _ 3 ?hg (N := 48) ?hd (xs := ([0, rd l1 0, rd l1 1, rd l1 2] : List Int)) (inner := [.int .i64 0, .int .i64 (rd l1 0), .int .i64 (rd l1 1), .int .i64 (rd l1 2)]) (ok := fun _ => True) (okp := fun _ => True) ?hr ?hp (fun _ hk => hk) trivial (Below.refl _ _) (Nat.le_refl _) (by simp) ?_; (case hd => rfl); (case hg => rfl); (case hr => first | (go_simp; done) | (go_simp; rfl)); (case hp => exact (Reps.one (show Kd.M (Kd.int .i64) _ _ _ 0 [.int .i64 0] from rfl) (Reps.one (show Kd.M (Kd.int .i64) _ _ _ (rd l1 0) [.int .i64 (rd l1 0)] from rfl) (Reps.one (show Kd.M (Kd.int .i64) _ _ _ (rd l1 1) [.int .i64 (rd l1 1)] from rfl) (Reps.one (show Kd.M (Kd.int .i64) _ _ _ (rd l1 2) [.int .i64 (rd l1 2)] from rfl) (Reps.none _ _))))))
                      intro v140 w27 ho28 hb hg_ hnew_
                      clear hg_ hnew_
                      (first | rw [← Ny139.out] at ho28 | (simp only [Int.reduceToNat] at ho28; rw [← Ny139.out] at ho28))
                      have n0_ := Aside0.mk (Kd.R_lower ho28 (below_size (Sqz.auHB)))
                      have n1_ := Aside0.mk (below_step (Sqz.auHB) hb)
                      clear HB
                      have HO141 := n0_
                      have HB := n1_
                      clear n0_ n1_
                      clear hb ho28
                      obtain ⟨Ao29, co29, eo29⟩ := Kd.R_slice HO141.out
                      (first | subst eo29 | (injection eo29 with f1_ f2_ f3_; have f4_ := f1_.symm; have f5_ := f3_.symm; clear f1_ f2_ f3_; subst f4_; subst f5_))
                      refine hK.out _ _ ⟨((HB.out.cell (World.block_lt_of_cell? w _ hw136_0)).trans hw136_0), ((HB.out.cell (World.block_lt_of_cell? w _ hw137_0)).trans hw137_0), ((HB.out.cell (World.block_lt_of_cell? w _ hw138_0)).trans hw138_0)⟩ (fun hHeld => ?_)
                      clear hK K
                      refine norm_ (a' := ?_) ?_ ?_
                      rotate_left
                      · show Act.put _ (some 48) _ = _
                        simp only [Act.put, List.setIfInBounds_toArray, List.set_cons_zero, List.set_cons_succ, i64_w, i32_w]
                        rfl
                      refine one_ (i := 11) (N := some 49) #[true, true, true, true, true, true, true, true, true, true, true, true, false, false, false, false, false] rfl rfl (one_of HT_.out (by kernel_rfl)) (by decide) (fun K hK => ?_)
                      refine goes_ Try.func19 (by kernel_rfl) rfl #[.slice A0 l0.length c0, .slice Ao29 y139.length co29] (by rfl) rfl rfl Sqz.auM ?_
                      with_reducible refine (spec_QuatMul.calls kj2 _ _ l0 _ _ y139 t142 true _ ?side1 ?side2 ?side3 ?side4 A19.out).mono ?_
                      (case side1 => exact Sqz.mvC ((Kd.C_below HR0.out HB.out)))
                      (case side2 => exact HC0.out)
                      (case side3 => exact Sqz.mvC ((Kd.R_reads' HO141.out).2.2))
                      (case side4 => exact (Kd.R_reads' HO141.out).2.1)
                      rintro e w30 ⟨v144, rfl, ho0, hb⟩
                      refine ⟨_, rfl, ?_⟩
                      have n0_ := Aside0.mk (Kd.R_elder' ((Sqz.mvR HO141.out)) (Kd.R_base ho0) hb)
                      have n1_ := Aside0.mk (Kd.R_lower (Kd.R_new' ho0 (Kd.R_lt ((Sqz.mvR HO141.out)))) (below_size (Sqz.auHB)))
                      have n2_ := Aside0.mk (below_step (Sqz.auHB) hb)
                      clear HO141
                      clear HB
                      have HO141 := n0_
                      have HO145 := n1_
                      have HB := n2_
                      clear n0_ n1_ n2_
                      (try clear hb)
                      (try clear hb2)
                      (try clear hk)
                      (try clear hi)
                      (try clear ho0)
                      refine hK.out _ _ ⟨((HB.out.cell (World.block_lt_of_cell? w _ hw136_0)).trans hw136_0), ((HB.out.cell (World.block_lt_of_cell? w _ hw137_0)).trans hw137_0), ((HB.out.cell (World.block_lt_of_cell? w _ hw138_0)).trans hw138_0)⟩ (fun hHeld => ?_)
                      clear hK K
                      refine norm_ (a' := ?_) ?_ ?_
                      rotate_left
                      · show Act.put _ (some 49) _ = _
                        simp only [Act.put, List.setIfInBounds_toArray, List.set_cons_zero, List.set_cons_succ, i64_w, i32_w]
                        rfl
                      refine pure_ (i := 12) (N := some 37) (v := ?_) (a' := ?_) #[true, true, true, true, true, true, true, true, true, true, true, true, true, false, false, false, false] rfl rfl (any_of HT_.out (by kernel_rfl)) (fun _ _ _ h => h) (Or.inl ⟨by rfl, ?_⟩) ?_ ?_
                      rotate_left
                      · intro w'
                        go_simp
                        with_reducible rfl
                      rotate_left
                      · simp only [Act.put, List.setIfInBounds_toArray, List.set_cons_zero, List.set_cons_succ, i64_w, i32_w]
                        rfl
                      refine pure_ (i := 13) (N := some 50) (v := ?_) (a' := ?_) #[true, true, true, true, true, true, true, true, true, true, true, true, true, true, false, false, false] rfl rfl (any_of HT_.out (by kernel_rfl)) (fun _ _ _ h => h) (Or.inl ⟨by rfl, ?_⟩) ?_ ?_
                      rotate_left
                      · intro w'
                        go_simp
                        with_reducible rfl
                      rotate_left
                      · simp only [Act.put, List.setIfInBounds_toArray, List.set_cons_zero, List.set_cons_succ, i64_w, i32_w]
                        rfl
                      refine pure_ (i := 14) (N := some 51) (v := ?_) (a' := ?_) #[true, true, true, true, true, true, true, true, true, true, true, true, true, true, true, false, false] rfl rfl (any_of HT_.out (by kernel_rfl)) (fun _ _ _ h => h) (Or.inl ⟨by rfl, ?_⟩) ?_ ?_
                      rotate_left
                      · intro w'
                        go_simp
                        with_reducible rfl
                      rotate_left
                      · simp only [Act.put, List.setIfInBounds_toArray, List.set_cons_zero, List.set_cons_succ, i64_w, i32_w]
                        rfl
                      refine pure_ (i := 15) (N := some 6) (v := ?_) (a' := ?_) #[true, true, true, true, true, true, true, true, true, true, true, true, true, true, true, true, false] rfl rfl (any_of HT_.out (by kernel_rfl)) (fun _ _ _ h => h) (Or.inl ⟨by rfl, ?_⟩) ?_ ?_
                      rotate_left
                      · intro w'
                        go_simp
                        with_reducible rfl
                      rotate_left
                      · simp only [Act.put, List.setIfInBounds_toArray, List.set_cons_zero, List.set_cons_succ, i64_w, i32_w]
                        rfl
                      refine pure_ (i := 16) (N := some 7) (v := ?_) (a' := ?_) #[true, true, true, true, true, true, true, true, true, true, true, true, true, true, true, true, true] rfl rfl (any_of HT_.out (by kernel_rfl)) (fun _ _ _ h => h) (Or.inl ⟨by rfl, ?_⟩) ?_ ?_
                      rotate_left
                      · intro w'
                        go_simp
                        with_reducible rfl
                      rotate_left
                      · simp only [Act.put, List.setIfInBounds_toArray, List.set_cons_zero, List.set_cons_succ, i64_w, i32_w]
                        rfl
                      refine done_ (done_of HT_.out (by kernel_rfl)) ?_
                      try go_wp2_with (first | ((with_reducible refine gate_callee (f := 62) rfl ?_); refine goesL_ (some 54) rfl rfl Try.func62 (by kernel_rfl) rfl #[.slice A0 l0.length c0] rfl Sqz.auM ?_; (with_reducible refine (spec_QuatConj.calls kj2 _ _ l0 t146 true _ ?side1 ?side2 A20.out).mono ?_); (case side1 => exact Sqz.mvC ((Kd.C_below HR0.out HB.out))); (case side2 => exact HC0.out); rintro e w31 ⟨v148, rfl, ho0, hb⟩; refine ⟨_, rfl, ?_⟩; have n0_ := Aside0.mk (Kd.R_elder' ((Sqz.mvR HO141.out)) (Kd.R_base ho0) hb); have n1_ := Aside0.mk (Kd.R_elder' ((Sqz.mvR HO145.out)) (Kd.R_base ho0) hb); have n2_ := Aside0.mk (Kd.R_lower (Kd.R_new' (Kd.R_new' ho0 (Kd.R_lt ((Sqz.mvR HO141.out)))) (Kd.R_lt ((Sqz.mvR HO145.out)))) (below_size (Sqz.auHB))); have n3_ := Aside0.mk (below_step (Sqz.auHB) hb); clear HO141; clear HO145; clear HB; have HO141 := n0_; have HO145 := n1_; have HO149 := n2_; have HB := n3_; clear n0_ n1_ n2_ n3_; (try clear hb); (try clear hb2); (try clear hk); (try clear hi); (try clear ho0); obtain ⟨Ao32, co32, eo32⟩ := Kd.R_slice HO145.out; subst eo32; obtain ⟨Ao33, co33, eo33⟩ := Kd.R_slice HO149.out; subst eo33) | ((with_reducible refine gate_callee (f := 19) rfl ?_); refine goesL_ (some 60) rfl rfl Try.func19 (by kernel_rfl) rfl #[.slice Ao32 t142.length co32, .slice Ao33 t146.length co33] rfl Sqz.auM ?_; (with_reducible refine (spec_QuatMul.calls kj2 _ _ t142 _ _ t146 t150 true _ ?side1 ?side2 ?side3 ?side4 A21.out).mono ?_); (case side1 => exact Sqz.mvC ((Kd.R_reads' HO145.out).2.2)); (case side2 => exact (Kd.R_reads' HO145.out).2.1); (case side3 => exact Sqz.mvC ((Kd.R_reads' HO149.out).2.2)); (case side4 => exact (Kd.R_reads' HO149.out).2.1); rintro e w34 ⟨v152, rfl, ho0, hb⟩; refine ⟨_, rfl, ?_⟩; have n0_ := Aside0.mk (Kd.R_elder' ((Sqz.mvR HO141.out)) (Kd.R_base ho0) hb); have n1_ := Aside0.mk (Kd.R_elder' ((Sqz.mvR HO145.out)) (Kd.R_base ho0) hb); have n2_ := Aside0.mk (Kd.R_elder' ((Sqz.mvR HO149.out)) (Kd.R_base ho0) hb); have n3_ := Aside0.mk (Kd.R_lower (Kd.R_new' (Kd.R_new' (Kd.R_new' ho0 (Kd.R_lt ((Sqz.mvR HO141.out)))) (Kd.R_lt ((Sqz.mvR HO145.out)))) (Kd.R_lt ((Sqz.mvR HO149.out)))) (below_size (Sqz.auHB))); have n4_ := Aside0.mk (below_step (Sqz.auHB) hb); clear HO141; clear HO145; clear HO149; clear HB; have HO141 := n0_; have HO145 := n1_; have HO149 := n2_; have HO153 := n3_; have HB := n4_; clear n0_ n1_ n2_ n3_ n4_; (try clear hb); (try clear hb2); (try clear hk); (try clear hi); (try clear ho0); obtain ⟨Ao35, co35, eo35⟩ := Kd.R_slice HO153.out; subst eo35; have n_ := Aside0.mk (Kd.R_mono (ok' := (fun k_ => some k_ ≠ (.slice Ao29 y139.length co29 : Value).ownBlock ∧ some k_ ≠ (.slice Ao32 t142.length co32 : Value).ownBlock ∧ some k_ ≠ (.slice Ao33 t146.length co33 : Value).ownBlock)) HO153.out (fun k_ hk => ⟨hk.1.1.2, ⟨hk.1.2, hk.2⟩⟩)); clear HO153; have HO153 := n_; clear n_; have q36 : (1 : Int) ≤ ((t150.length : Int) : Int) := of_decide_eq_true (by first | (with_reducible assumption) | assumption); obtain ⟨i036, hi036, _, hsz36, _⟩ := info_parts info3; have hcut36 := cut_from (P := Try.prog) 26 3 .i64 Try.underlying26 hi036 1 hsz36 Ao35 t150.length co35 1 (by omega) q36; have hr36 := Kd.Q_drop (k := (1 : Int).toNat) (Kd.Q_of_R HO153.out) (by omega); obtain ⟨A36, hA36⟩ : ∃ A1, A1 = (if co35 = (1 : Int).toNat then Ao35 else (Ao35 : Option Addr).map (·.add ((1 : Int).toNat * 1))) := ⟨_, rfl⟩; obtain ⟨c36, hc36⟩ : ∃ c1, c1 = co35 - (1 : Int).toNat := ⟨_, rfl⟩; have hy36 : y154.length = t150.length - (1 : Int).toNat := (by rw [Ny154.out, List.length_drop]); rw [← Ny154.out] at hr36; rw [← hy36, ← hA36, ← hc36] at hcut36; replace hr36 : Kd.Q (Kd.int .i64) 3 w34 w.heap.size (fun k_ => some k_ ≠ (.slice Ao29 y139.length co29 : Value).ownBlock ∧ some k_ ≠ (.slice Ao32 t142.length co32 : Value).ownBlock ∧ some k_ ≠ (.slice Ao33 t146.length co33 : Value).ownBlock) (.slice A36 y154.length c36) y154 := (by rw [hA36, hc36, hy36]; exact hr36); have HE36 : Aside0 ((Value.slice A36 y154.length c36).ownBlock = (.slice Ao35 t150.length co35 : Value).ownBlock) := ⟨by rw [hA36]; split <;> (cases (Ao35 : Option Addr) <;> rfl)⟩; clear hy36 hi036 hsz36 HO153 hA36 hc36; have HO156 := Aside0.mk hr36; clear hr36; replace q36 := eq_true q36; have n_ := Aside0.mk (Kd.R_mono (ok' := fun k_ => (((True ∧ some k_ ≠ (.slice Ao32 t142.length co32 : Value).ownBlock) ∧ some k_ ≠ (.slice Ao33 t146.length co33 : Value).ownBlock) ∧ some k_ ≠ (.slice A36 y154.length c36 : Value).ownBlock)) HO141.out (fun k_ hk => ⟨⟨⟨trivial, hk.1.1.2⟩, hk.1.2⟩, (by rw [HE36.out]; exact hk.2)⟩)); clear HO141; have HO141 := n_; clear n_; have n_ := Aside0.mk (Kd.R_mono (ok' := fun k_ => (((True ∧ some k_ ≠ (.slice Ao29 y139.length co29 : Value).ownBlock) ∧ some k_ ≠ (.slice Ao33 t146.length co33 : Value).ownBlock) ∧ some k_ ≠ (.slice A36 y154.length c36 : Value).ownBlock)) HO145.out (fun k_ hk => ⟨⟨⟨trivial, hk.1.1.2⟩, hk.1.2⟩, (by rw [HE36.out]; exact hk.2)⟩)); clear HO145; have HO145 := n_; clear n_; have n_ := Aside0.mk (Kd.R_mono (ok' := fun k_ => (((True ∧ some k_ ≠ (.slice Ao29 y139.length co29 : Value).ownBlock) ∧ some k_ ≠ (.slice Ao32 t142.length co32 : Value).ownBlock) ∧ some k_ ≠ (.slice A36 y154.length c36 : Value).ownBlock)) HO149.out (fun k_ hk => ⟨⟨⟨trivial, hk.1.1.2⟩, hk.1.2⟩, (by rw [HE36.out]; exact hk.2)⟩)); clear HO149; have HO149 := n_; clear n_))
                      go_ret2
                      exact ⟨_, Sqz.auR, (Sqz.mvQ (Kd.Q_mono HO156.out (fun _ hk => trivial))), Sqz.auHB⟩
                    · rw [if_neg c25] at H
                      exact absurd H (by simp)
                  · replace c24 := Bool.eq_false_iff.mpr c24
                    subst c24
                    have H1 : (some ((([] : List Int)), false)) = some (r1, r2) := by rw [if_neg (show ¬ (false = true) by decide)] at H; exact H
                    clear H
                    have H := H1
                    clear H1
                    obtain ⟨y157, hy157⟩ : ∃ y_ : List Int, y_ = (([] : List Int)) := ⟨_, rfl⟩
                    replace H : (some (y157, false)) = some (r1, r2) := by first | (rw [hy157]; with_reducible exact H) | (have H2_ := (Option.bind_some _ _).symm.trans H; rw [hy157]; with_reducible exact H2_) | (have H2_ := (Option.bind_some _ _).symm.trans H; with_reducible exact H2_) | with_reducible exact H | (rw [hy157]; exact H) | exact H
                    have Ny157 := Aside0.mk hy157
                    clear hy157
                    simp only [Option.some.injEq, Prod.mk.injEq] at H
                    obtain ⟨rfl, rfl⟩ := H
                    try go_wp2
                    have n0_ := Aside0.mk (below_drew1 HB.out)
                    clear HB
                    have HB := n0_
                    clear n0_
                    have p136 : 0 ≤ (0 : Int) := (by omega)
                    have q136 : 0 < (l1.length : Int) := of_decide_eq_true (by first | (with_reducible assumption) | assumption)
                    obtain ⟨ad136, e136, hx136_0⟩ := Kd.at_int HR1.out 0 p136 q136
                    have hw136_0 := hx136_0
                    (try rw [show ((0 : Int)).toNat = 0 from rfl] at hw136_0)
                    (try rw [show 0 * 1 = 0 from rfl] at hw136_0)
                    (try rw [Addr.add_zero'] at hw136_0)
                    cases e136
                    have qi136 : (0 < l1.length) = True := eq_true (by omega)
                    (try rw [show ((0 : Int)).toNat = 0 from rfl] at hx136_0)
                    (try rw [Addr.add_zero'] at hx136_0)
                    replace hx136_0 := (HB.out.cell (World.block_lt_of_cell? w _ hx136_0)).trans hx136_0
                    replace p136 := eq_true p136
                    replace q136 := eq_true q136
                    have p137 : 0 ≤ (1 : Int) := (by omega)
                    have q137 : 1 < (l1.length : Int) := of_decide_eq_true (by first | (with_reducible assumption) | assumption)
                    obtain ⟨ad137, e137, hx137_0⟩ := Kd.at_int HR1.out 1 p137 q137
                    have hw137_0 := hx137_0
                    (try rw [show ((1 : Int)).toNat = 1 from rfl] at hw137_0)
                    (try rw [show 1 * 1 = 1 from rfl] at hw137_0)
                    (try simp only [Nat.reduceMul, Nat.reduceEqDiff, Go.Addr.add, ↓reduceIte] at hw137_0)
                    obtain rfl : ad136 = ad137 := (by injection e137)
                    (try simp only [show (1 : Int).toNat = 1 from rfl, Nat.reduceMul, Nat.reduceEqDiff, Go.Addr.add, ↓reduceIte] at hx137_0)
                    have qi137 : (1 < l1.length) = True := eq_true (by omega)
                    (try rw [show ((1 : Int)).toNat = 1 from rfl] at hx137_0)
                    replace hx137_0 := (HB.out.cell (World.block_lt_of_cell? w _ hx137_0)).trans hx137_0
                    replace p137 := eq_true p137
                    replace q137 := eq_true q137
                    have p138 : 0 ≤ (2 : Int) := (by omega)
                    have q138 : 2 < (l1.length : Int) := of_decide_eq_true (by first | (with_reducible assumption) | assumption)
                    obtain ⟨ad138, e138, hx138_0⟩ := Kd.at_int HR1.out 2 p138 q138
                    have hw138_0 := hx138_0
                    (try rw [show ((2 : Int)).toNat = 2 from rfl] at hw138_0)
                    (try rw [show 2 * 1 = 2 from rfl] at hw138_0)
                    (try simp only [Nat.reduceMul, Nat.reduceEqDiff, Go.Addr.add, ↓reduceIte] at hw138_0)
                    obtain rfl : ad136 = ad138 := (by injection e138)
                    (try simp only [show (2 : Int).toNat = 2 from rfl, Nat.reduceMul, Nat.reduceEqDiff, Go.Addr.add, ↓reduceIte] at hx138_0)
                    have qi138 : (2 < l1.length) = True := eq_true (by omega)
                    (try rw [show ((2 : Int)).toNat = 2 from rfl] at hx138_0)
                    replace hx138_0 := (HB.out.cell (World.block_lt_of_cell? w _ hx138_0)).trans hx138_0
                    replace p138 := eq_true p138
                    replace q138 := eq_true q138
                    refine start_ (n := 17) (S := fun w' => w'.cell? ad136 = some (.int .i64 (rd l1 0)) ∧ w'.cell? ⟨ad136.block, ad136.off + 1, none⟩ = some (.int .i64 (rd l1 1)) ∧ w'.cell? ⟨ad136.block, ad136.off + 2, none⟩ = some (.int .i64 (rd l1 2))) (ds := []) #[false, false, false, false, false, false, false, false, false, false, false, false, false, false, false, false, false] (by kernel_rfl) rfl rfl ⟨((HB.out.cell (World.block_lt_of_cell? w _ hw136_0)).trans hw136_0), ((HB.out.cell (World.block_lt_of_cell? w _ hw137_0)).trans hw137_0), ((HB.out.cell (World.block_lt_of_cell? w _ hw138_0)).trans hw138_0)⟩ (fun hHeld => ?_); refine with_tabW spec_QuatTurn.tab3 spec_QuatTurn.bits3 (fun HT_ HW_ => ?_)
                    generalize wc.drew = w37 at HB hx136_0 hx137_0 hx138_0 hHeld ⊢
                    refine pure_ (i := 0) (N := some 38) (v := ?_) (a' := ?_) #[true, false, false, false, false, false, false, false, false, false, false, false, false, false, false, false, false] rfl rfl (any_of HT_.out (by kernel_rfl)) (fun _ _ _ h => h) (Or.inl ⟨by rfl, ?_⟩) ?_ ?_
                    rotate_left
                    · intro w'
                      go_simp
                      with_reducible rfl
                    rotate_left
                    · simp only [Act.put, List.setIfInBounds_toArray, List.set_cons_zero, List.set_cons_succ, i64_w, i32_w]
                      rfl
                    refine pure_ (i := 1) (N := some 39) (v := ?_) (a' := ?_) #[true, true, false, false, false, false, false, false, false, false, false, false, false, false, false, false, false] rfl rfl (any_of HT_.out (by kernel_rfl)) (fun _ _ _ h => h) (Or.inl ⟨by rfl, ?_⟩) ?_ ?_
                    rotate_left
                    · intro w'
                      go_simp
                      with_reducible rfl
                    rotate_left
                    · simp only [Act.put, List.setIfInBounds_toArray, List.set_cons_zero, List.set_cons_succ, i64_w, i32_w]
                      rfl
                    refine pure_ (i := 2) (N := some 40) (v := ?_) (a' := ?_) #[true, true, true, false, false, false, false, false, false, false, false, false, false, false, false, false, false] rfl rfl (any_of HT_.out (by kernel_rfl)) (fun _ _ _ h => h) (Or.inl ⟨by rfl, ?_⟩) ?_ ?_
                    rotate_left
                    · intro w'
                      go_simp
                      with_reducible rfl
                    rotate_left
                    · simp only [Act.put, List.setIfInBounds_toArray, List.set_cons_zero, List.set_cons_succ, i64_w, i32_w]
                      rfl
                    refine pure_ (i := 4) (N := some 42) (v := ?_) (a' := ?_) #[true, true, true, false, true, false, false, false, false, false, false, false, false, false, false, false, false] rfl rfl (any_of HT_.out (by kernel_rfl)) (fun _ _ _ h => h) (Or.inl ⟨by rfl, ?_⟩) ?_ ?_
                    rotate_left
                    · intro w'
                      go_simp
                      with_reducible rfl
                    rotate_left
                    · simp only [Act.put, List.setIfInBounds_toArray, List.set_cons_zero, List.set_cons_succ, i64_w, i32_w]
                      rfl
                    refine pure_ (i := 5) (N := some 43) (v := ?_) (a' := ?_) #[true, true, true, false, true, true, false, false, false, false, false, false, false, false, false, false, false] rfl rfl (any_of HT_.out (by kernel_rfl)) (fun _ _ _ h => h) (Or.inl ⟨by rfl, ?_⟩) ?_ ?_
                    rotate_left
                    · intro w'
                      go_simp
                      with_reducible rfl
                    rotate_left
                    · simp only [Act.put, List.setIfInBounds_toArray, List.set_cons_zero, List.set_cons_succ, i64_w, i32_w]
                      rfl
                    refine pure_ (i := 7) (N := some 45) (v := ?_) (a' := ?_) #[true, true, true, false, true, true, false, true, false, false, false, false, false, false, false, false, false] rfl rfl (any_of HT_.out (by kernel_rfl)) (fun _ _ _ h => h) (Or.inl ⟨by rfl, ?_⟩) ?_ ?_
                    rotate_left
                    · intro w'
                      go_simp
                      with_reducible rfl
                    rotate_left
                    · simp only [Act.put, List.setIfInBounds_toArray, List.set_cons_zero, List.set_cons_succ, i64_w, i32_w]
                      rfl
                    refine pure_ (i := 8) (N := some 46) (v := ?_) (a' := ?_) #[true, true, true, false, true, true, false, true, true, false, false, false, false, false, false, false, false] rfl rfl (any_of HT_.out (by kernel_rfl)) (fun _ _ _ h => h) (Or.inl ⟨by rfl, ?_⟩) ?_ ?_
                    rotate_left
                    · intro w'
                      go_simp
                      with_reducible rfl
                    rotate_left
                    · simp only [Act.put, List.setIfInBounds_toArray, List.set_cons_zero, List.set_cons_succ, i64_w, i32_w]
                      rfl
                    refine take_ (i := 3) (N := some 41) (v := ?_) (a' := ?_) #[true, true, true, true, true, true, false, true, true, false, false, false, false, false, false, false, false] rfl rfl (take_ofW HT_.out HW_.out (by kernel_rfl)) (fun _ _ _ h => h) (Or.inl ⟨by rfl, ?_⟩) hHeld ?_ ?_
                    rotate_left
                    · rintro w' ⟨s0, s1, s2⟩
                      go_simp
                      with_reducible rfl
                    rotate_left
                    · simp only [Act.put, List.setIfInBounds_toArray, List.set_cons_zero, List.set_cons_succ, i64_w, i32_w]
                      rfl
                    refine take_ (i := 6) (N := some 44) (v := ?_) (a' := ?_) #[true, true, true, true, true, true, true, true, true, false, false, false, false, false, false, false, false] rfl rfl (take_ofW HT_.out HW_.out (by kernel_rfl)) (fun _ _ _ h => h) (Or.inl ⟨by rfl, ?_⟩) hHeld ?_ ?_
                    rotate_left
                    · rintro w' ⟨s0, s1, s2⟩
                      go_simp
                      with_reducible rfl
                    rotate_left
                    · simp only [Act.put, List.setIfInBounds_toArray, List.set_cons_zero, List.set_cons_succ, i64_w, i32_w]
                      rfl
                    refine take_ (i := 9) (N := some 47) (v := ?_) (a' := ?_) #[true, true, true, true, true, true, true, true, true, true, false, false, false, false, false, false, false] rfl rfl (take_ofW HT_.out HW_.out (by kernel_rfl)) (fun _ _ _ h => h) (Or.inl ⟨by rfl, ?_⟩) hHeld ?_ ?_
                    rotate_left
                    · rintro w' ⟨s0, s1, s2⟩
                      go_simp
                      with_reducible rfl
                    rotate_left
                    · simp only [Act.put, List.setIfInBounds_toArray, List.set_cons_zero, List.set_cons_succ, i64_w, i32_w]
                      rfl
                    refine one_ (i := 10) (N := some 48) #[true, true, true, true, true, true, true, true, true, true, true, false, false, false, false, false, false] rfl rfl (one_of HT_.out (by kernel_rfl)) (by decide) (fun K hK => ?_)
                    refine Kd.R_lit_step (Kd.int .i64) _ 3 ?hg (N := 48) ?hd (xs := ([0, rd l1 0, rd l1 1, rd l1 2] : List Int)) (inner := [.int .i64 0, .int .i64 (rd l1 0), .int .i64 (rd l1 1), .int .i64 (rd l1 2)]) (ok := fun _ => True) (okp := fun _ => True) ?hr ?hp (fun _ hk => hk) trivial (Below.refl _ _) (Nat.le_refl _) (by simp) ?_; (case hd => rfl); (case hg => rfl); (case hr => first | (go_simp; done) | (go_simp; rfl)); (case hp => exact (Reps.one (show Kd.M (Kd.int .i64) _ _ _ 0 [.int .i64 0] from rfl) (Reps.one (show Kd.M (Kd.int .i64) _ _ _ (rd l1 0) [.int .i64 (rd l1 0)] from rfl) (Reps.one (show Kd.M (Kd.int .i64) _ _ _ (rd l1 1) [.int .i64 (rd l1 1)] from rfl) (Reps.one (show Kd.M (Kd.int .i64) _ _ _ (rd l1 2) [.int .i64 (rd l1 2)] from rfl) (Reps.none _ _))))))
                    intro v140 w38 ho39 hb hg_ hnew_
                    clear hg_ hnew_
                    (first | rw [← Ny139.out] at ho39 | (simp only [Int.reduceToNat] at ho39; rw [← Ny139.out] at ho39))
                    have n0_ := Aside0.mk (Kd.R_lower ho39 (below_size (Sqz.auHB)))
                    have n1_ := Aside0.mk (below_step (Sqz.auHB) hb)
                    clear HB
                    have HO141 := n0_
                    have HB := n1_
                    clear n0_ n1_
                    clear hb ho39
                    obtain ⟨Ao40, co40, eo40⟩ := Kd.R_slice HO141.out
                    (first | subst eo40 | (injection eo40 with f1_ f2_ f3_; have f4_ := f1_.symm; have f5_ := f3_.symm; clear f1_ f2_ f3_; subst f4_; subst f5_))
                    refine hK.out _ _ ⟨((HB.out.cell (World.block_lt_of_cell? w _ hw136_0)).trans hw136_0), ((HB.out.cell (World.block_lt_of_cell? w _ hw137_0)).trans hw137_0), ((HB.out.cell (World.block_lt_of_cell? w _ hw138_0)).trans hw138_0)⟩ (fun hHeld => ?_)
                    clear hK K
                    refine norm_ (a' := ?_) ?_ ?_
                    rotate_left
                    · show Act.put _ (some 48) _ = _
                      simp only [Act.put, List.setIfInBounds_toArray, List.set_cons_zero, List.set_cons_succ, i64_w, i32_w]
                      rfl
                    refine one_ (i := 11) (N := some 49) #[true, true, true, true, true, true, true, true, true, true, true, true, false, false, false, false, false] rfl rfl (one_of HT_.out (by kernel_rfl)) (by decide) (fun K hK => ?_)
                    refine goes_ Try.func19 (by kernel_rfl) rfl #[.slice A0 l0.length c0, .slice Ao40 y139.length co40] (by rfl) rfl rfl Sqz.auM ?_
                    with_reducible refine (spec_QuatMul.calls kj2 _ _ l0 _ _ y139 t142 true _ ?side1 ?side2 ?side3 ?side4 A19.out).mono ?_
                    (case side1 => exact Sqz.mvC ((Kd.C_below HR0.out HB.out)))
                    (case side2 => exact HC0.out)
                    (case side3 => exact Sqz.mvC ((Kd.R_reads' HO141.out).2.2))
                    (case side4 => exact (Kd.R_reads' HO141.out).2.1)
                    rintro e w41 ⟨v144, rfl, ho0, hb⟩
                    refine ⟨_, rfl, ?_⟩
                    have n0_ := Aside0.mk (Kd.R_elder' ((Sqz.mvR HO141.out)) (Kd.R_base ho0) hb)
                    have n1_ := Aside0.mk (Kd.R_lower (Kd.R_new' ho0 (Kd.R_lt ((Sqz.mvR HO141.out)))) (below_size (Sqz.auHB)))
                    have n2_ := Aside0.mk (below_step (Sqz.auHB) hb)
                    clear HO141
                    clear HB
                    have HO141 := n0_
                    have HO145 := n1_
                    have HB := n2_
                    clear n0_ n1_ n2_
                    (try clear hb)
                    (try clear hb2)
                    (try clear hk)
                    (try clear hi)
                    (try clear ho0)
                    refine hK.out _ _ ⟨((HB.out.cell (World.block_lt_of_cell? w _ hw136_0)).trans hw136_0), ((HB.out.cell (World.block_lt_of_cell? w _ hw137_0)).trans hw137_0), ((HB.out.cell (World.block_lt_of_cell? w _ hw138_0)).trans hw138_0)⟩ (fun hHeld => ?_)
                    clear hK K
                    refine norm_ (a' := ?_) ?_ ?_
                    rotate_left
                    · show Act.put _ (some 49) _ = _
                      simp only [Act.put, List.setIfInBounds_toArray, List.set_cons_zero, List.set_cons_succ, i64_w, i32_w]
                      rfl
                    refine pure_ (i := 12) (N := some 37) (v := ?_) (a' := ?_) #[true, true, true, true, true, true, true, true, true, true, true, true, true, false, false, false, false] rfl rfl (any_of HT_.out (by kernel_rfl)) (fun _ _ _ h => h) (Or.inl ⟨by rfl, ?_⟩) ?_ ?_
                    rotate_left
                    · intro w'
                      go_simp
                      with_reducible rfl
                    rotate_left
                    · simp only [Act.put, List.setIfInBounds_toArray, List.set_cons_zero, List.set_cons_succ, i64_w, i32_w]
                      rfl
                    refine pure_ (i := 13) (N := some 50) (v := ?_) (a' := ?_) #[true, true, true, true, true, true, true, true, true, true, true, true, true, true, false, false, false] rfl rfl (any_of HT_.out (by kernel_rfl)) (fun _ _ _ h => h) (Or.inl ⟨by rfl, ?_⟩) ?_ ?_
                    rotate_left
                    · intro w'
                      go_simp
                      with_reducible rfl
                    rotate_left
                    · simp only [Act.put, List.setIfInBounds_toArray, List.set_cons_zero, List.set_cons_succ, i64_w, i32_w]
                      rfl
                    refine pure_ (i := 14) (N := some 51) (v := ?_) (a' := ?_) #[true, true, true, true, true, true, true, true, true, true, true, true, true, true, true, false, false] rfl rfl (any_of HT_.out (by kernel_rfl)) (fun _ _ _ h => h) (Or.inl ⟨by rfl, ?_⟩) ?_ ?_
                    rotate_left
                    · intro w'
                      go_simp
                      with_reducible rfl
                    rotate_left
                    · simp only [Act.put, List.setIfInBounds_toArray, List.set_cons_zero, List.set_cons_succ, i64_w, i32_w]
                      rfl
                    refine pure_ (i := 15) (N := some 6) (v := ?_) (a' := ?_) #[true, true, true, true, true, true, true, true, true, true, true, true, true, true, true, true, false] rfl rfl (any_of HT_.out (by kernel_rfl)) (fun _ _ _ h => h) (Or.inl ⟨by rfl, ?_⟩) ?_ ?_
                    rotate_left
                    · intro w'
                      go_simp
                      with_reducible rfl
                    rotate_left
                    · simp only [Act.put, List.setIfInBounds_toArray, List.set_cons_zero, List.set_cons_succ, i64_w, i32_w]
                      rfl
                    refine pure_ (i := 16) (N := some 7) (v := ?_) (a' := ?_) #[true, true, true, true, true, true, true, true, true, true, true, true, true, true, true, true, true] rfl rfl (any_of HT_.out (by kernel_rfl)) (fun _ _ _ h => h) (Or.inl ⟨by rfl, ?_⟩) ?_ ?_
                    rotate_left
                    · intro w'
                      go_simp
                      with_reducible rfl
                    rotate_left
                    · simp only [Act.put, List.setIfInBounds_toArray, List.set_cons_zero, List.set_cons_succ, i64_w, i32_w]
                      rfl
                    refine done_ (done_of HT_.out (by kernel_rfl)) ?_
                    try go_wp2_with (first | ((with_reducible refine gate_callee (f := 62) rfl ?_); refine goesL_ (some 54) rfl rfl Try.func62 (by kernel_rfl) rfl #[.slice A0 l0.length c0] rfl Sqz.auM ?_; (with_reducible refine (spec_QuatConj.calls kj2 _ _ l0 t146 true _ ?side1 ?side2 A20.out).mono ?_); (case side1 => exact Sqz.mvC ((Kd.C_below HR0.out HB.out))); (case side2 => exact HC0.out); rintro e w42 ⟨v148, rfl, ho0, hb⟩; refine ⟨_, rfl, ?_⟩; have n0_ := Aside0.mk (Kd.R_elder' ((Sqz.mvR HO141.out)) (Kd.R_base ho0) hb); have n1_ := Aside0.mk (Kd.R_elder' ((Sqz.mvR HO145.out)) (Kd.R_base ho0) hb); have n2_ := Aside0.mk (Kd.R_lower (Kd.R_new' (Kd.R_new' ho0 (Kd.R_lt ((Sqz.mvR HO141.out)))) (Kd.R_lt ((Sqz.mvR HO145.out)))) (below_size (Sqz.auHB))); have n3_ := Aside0.mk (below_step (Sqz.auHB) hb); clear HO141; clear HO145; clear HB; have HO141 := n0_; have HO145 := n1_; have HO149 := n2_; have HB := n3_; clear n0_ n1_ n2_ n3_; (try clear hb); (try clear hb2); (try clear hk); (try clear hi); (try clear ho0); obtain ⟨Ao43, co43, eo43⟩ := Kd.R_slice HO145.out; subst eo43; obtain ⟨Ao44, co44, eo44⟩ := Kd.R_slice HO149.out; subst eo44) | ((with_reducible refine gate_callee (f := 19) rfl ?_); refine goesL_ (some 60) rfl rfl Try.func19 (by kernel_rfl) rfl #[.slice Ao43 t142.length co43, .slice Ao44 t146.length co44] rfl Sqz.auM ?_; (with_reducible refine (spec_QuatMul.calls kj2 _ _ t142 _ _ t146 t150 false _ ?side1 ?side2 ?side3 ?side4 A21.out).mono ?_); (case side1 => exact Sqz.mvC ((Kd.R_reads' HO145.out).2.2)); (case side2 => exact (Kd.R_reads' HO145.out).2.1); (case side3 => exact Sqz.mvC ((Kd.R_reads' HO149.out).2.2)); (case side4 => exact (Kd.R_reads' HO149.out).2.1); rintro e w45 ⟨v152, rfl, ho0, hb⟩; refine ⟨_, rfl, ?_⟩; have n0_ := Aside0.mk (Kd.R_elder' ((Sqz.mvR HO141.out)) (Kd.R_base ho0) hb); have n1_ := Aside0.mk (Kd.R_elder' ((Sqz.mvR HO145.out)) (Kd.R_base ho0) hb); have n2_ := Aside0.mk (Kd.R_elder' ((Sqz.mvR HO149.out)) (Kd.R_base ho0) hb); have n3_ := Aside0.mk (Kd.R_lower (Kd.R_new' (Kd.R_new' (Kd.R_new' ho0 (Kd.R_lt ((Sqz.mvR HO141.out)))) (Kd.R_lt ((Sqz.mvR HO145.out)))) (Kd.R_lt ((Sqz.mvR HO149.out)))) (below_size (Sqz.auHB))); have n4_ := Aside0.mk (below_step (Sqz.auHB) hb); clear HO141; clear HO145; clear HO149; clear HB; have HO141 := n0_; have HO145 := n1_; have HO149 := n2_; have HO153 := n3_; have HB := n4_; clear n0_ n1_ n2_ n3_ n4_; (try clear hb); (try clear hb2); (try clear hk); (try clear hi); (try clear ho0)) | ((with_reducible refine gate_dst (N := 73) rfl ?_); refine Kd.R_lit (Kd.int .i64) _ 3 ?hg (N := 73) ?hd (xs := ([] : List Int)) (inner := []) (ok := fun _ => True) (okp := fun _ => True) ?hr ?hp (fun _ hk => hk) trivial (Below.refl _ _) (Nat.le_refl _) (by simp) ?_; (case hd => rfl); (case hg => rfl); (case hr => first | (go_simp; done) | (go_simp; rfl)); (case hp => exact (Reps.none _ _)); intro v158 w46 ho47 hb hg_ hnew_; clear hg_ hnew_; (first | rw [← Ny157.out] at ho47 | (simp only [Int.reduceToNat] at ho47; rw [← Ny157.out] at ho47)); have n0_ := Aside0.mk (Kd.R_elder' ((Sqz.mvR HO141.out)) (Kd.R_base ho47) hb); have n1_ := Aside0.mk (Kd.R_elder' ((Sqz.mvR HO145.out)) (Kd.R_base ho47) hb); have n2_ := Aside0.mk (Kd.R_elder' ((Sqz.mvR HO149.out)) (Kd.R_base ho47) hb); have n3_ := Aside0.mk (Kd.R_elder' ((Sqz.mvR HO153.out)) (Kd.R_base ho47) hb); have n4_ := Aside0.mk (Kd.R_lower (Kd.R_new' (Kd.R_new' (Kd.R_new' (Kd.R_new' ho47 (Kd.R_lt ((Sqz.mvR HO141.out)))) (Kd.R_lt ((Sqz.mvR HO145.out)))) (Kd.R_lt ((Sqz.mvR HO149.out)))) (Kd.R_lt ((Sqz.mvR HO153.out)))) (below_size (Sqz.auHB))); have n5_ := Aside0.mk (below_step (Sqz.auHB) hb); clear HO141; clear HO145; clear HO149; clear HO153; clear HB; have HO141 := n0_; have HO145 := n1_; have HO149 := n2_; have HO153 := n3_; have HO159 := n4_; have HB := n5_; clear n0_ n1_ n2_ n3_ n4_ n5_; clear hb ho47))
                    go_ret2
                    exact ⟨_, Sqz.auR, Kd.Q_of_R ((Sqz.mvR (Kd.R_mono HO159.out (fun _ hk => trivial)))), Sqz.auHB⟩
                · replace c23 := Bool.eq_false_iff.mpr c23
                  subst c23
                  have H1 : (some ((([] : List Int)), false)) = some (r1, r2) := by rw [if_neg (show ¬ (false = true) by decide)] at H; exact H
                  clear H
                  have H := H1
                  clear H1
                  obtain ⟨y160, hy160⟩ : ∃ y_ : List Int, y_ = (([] : List Int)) := ⟨_, rfl⟩
                  replace H : (some (y160, false)) = some (r1, r2) := by first | (rw [hy160]; with_reducible exact H) | (have H2_ := (Option.bind_some _ _).symm.trans H; rw [hy160]; with_reducible exact H2_) | (have H2_ := (Option.bind_some _ _).symm.trans H; with_reducible exact H2_) | with_reducible exact H | (rw [hy160]; exact H) | exact H
                  have Ny160 := Aside0.mk hy160
                  clear hy160
                  simp only [Option.some.injEq, Prod.mk.injEq] at H
                  obtain ⟨rfl, rfl⟩ := H
                  try go_wp2
                  have n0_ := Aside0.mk (below_drew1 HB.out)
                  clear HB
                  have HB := n0_
                  clear n0_
                  have p136 : 0 ≤ (0 : Int) := (by omega)
                  have q136 : 0 < (l1.length : Int) := of_decide_eq_true (by first | (with_reducible assumption) | assumption)
                  obtain ⟨ad136, e136, hx136_0⟩ := Kd.at_int HR1.out 0 p136 q136
                  have hw136_0 := hx136_0
                  (try rw [show ((0 : Int)).toNat = 0 from rfl] at hw136_0)
                  (try rw [show 0 * 1 = 0 from rfl] at hw136_0)
                  (try rw [Addr.add_zero'] at hw136_0)
                  cases e136
                  have qi136 : (0 < l1.length) = True := eq_true (by omega)
                  (try rw [show ((0 : Int)).toNat = 0 from rfl] at hx136_0)
                  (try rw [Addr.add_zero'] at hx136_0)
                  replace hx136_0 := (HB.out.cell (World.block_lt_of_cell? w _ hx136_0)).trans hx136_0
                  replace p136 := eq_true p136
                  replace q136 := eq_true q136
                  have p137 : 0 ≤ (1 : Int) := (by omega)
                  have q137 : 1 < (l1.length : Int) := of_decide_eq_true (by first | (with_reducible assumption) | assumption)
                  obtain ⟨ad137, e137, hx137_0⟩ := Kd.at_int HR1.out 1 p137 q137
                  have hw137_0 := hx137_0
                  (try rw [show ((1 : Int)).toNat = 1 from rfl] at hw137_0)
                  (try rw [show 1 * 1 = 1 from rfl] at hw137_0)
                  (try simp only [Nat.reduceMul, Nat.reduceEqDiff, Go.Addr.add, ↓reduceIte] at hw137_0)
                  obtain rfl : ad136 = ad137 := (by injection e137)
                  (try simp only [show (1 : Int).toNat = 1 from rfl, Nat.reduceMul, Nat.reduceEqDiff, Go.Addr.add, ↓reduceIte] at hx137_0)
                  have qi137 : (1 < l1.length) = True := eq_true (by omega)
                  (try rw [show ((1 : Int)).toNat = 1 from rfl] at hx137_0)
                  replace hx137_0 := (HB.out.cell (World.block_lt_of_cell? w _ hx137_0)).trans hx137_0
                  replace p137 := eq_true p137
                  replace q137 := eq_true q137
                  have p138 : 0 ≤ (2 : Int) := (by omega)
                  have q138 : 2 < (l1.length : Int) := of_decide_eq_true (by first | (with_reducible assumption) | assumption)
                  obtain ⟨ad138, e138, hx138_0⟩ := Kd.at_int HR1.out 2 p138 q138
                  have hw138_0 := hx138_0
                  (try rw [show ((2 : Int)).toNat = 2 from rfl] at hw138_0)
                  (try rw [show 2 * 1 = 2 from rfl] at hw138_0)
                  (try simp only [Nat.reduceMul, Nat.reduceEqDiff, Go.Addr.add, ↓reduceIte] at hw138_0)
                  obtain rfl : ad136 = ad138 := (by injection e138)
                  (try simp only [show (2 : Int).toNat = 2 from rfl, Nat.reduceMul, Nat.reduceEqDiff, Go.Addr.add, ↓reduceIte] at hx138_0)
                  have qi138 : (2 < l1.length) = True := eq_true (by omega)
                  (try rw [show ((2 : Int)).toNat = 2 from rfl] at hx138_0)
                  replace hx138_0 := (HB.out.cell (World.block_lt_of_cell? w _ hx138_0)).trans hx138_0
                  replace p138 := eq_true p138
                  replace q138 := eq_true q138
                  refine start_ (n := 17) (S := fun w' => w'.cell? ad136 = some (.int .i64 (rd l1 0)) ∧ w'.cell? ⟨ad136.block, ad136.off + 1, none⟩ = some (.int .i64 (rd l1 1)) ∧ w'.cell? ⟨ad136.block, ad136.off + 2, none⟩ = some (.int .i64 (rd l1 2))) (ds := []) #[false, false, false, false, false, false, false, false, false, false, false, false, false, false, false, false, false] (by kernel_rfl) rfl rfl ⟨((HB.out.cell (World.block_lt_of_cell? w _ hw136_0)).trans hw136_0), ((HB.out.cell (World.block_lt_of_cell? w _ hw137_0)).trans hw137_0), ((HB.out.cell (World.block_lt_of_cell? w _ hw138_0)).trans hw138_0)⟩ (fun hHeld => ?_); refine with_tabW spec_QuatTurn.tab3 spec_QuatTurn.bits3 (fun HT_ HW_ => ?_)
                  generalize wc.drew = w48 at HB hx136_0 hx137_0 hx138_0 hHeld ⊢
                  refine pure_ (i := 0) (N := some 38) (v := ?_) (a' := ?_) #[true, false, false, false, false, false, false, false, false, false, false, false, false, false, false, false, false] rfl rfl (any_of HT_.out (by kernel_rfl)) (fun _ _ _ h => h) (Or.inl ⟨by rfl, ?_⟩) ?_ ?_
                  rotate_left
                  · intro w'
                    go_simp
                    with_reducible rfl
                  rotate_left
                  · simp only [Act.put, List.setIfInBounds_toArray, List.set_cons_zero, List.set_cons_succ, i64_w, i32_w]
                    rfl
                  refine pure_ (i := 1) (N := some 39) (v := ?_) (a' := ?_) #[true, true, false, false, false, false, false, false, false, false, false, false, false, false, false, false, false] rfl rfl (any_of HT_.out (by kernel_rfl)) (fun _ _ _ h => h) (Or.inl ⟨by rfl, ?_⟩) ?_ ?_
                  rotate_left
                  · intro w'
                    go_simp
                    with_reducible rfl
                  rotate_left
                  · simp only [Act.put, List.setIfInBounds_toArray, List.set_cons_zero, List.set_cons_succ, i64_w, i32_w]
                    rfl
                  refine pure_ (i := 2) (N := some 40) (v := ?_) (a' := ?_) #[true, true, true, false, false, false, false, false, false, false, false, false, false, false, false, false, false] rfl rfl (any_of HT_.out (by kernel_rfl)) (fun _ _ _ h => h) (Or.inl ⟨by rfl, ?_⟩) ?_ ?_
                  rotate_left
                  · intro w'
                    go_simp
                    with_reducible rfl
                  rotate_left
                  · simp only [Act.put, List.setIfInBounds_toArray, List.set_cons_zero, List.set_cons_succ, i64_w, i32_w]
                    rfl
                  refine pure_ (i := 4) (N := some 42) (v := ?_) (a' := ?_) #[true, true, true, false, true, false, false, false, false, false, false, false, false, false, false, false, false] rfl rfl (any_of HT_.out (by kernel_rfl)) (fun _ _ _ h => h) (Or.inl ⟨by rfl, ?_⟩) ?_ ?_
                  rotate_left
                  · intro w'
                    go_simp
                    with_reducible rfl
                  rotate_left
                  · simp only [Act.put, List.setIfInBounds_toArray, List.set_cons_zero, List.set_cons_succ, i64_w, i32_w]
                    rfl
                  refine pure_ (i := 5) (N := some 43) (v := ?_) (a' := ?_) #[true, true, true, false, true, true, false, false, false, false, false, false, false, false, false, false, false] rfl rfl (any_of HT_.out (by kernel_rfl)) (fun _ _ _ h => h) (Or.inl ⟨by rfl, ?_⟩) ?_ ?_
                  rotate_left
                  · intro w'
                    go_simp
                    with_reducible rfl
                  rotate_left
                  · simp only [Act.put, List.setIfInBounds_toArray, List.set_cons_zero, List.set_cons_succ, i64_w, i32_w]
                    rfl
                  refine pure_ (i := 7) (N := some 45) (v := ?_) (a' := ?_) #[true, true, true, false, true, true, false, true, false, false, false, false, false, false, false, false, false] rfl rfl (any_of HT_.out (by kernel_rfl)) (fun _ _ _ h => h) (Or.inl ⟨by rfl, ?_⟩) ?_ ?_
                  rotate_left
                  · intro w'
                    go_simp
                    with_reducible rfl
                  rotate_left
                  · simp only [Act.put, List.setIfInBounds_toArray, List.set_cons_zero, List.set_cons_succ, i64_w, i32_w]
                    rfl
                  refine pure_ (i := 8) (N := some 46) (v := ?_) (a' := ?_) #[true, true, true, false, true, true, false, true, true, false, false, false, false, false, false, false, false] rfl rfl (any_of HT_.out (by kernel_rfl)) (fun _ _ _ h => h) (Or.inl ⟨by rfl, ?_⟩) ?_ ?_
                  rotate_left
                  · intro w'
                    go_simp
                    with_reducible rfl
                  rotate_left
                  · simp only [Act.put, List.setIfInBounds_toArray, List.set_cons_zero, List.set_cons_succ, i64_w, i32_w]
                    rfl
                  refine take_ (i := 3) (N := some 41) (v := ?_) (a' := ?_) #[true, true, true, true, true, true, false, true, true, false, false, false, false, false, false, false, false] rfl rfl (take_ofW HT_.out HW_.out (by kernel_rfl)) (fun _ _ _ h => h) (Or.inl ⟨by rfl, ?_⟩) hHeld ?_ ?_
                  rotate_left
                  · rintro w' ⟨s0, s1, s2⟩
                    go_simp
                    with_reducible rfl
                  rotate_left
                  · simp only [Act.put, List.setIfInBounds_toArray, List.set_cons_zero, List.set_cons_succ, i64_w, i32_w]
                    rfl
                  refine take_ (i := 6) (N := some 44) (v := ?_) (a' := ?_) #[true, true, true, true, true, true, true, true, true, false, false, false, false, false, false, false, false] rfl rfl (take_ofW HT_.out HW_.out (by kernel_rfl)) (fun _ _ _ h => h) (Or.inl ⟨by rfl, ?_⟩) hHeld ?_ ?_
                  rotate_left
                  · rintro w' ⟨s0, s1, s2⟩
                    go_simp
                    with_reducible rfl
                  rotate_left
                  · simp only [Act.put, List.setIfInBounds_toArray, List.set_cons_zero, List.set_cons_succ, i64_w, i32_w]
                    rfl
                  refine take_ (i := 9) (N := some 47) (v := ?_) (a' := ?_) #[true, true, true, true, true, true, true, true, true, true, false, false, false, false, false, false, false] rfl rfl (take_ofW HT_.out HW_.out (by kernel_rfl)) (fun _ _ _ h => h) (Or.inl ⟨by rfl, ?_⟩) hHeld ?_ ?_
                  rotate_left
                  · rintro w' ⟨s0, s1, s2⟩
                    go_simp
                    with_reducible rfl
                  rotate_left
                  · simp only [Act.put, List.setIfInBounds_toArray, List.set_cons_zero, List.set_cons_succ, i64_w, i32_w]
                    rfl
                  refine one_ (i := 10) (N := some 48) #[true, true, true, true, true, true, true, true, true, true, true, false, false, false, false, false, false] rfl rfl (one_of HT_.out (by kernel_rfl)) (by decide) (fun K hK => ?_)
                  refine Kd.R_lit_step (Kd.int .i64) _ 3 ?hg (N := 48) ?hd (xs := ([0, rd l1 0, rd l1 1, rd l1 2] : List Int)) (inner := [.int .i64 0, .int .i64 (rd l1 0), .int .i64 (rd l1 1), .int .i64 (rd l1 2)]) (ok := fun _ => True) (okp := fun _ => True) ?hr ?hp (fun _ hk => hk) trivial (Below.refl _ _) (Nat.le_refl _) (by simp) ?_; (case hd => rfl); (case hg => rfl); (case hr => first | (go_simp; done) | (go_simp; rfl)); (case hp => exact (Reps.one (show Kd.M (Kd.int .i64) _ _ _ 0 [.int .i64 0] from rfl) (Reps.one (show Kd.M (Kd.int .i64) _ _ _ (rd l1 0) [.int .i64 (rd l1 0)] from rfl) (Reps.one (show Kd.M (Kd.int .i64) _ _ _ (rd l1 1) [.int .i64 (rd l1 1)] from rfl) (Reps.one (show Kd.M (Kd.int .i64) _ _ _ (rd l1 2) [.int .i64 (rd l1 2)] from rfl) (Reps.none _ _))))))
                  intro v140 w49 ho50 hb hg_ hnew_
                  clear hg_ hnew_
                  (first | rw [← Ny139.out] at ho50 | (simp only [Int.reduceToNat] at ho50; rw [← Ny139.out] at ho50))
                  have n0_ := Aside0.mk (Kd.R_lower ho50 (below_size (Sqz.auHB)))
                  have n1_ := Aside0.mk (below_step (Sqz.auHB) hb)
                  clear HB
                  have HO141 := n0_
                  have HB := n1_
                  clear n0_ n1_
                  clear hb ho50
                  obtain ⟨Ao51, co51, eo51⟩ := Kd.R_slice HO141.out
                  (first | subst eo51 | (injection eo51 with f1_ f2_ f3_; have f4_ := f1_.symm; have f5_ := f3_.symm; clear f1_ f2_ f3_; subst f4_; subst f5_))
                  refine hK.out _ _ ⟨((HB.out.cell (World.block_lt_of_cell? w _ hw136_0)).trans hw136_0), ((HB.out.cell (World.block_lt_of_cell? w _ hw137_0)).trans hw137_0), ((HB.out.cell (World.block_lt_of_cell? w _ hw138_0)).trans hw138_0)⟩ (fun hHeld => ?_)
                  clear hK K
                  refine norm_ (a' := ?_) ?_ ?_
                  rotate_left
                  · show Act.put _ (some 48) _ = _
                    simp only [Act.put, List.setIfInBounds_toArray, List.set_cons_zero, List.set_cons_succ, i64_w, i32_w]
                    rfl
                  refine one_ (i := 11) (N := some 49) #[true, true, true, true, true, true, true, true, true, true, true, true, false, false, false, false, false] rfl rfl (one_of HT_.out (by kernel_rfl)) (by decide) (fun K hK => ?_)
                  refine goes_ Try.func19 (by kernel_rfl) rfl #[.slice A0 l0.length c0, .slice Ao51 y139.length co51] (by rfl) rfl rfl Sqz.auM ?_
                  with_reducible refine (spec_QuatMul.calls kj2 _ _ l0 _ _ y139 t142 true _ ?side1 ?side2 ?side3 ?side4 A19.out).mono ?_
                  (case side1 => exact Sqz.mvC ((Kd.C_below HR0.out HB.out)))
                  (case side2 => exact HC0.out)
                  (case side3 => exact Sqz.mvC ((Kd.R_reads' HO141.out).2.2))
                  (case side4 => exact (Kd.R_reads' HO141.out).2.1)
                  rintro e w52 ⟨v144, rfl, ho0, hb⟩
                  refine ⟨_, rfl, ?_⟩
                  have n0_ := Aside0.mk (Kd.R_elder' ((Sqz.mvR HO141.out)) (Kd.R_base ho0) hb)
                  have n1_ := Aside0.mk (Kd.R_lower (Kd.R_new' ho0 (Kd.R_lt ((Sqz.mvR HO141.out)))) (below_size (Sqz.auHB)))
                  have n2_ := Aside0.mk (below_step (Sqz.auHB) hb)
                  clear HO141
                  clear HB
                  have HO141 := n0_
                  have HO145 := n1_
                  have HB := n2_
                  clear n0_ n1_ n2_
                  (try clear hb)
                  (try clear hb2)
                  (try clear hk)
                  (try clear hi)
                  (try clear ho0)
                  refine hK.out _ _ ⟨((HB.out.cell (World.block_lt_of_cell? w _ hw136_0)).trans hw136_0), ((HB.out.cell (World.block_lt_of_cell? w _ hw137_0)).trans hw137_0), ((HB.out.cell (World.block_lt_of_cell? w _ hw138_0)).trans hw138_0)⟩ (fun hHeld => ?_)
                  clear hK K
                  refine norm_ (a' := ?_) ?_ ?_
                  rotate_left
                  · show Act.put _ (some 49) _ = _
                    simp only [Act.put, List.setIfInBounds_toArray, List.set_cons_zero, List.set_cons_succ, i64_w, i32_w]
                    rfl
                  refine pure_ (i := 12) (N := some 37) (v := ?_) (a' := ?_) #[true, true, true, true, true, true, true, true, true, true, true, true, true, false, false, false, false] rfl rfl (any_of HT_.out (by kernel_rfl)) (fun _ _ _ h => h) (Or.inl ⟨by rfl, ?_⟩) ?_ ?_
                  rotate_left
                  · intro w'
                    go_simp
                    with_reducible rfl
                  rotate_left
                  · simp only [Act.put, List.setIfInBounds_toArray, List.set_cons_zero, List.set_cons_succ, i64_w, i32_w]
                    rfl
                  refine pure_ (i := 13) (N := some 50) (v := ?_) (a' := ?_) #[true, true, true, true, true, true, true, true, true, true, true, true, true, true, false, false, false] rfl rfl (any_of HT_.out (by kernel_rfl)) (fun _ _ _ h => h) (Or.inl ⟨by rfl, ?_⟩) ?_ ?_
                  rotate_left
                  · intro w'
                    go_simp
                    with_reducible rfl
                  rotate_left
                  · simp only [Act.put, List.setIfInBounds_toArray, List.set_cons_zero, List.set_cons_succ, i64_w, i32_w]
                    rfl
                  refine pure_ (i := 14) (N := some 51) (v := ?_) (a' := ?_) #[true, true, true, true, true, true, true, true, true, true, true, true, true, true, true, false, false] rfl rfl (any_of HT_.out (by kernel_rfl)) (fun _ _ _ h => h) (Or.inl ⟨by rfl, ?_⟩) ?_ ?_
                  rotate_left
                  · intro w'
                    go_simp
                    with_reducible rfl
                  rotate_left
                  · simp only [Act.put, List.setIfInBounds_toArray, List.set_cons_zero, List.set_cons_succ, i64_w, i32_w]
                    rfl
                  refine pure_ (i := 15) (N := some 6) (v := ?_) (a' := ?_) #[true, true, true, true, true, true, true, true, true, true, true, true, true, true, true, true, false] rfl rfl (any_of HT_.out (by kernel_rfl)) (fun _ _ _ h => h) (Or.inl ⟨by rfl, ?_⟩) ?_ ?_
                  rotate_left
                  · intro w'
                    go_simp
                    with_reducible rfl
                  rotate_left
                  · simp only [Act.put, List.setIfInBounds_toArray, List.set_cons_zero, List.set_cons_succ, i64_w, i32_w]
                    rfl
                  refine pure_ (i := 16) (N := some 7) (v := ?_) (a' := ?_) #[true, true, true, true, true, true, true, true, true, true, true, true, true, true, true, true, true] rfl rfl (any_of HT_.out (by kernel_rfl)) (fun _ _ _ h => h) (Or.inl ⟨by rfl, ?_⟩) ?_ ?_
                  rotate_left
                  · intro w'
                    go_simp
                    with_reducible rfl
                  rotate_left
                  · simp only [Act.put, List.setIfInBounds_toArray, List.set_cons_zero, List.set_cons_succ, i64_w, i32_w]
                    rfl
                  refine done_ (done_of HT_.out (by kernel_rfl)) ?_
                  try go_wp2_with (first | ((with_reducible refine gate_callee (f := 62) rfl ?_); refine goesL_ (some 54) rfl rfl Try.func62 (by kernel_rfl) rfl #[.slice A0 l0.length c0] rfl Sqz.auM ?_; (with_reducible refine (spec_QuatConj.calls kj2 _ _ l0 t146 false _ ?side1 ?side2 A20.out).mono ?_); (case side1 => exact Sqz.mvC ((Kd.C_below HR0.out HB.out))); (case side2 => exact HC0.out); rintro e w53 ⟨v148, rfl, ho0, hb⟩; refine ⟨_, rfl, ?_⟩; have n0_ := Aside0.mk (Kd.R_elder' ((Sqz.mvR HO141.out)) (Kd.R_base ho0) hb); have n1_ := Aside0.mk (Kd.R_elder' ((Sqz.mvR HO145.out)) (Kd.R_base ho0) hb); have n2_ := Aside0.mk (Kd.R_lower (Kd.R_new' (Kd.R_new' ho0 (Kd.R_lt ((Sqz.mvR HO141.out)))) (Kd.R_lt ((Sqz.mvR HO145.out)))) (below_size (Sqz.auHB))); have n3_ := Aside0.mk (below_step (Sqz.auHB) hb); clear HO141; clear HO145; clear HB; have HO141 := n0_; have HO145 := n1_; have HO149 := n2_; have HB := n3_; clear n0_ n1_ n2_ n3_; (try clear hb); (try clear hb2); (try clear hk); (try clear hi); (try clear ho0); obtain ⟨Ao54, co54, eo54⟩ := Kd.R_slice HO145.out; subst eo54; obtain ⟨Ao55, co55, eo55⟩ := Kd.R_slice HO149.out; subst eo55) | ((with_reducible refine gate_callee (f := 19) rfl ?_); refine goesL_ (some 60) rfl rfl Try.func19 (by kernel_rfl) rfl #[.slice Ao54 t142.length co54, .slice Ao55 t146.length co55] rfl Sqz.auM ?_; (with_reducible refine (spec_QuatMul.calls kj2 _ _ t142 _ _ t146 t150 t151 _ ?side1 ?side2 ?side3 ?side4 A21.out).mono ?_); (case side1 => exact Sqz.mvC ((Kd.R_reads' HO145.out).2.2)); (case side2 => exact (Kd.R_reads' HO145.out).2.1); (case side3 => exact Sqz.mvC ((Kd.R_reads' HO149.out).2.2)); (case side4 => exact (Kd.R_reads' HO149.out).2.1); rintro e w56 ⟨v152, rfl, ho0, hb⟩; refine ⟨_, rfl, ?_⟩; have n0_ := Aside0.mk (Kd.R_elder' ((Sqz.mvR HO141.out)) (Kd.R_base ho0) hb); have n1_ := Aside0.mk (Kd.R_elder' ((Sqz.mvR HO145.out)) (Kd.R_base ho0) hb); have n2_ := Aside0.mk (Kd.R_elder' ((Sqz.mvR HO149.out)) (Kd.R_base ho0) hb); have n3_ := Aside0.mk (Kd.R_lower (Kd.R_new' (Kd.R_new' (Kd.R_new' ho0 (Kd.R_lt ((Sqz.mvR HO141.out)))) (Kd.R_lt ((Sqz.mvR HO145.out)))) (Kd.R_lt ((Sqz.mvR HO149.out)))) (below_size (Sqz.auHB))); have n4_ := Aside0.mk (below_step (Sqz.auHB) hb); clear HO141; clear HO145; clear HO149; clear HB; have HO141 := n0_; have HO145 := n1_; have HO149 := n2_; have HO153 := n3_; have HB := n4_; clear n0_ n1_ n2_ n3_ n4_; (try clear hb); (try clear hb2); (try clear hk); (try clear hi); (try clear ho0)) | ((with_reducible refine gate_dst (N := 73) rfl ?_); refine Kd.R_lit (Kd.int .i64) _ 3 ?hg (N := 73) ?hd (xs := ([] : List Int)) (inner := []) (ok := fun _ => True) (okp := fun _ => True) ?hr ?hp (fun _ hk => hk) trivial (Below.refl _ _) (Nat.le_refl _) (by simp) ?_; (case hd => rfl); (case hg => rfl); (case hr => first | (go_simp; done) | (go_simp; rfl)); (case hp => exact (Reps.none _ _)); intro v161 w57 ho58 hb hg_ hnew_; clear hg_ hnew_; (first | rw [← Ny160.out] at ho58 | (simp only [Int.reduceToNat] at ho58; rw [← Ny160.out] at ho58)); have n0_ := Aside0.mk (Kd.R_elder' ((Sqz.mvR HO141.out)) (Kd.R_base ho58) hb); have n1_ := Aside0.mk (Kd.R_elder' ((Sqz.mvR HO145.out)) (Kd.R_base ho58) hb); have n2_ := Aside0.mk (Kd.R_elder' ((Sqz.mvR HO149.out)) (Kd.R_base ho58) hb); have n3_ := Aside0.mk (Kd.R_elder' ((Sqz.mvR HO153.out)) (Kd.R_base ho58) hb); have n4_ := Aside0.mk (Kd.R_lower (Kd.R_new' (Kd.R_new' (Kd.R_new' (Kd.R_new' ho58 (Kd.R_lt ((Sqz.mvR HO141.out)))) (Kd.R_lt ((Sqz.mvR HO145.out)))) (Kd.R_lt ((Sqz.mvR HO149.out)))) (Kd.R_lt ((Sqz.mvR HO153.out)))) (below_size (Sqz.auHB))); have n5_ := Aside0.mk (below_step (Sqz.auHB) hb); clear HO141; clear HO145; clear HO149; clear HO153; clear HB; have HO141 := n0_; have HO145 := n1_; have HO149 := n2_; have HO153 := n3_; have HO162 := n4_; have HB := n5_; clear n0_ n1_ n2_ n3_ n4_ n5_; clear hb ho58))
                  go_ret2
                  exact ⟨_, Sqz.auR, Kd.Q_of_R ((Sqz.mvR (Kd.R_mono HO162.out (fun _ hk => trivial)))), Sqz.auHB⟩
              · replace c22 := Bool.eq_false_iff.mpr c22
                subst c22
                have H1 : (some ((([] : List Int)), false)) = some (r1, r2) := by rw [if_neg (show ¬ (false = true) by decide)] at H; exact H
                clear H
                have H := H1
                clear H1
                obtain ⟨y163, hy163⟩ : ∃ y_ : List Int, y_ = (([] : List Int)) := ⟨_, rfl⟩
                replace H : (some (y163, false)) = some (r1, r2) := by first | (rw [hy163]; with_reducible exact H) | (have H2_ := (Option.bind_some _ _).symm.trans H; rw [hy163]; with_reducible exact H2_) | (have H2_ := (Option.bind_some _ _).symm.trans H; with_reducible exact H2_) | with_reducible exact H | (rw [hy163]; exact H) | exact H
                have Ny163 := Aside0.mk hy163
                clear hy163
                simp only [Option.some.injEq, Prod.mk.injEq] at H
                obtain ⟨rfl, rfl⟩ := H
                try go_wp2
                have n0_ := Aside0.mk (below_drew1 HB.out)
                clear HB
                have HB := n0_
                clear n0_
                have p136 : 0 ≤ (0 : Int) := (by omega)
                have q136 : 0 < (l1.length : Int) := of_decide_eq_true (by first | (with_reducible assumption) | assumption)
                obtain ⟨ad136, e136, hx136_0⟩ := Kd.at_int HR1.out 0 p136 q136
                have hw136_0 := hx136_0
                (try rw [show ((0 : Int)).toNat = 0 from rfl] at hw136_0)
                (try rw [show 0 * 1 = 0 from rfl] at hw136_0)
                (try rw [Addr.add_zero'] at hw136_0)
                cases e136
                have qi136 : (0 < l1.length) = True := eq_true (by omega)
                (try rw [show ((0 : Int)).toNat = 0 from rfl] at hx136_0)
                (try rw [Addr.add_zero'] at hx136_0)
                replace hx136_0 := (HB.out.cell (World.block_lt_of_cell? w _ hx136_0)).trans hx136_0
                replace p136 := eq_true p136
                replace q136 := eq_true q136
                have p137 : 0 ≤ (1 : Int) := (by omega)
                have q137 : 1 < (l1.length : Int) := of_decide_eq_true (by first | (with_reducible assumption) | assumption)
                obtain ⟨ad137, e137, hx137_0⟩ := Kd.at_int HR1.out 1 p137 q137
                have hw137_0 := hx137_0
                (try rw [show ((1 : Int)).toNat = 1 from rfl] at hw137_0)
                (try rw [show 1 * 1 = 1 from rfl] at hw137_0)
                (try simp only [Nat.reduceMul, Nat.reduceEqDiff, Go.Addr.add, ↓reduceIte] at hw137_0)
                obtain rfl : ad136 = ad137 := (by injection e137)
                (try simp only [show (1 : Int).toNat = 1 from rfl, Nat.reduceMul, Nat.reduceEqDiff, Go.Addr.add, ↓reduceIte] at hx137_0)
                have qi137 : (1 < l1.length) = True := eq_true (by omega)
                (try rw [show ((1 : Int)).toNat = 1 from rfl] at hx137_0)
                replace hx137_0 := (HB.out.cell (World.block_lt_of_cell? w _ hx137_0)).trans hx137_0
                replace p137 := eq_true p137
                replace q137 := eq_true q137
                have p138 : 0 ≤ (2 : Int) := (by omega)
                have q138 : 2 < (l1.length : Int) := of_decide_eq_true (by first | (with_reducible assumption) | assumption)
                obtain ⟨ad138, e138, hx138_0⟩ := Kd.at_int HR1.out 2 p138 q138
                have hw138_0 := hx138_0
                (try rw [show ((2 : Int)).toNat = 2 from rfl] at hw138_0)
                (try rw [show 2 * 1 = 2 from rfl] at hw138_0)
                (try simp only [Nat.reduceMul, Nat.reduceEqDiff, Go.Addr.add, ↓reduceIte] at hw138_0)
                obtain rfl : ad136 = ad138 := (by injection e138)
                (try simp only [show (2 : Int).toNat = 2 from rfl, Nat.reduceMul, Nat.reduceEqDiff, Go.Addr.add, ↓reduceIte] at hx138_0)
                have qi138 : (2 < l1.length) = True := eq_true (by omega)
                (try rw [show ((2 : Int)).toNat = 2 from rfl] at hx138_0)
                replace hx138_0 := (HB.out.cell (World.block_lt_of_cell? w _ hx138_0)).trans hx138_0
                replace p138 := eq_true p138
                replace q138 := eq_true q138
                refine start_ (n := 17) (S := fun w' => w'.cell? ad136 = some (.int .i64 (rd l1 0)) ∧ w'.cell? ⟨ad136.block, ad136.off + 1, none⟩ = some (.int .i64 (rd l1 1)) ∧ w'.cell? ⟨ad136.block, ad136.off + 2, none⟩ = some (.int .i64 (rd l1 2))) (ds := []) #[false, false, false, false, false, false, false, false, false, false, false, false, false, false, false, false, false] (by kernel_rfl) rfl rfl ⟨((HB.out.cell (World.block_lt_of_cell? w _ hw136_0)).trans hw136_0), ((HB.out.cell (World.block_lt_of_cell? w _ hw137_0)).trans hw137_0), ((HB.out.cell (World.block_lt_of_cell? w _ hw138_0)).trans hw138_0)⟩ (fun hHeld => ?_); refine with_tabW spec_QuatTurn.tab3 spec_QuatTurn.bits3 (fun HT_ HW_ => ?_)
                generalize wc.drew = w59 at HB hx136_0 hx137_0 hx138_0 hHeld ⊢
                refine pure_ (i := 0) (N := some 38) (v := ?_) (a' := ?_) #[true, false, false, false, false, false, false, false, false, false, false, false, false, false, false, false, false] rfl rfl (any_of HT_.out (by kernel_rfl)) (fun _ _ _ h => h) (Or.inl ⟨by rfl, ?_⟩) ?_ ?_
                rotate_left
                · intro w'
                  go_simp
                  with_reducible rfl
                rotate_left
                · simp only [Act.put, List.setIfInBounds_toArray, List.set_cons_zero, List.set_cons_succ, i64_w, i32_w]
                  rfl
                refine pure_ (i := 1) (N := some 39) (v := ?_) (a' := ?_) #[true, true, false, false, false, false, false, false, false, false, false, false, false, false, false, false, false] rfl rfl (any_of HT_.out (by kernel_rfl)) (fun _ _ _ h => h) (Or.inl ⟨by rfl, ?_⟩) ?_ ?_
                rotate_left
                · intro w'
                  go_simp
                  with_reducible rfl
                rotate_left
                · simp only [Act.put, List.setIfInBounds_toArray, List.set_cons_zero, List.set_cons_succ, i64_w, i32_w]
                  rfl
                refine pure_ (i := 2) (N := some 40) (v := ?_) (a' := ?_) #[true, true, true, false, false, false, false, false, false, false, false, false, false, false, false, false, false] rfl rfl (any_of HT_.out (by kernel_rfl)) (fun _ _ _ h => h) (Or.inl ⟨by rfl, ?_⟩) ?_ ?_
                rotate_left
                · intro w'
                  go_simp
                  with_reducible rfl
                rotate_left
                · simp only [Act.put, List.setIfInBounds_toArray, List.set_cons_zero, List.set_cons_succ, i64_w, i32_w]
                  rfl
                refine pure_ (i := 4) (N := some 42) (v := ?_) (a' := ?_) #[true, true, true, false, true, false, false, false, false, false, false, false, false, false, false, false, false] rfl rfl (any_of HT_.out (by kernel_rfl)) (fun _ _ _ h => h) (Or.inl ⟨by rfl, ?_⟩) ?_ ?_
                rotate_left
                · intro w'
                  go_simp
                  with_reducible rfl
                rotate_left
                · simp only [Act.put, List.setIfInBounds_toArray, List.set_cons_zero, List.set_cons_succ, i64_w, i32_w]
                  rfl
                refine pure_ (i := 5) (N := some 43) (v := ?_) (a' := ?_) #[true, true, true, false, true, true, false, false, false, false, false, false, false, false, false, false, false] rfl rfl (any_of HT_.out (by kernel_rfl)) (fun _ _ _ h => h) (Or.inl ⟨by rfl, ?_⟩) ?_ ?_
                rotate_left
                · intro w'
                  go_simp
                  with_reducible rfl
                rotate_left
                · simp only [Act.put, List.setIfInBounds_toArray, List.set_cons_zero, List.set_cons_succ, i64_w, i32_w]
                  rfl
                refine pure_ (i := 7) (N := some 45) (v := ?_) (a' := ?_) #[true, true, true, false, true, true, false, true, false, false, false, false, false, false, false, false, false] rfl rfl (any_of HT_.out (by kernel_rfl)) (fun _ _ _ h => h) (Or.inl ⟨by rfl, ?_⟩) ?_ ?_
                rotate_left
                · intro w'
                  go_simp
                  with_reducible rfl
                rotate_left
                · simp only [Act.put, List.setIfInBounds_toArray, List.set_cons_zero, List.set_cons_succ, i64_w, i32_w]
                  rfl
                refine pure_ (i := 8) (N := some 46) (v := ?_) (a' := ?_) #[true, true, true, false, true, true, false, true, true, false, false, false, false, false, false, false, false] rfl rfl (any_of HT_.out (by kernel_rfl)) (fun _ _ _ h => h) (Or.inl ⟨by rfl, ?_⟩) ?_ ?_
                rotate_left
                · intro w'
                  go_simp
                  with_reducible rfl
                rotate_left
                · simp only [Act.put, List.setIfInBounds_toArray, List.set_cons_zero, List.set_cons_succ, i64_w, i32_w]
                  rfl
                refine take_ (i := 3) (N := some 41) (v := ?_) (a' := ?_) #[true, true, true, true, true, true, false, true, true, false, false, false, false, false, false, false, false] rfl rfl (take_ofW HT_.out HW_.out (by kernel_rfl)) (fun _ _ _ h => h) (Or.inl ⟨by rfl, ?_⟩) hHeld ?_ ?_
                rotate_left
                · rintro w' ⟨s0, s1, s2⟩
                  go_simp
                  with_reducible rfl
                rotate_left
                · simp only [Act.put, List.setIfInBounds_toArray, List.set_cons_zero, List.set_cons_succ, i64_w, i32_w]
                  rfl
                refine take_ (i := 6) (N := some 44) (v := ?_) (a' := ?_) #[true, true, true, true, true, true, true, true, true, false, false, false, false, false, false, false, false] rfl rfl (take_ofW HT_.out HW_.out (by kernel_rfl)) (fun _ _ _ h => h) (Or.inl ⟨by rfl, ?_⟩) hHeld ?_ ?_
                rotate_left
                · rintro w' ⟨s0, s1, s2⟩
                  go_simp
                  with_reducible rfl
                rotate_left
                · simp only [Act.put, List.setIfInBounds_toArray, List.set_cons_zero, List.set_cons_succ, i64_w, i32_w]
                  rfl
                refine take_ (i := 9) (N := some 47) (v := ?_) (a' := ?_) #[true, true, true, true, true, true, true, true, true, true, false, false, false, false, false, false, false] rfl rfl (take_ofW HT_.out HW_.out (by kernel_rfl)) (fun _ _ _ h => h) (Or.inl ⟨by rfl, ?_⟩) hHeld ?_ ?_
                rotate_left
                · rintro w' ⟨s0, s1, s2⟩
                  go_simp
                  with_reducible rfl
                rotate_left
                · simp only [Act.put, List.setIfInBounds_toArray, List.set_cons_zero, List.set_cons_succ, i64_w, i32_w]
                  rfl
                refine one_ (i := 10) (N := some 48) #[true, true, true, true, true, true, true, true, true, true, true, false, false, false, false, false, false] rfl rfl (one_of HT_.out (by kernel_rfl)) (by decide) (fun K hK => ?_)
                refine Kd.R_lit_step (Kd.int .i64) _ 3 ?hg (N := 48) ?hd (xs := ([0, rd l1 0, rd l1 1, rd l1 2] : List Int)) (inner := [.int .i64 0, .int .i64 (rd l1 0), .int .i64 (rd l1 1), .int .i64 (rd l1 2)]) (ok := fun _ => True) (okp := fun _ => True) ?hr ?hp (fun _ hk => hk) trivial (Below.refl _ _) (Nat.le_refl _) (by simp) ?_; (case hd => rfl); (case hg => rfl); (case hr => first | (go_simp; done) | (go_simp; rfl)); (case hp => exact (Reps.one (show Kd.M (Kd.int .i64) _ _ _ 0 [.int .i64 0] from rfl) (Reps.one (show Kd.M (Kd.int .i64) _ _ _ (rd l1 0) [.int .i64 (rd l1 0)] from rfl) (Reps.one (show Kd.M (Kd.int .i64) _ _ _ (rd l1 1) [.int .i64 (rd l1 1)] from rfl) (Reps.one (show Kd.M (Kd.int .i64) _ _ _ (rd l1 2) [.int .i64 (rd l1 2)] from rfl) (Reps.none _ _))))))
                intro v140 w60 ho61 hb hg_ hnew_
                clear hg_ hnew_
                (first | rw [← Ny139.out] at ho61 | (simp only [Int.reduceToNat] at ho61; rw [← Ny139.out] at ho61))
                have n0_ := Aside0.mk (Kd.R_lower ho61 (below_size (Sqz.auHB)))
                have n1_ := Aside0.mk (below_step (Sqz.auHB) hb)
                clear HB
                have HO141 := n0_
                have HB := n1_
                clear n0_ n1_
                clear hb ho61
                obtain ⟨Ao62, co62, eo62⟩ := Kd.R_slice HO141.out
                (first | subst eo62 | (injection eo62 with f1_ f2_ f3_; have f4_ := f1_.symm; have f5_ := f3_.symm; clear f1_ f2_ f3_; subst f4_; subst f5_))
                refine hK.out _ _ ⟨((HB.out.cell (World.block_lt_of_cell? w _ hw136_0)).trans hw136_0), ((HB.out.cell (World.block_lt_of_cell? w _ hw137_0)).trans hw137_0), ((HB.out.cell (World.block_lt_of_cell? w _ hw138_0)).trans hw138_0)⟩ (fun hHeld => ?_)
                clear hK K
                refine norm_ (a' := ?_) ?_ ?_
                rotate_left
                · show Act.put _ (some 48) _ = _
                  simp only [Act.put, List.setIfInBounds_toArray, List.set_cons_zero, List.set_cons_succ, i64_w, i32_w]
                  rfl
                refine one_ (i := 11) (N := some 49) #[true, true, true, true, true, true, true, true, true, true, true, true, false, false, false, false, false] rfl rfl (one_of HT_.out (by kernel_rfl)) (by decide) (fun K hK => ?_)
                refine goes_ Try.func19 (by kernel_rfl) rfl #[.slice A0 l0.length c0, .slice Ao62 y139.length co62] (by rfl) rfl rfl Sqz.auM ?_
                with_reducible refine (spec_QuatMul.calls kj2 _ _ l0 _ _ y139 t142 false _ ?side1 ?side2 ?side3 ?side4 A19.out).mono ?_
                (case side1 => exact Sqz.mvC ((Kd.C_below HR0.out HB.out)))
                (case side2 => exact HC0.out)
                (case side3 => exact Sqz.mvC ((Kd.R_reads' HO141.out).2.2))
                (case side4 => exact (Kd.R_reads' HO141.out).2.1)
                rintro e w63 ⟨v144, rfl, ho0, hb⟩
                refine ⟨_, rfl, ?_⟩
                have n0_ := Aside0.mk (Kd.R_elder' ((Sqz.mvR HO141.out)) (Kd.R_base ho0) hb)
                have n1_ := Aside0.mk (Kd.R_lower (Kd.R_new' ho0 (Kd.R_lt ((Sqz.mvR HO141.out)))) (below_size (Sqz.auHB)))
                have n2_ := Aside0.mk (below_step (Sqz.auHB) hb)
                clear HO141
                clear HB
                have HO141 := n0_
                have HO145 := n1_
                have HB := n2_
                clear n0_ n1_ n2_
                (try clear hb)
                (try clear hb2)
                (try clear hk)
                (try clear hi)
                (try clear ho0)
                refine hK.out _ _ ⟨((HB.out.cell (World.block_lt_of_cell? w _ hw136_0)).trans hw136_0), ((HB.out.cell (World.block_lt_of_cell? w _ hw137_0)).trans hw137_0), ((HB.out.cell (World.block_lt_of_cell? w _ hw138_0)).trans hw138_0)⟩ (fun hHeld => ?_)
                clear hK K
                refine norm_ (a' := ?_) ?_ ?_
                rotate_left
                · show Act.put _ (some 49) _ = _
                  simp only [Act.put, List.setIfInBounds_toArray, List.set_cons_zero, List.set_cons_succ, i64_w, i32_w]
                  rfl
                refine pure_ (i := 12) (N := some 37) (v := ?_) (a' := ?_) #[true, true, true, true, true, true, true, true, true, true, true, true, true, false, false, false, false] rfl rfl (any_of HT_.out (by kernel_rfl)) (fun _ _ _ h => h) (Or.inl ⟨by rfl, ?_⟩) ?_ ?_
                rotate_left
                · intro w'
                  go_simp
                  with_reducible rfl
                rotate_left
                · simp only [Act.put, List.setIfInBounds_toArray, List.set_cons_zero, List.set_cons_succ, i64_w, i32_w]
                  rfl
                refine pure_ (i := 13) (N := some 50) (v := ?_) (a' := ?_) #[true, true, true, true, true, true, true, true, true, true, true, true, true, true, false, false, false] rfl rfl (any_of HT_.out (by kernel_rfl)) (fun _ _ _ h => h) (Or.inl ⟨by rfl, ?_⟩) ?_ ?_
                rotate_left
                · intro w'
                  go_simp
                  with_reducible rfl
                rotate_left
                · simp only [Act.put, List.setIfInBounds_toArray, List.set_cons_zero, List.set_cons_succ, i64_w, i32_w]
                  rfl
                refine pure_ (i := 14) (N := some 51) (v := ?_) (a' := ?_) #[true, true, true, true, true, true, true, true, true, true, true, true, true, true, true, false, false] rfl rfl (any_of HT_.out (by kernel_rfl)) (fun _ _ _ h => h) (Or.inl ⟨by rfl, ?_⟩) ?_ ?_
                rotate_left
                · intro w'
                  go_simp
                  with_reducible rfl
                rotate_left
                · simp only [Act.put, List.setIfInBounds_toArray, List.set_cons_zero, List.set_cons_succ, i64_w, i32_w]
                  rfl
                refine pure_ (i := 15) (N := some 6) (v := ?_) (a' := ?_) #[true, true, true, true, true, true, true, true, true, true, true, true, true, true, true, true, false] rfl rfl (any_of HT_.out (by kernel_rfl)) (fun _ _ _ h => h) (Or.inl ⟨by rfl, ?_⟩) ?_ ?_
                rotate_left
                · intro w'
                  go_simp
                  with_reducible rfl
                rotate_left
                · simp only [Act.put, List.setIfInBounds_toArray, List.set_cons_zero, List.set_cons_succ, i64_w, i32_w]
                  rfl
                refine pure_ (i := 16) (N := some 7) (v := ?_) (a' := ?_) #[true, true, true, true, true, true, true, true, true, true, true, true, true, true, true, true, true] rfl rfl (any_of HT_.out (by kernel_rfl)) (fun _ _ _ h => h) (Or.inl ⟨by rfl, ?_⟩) ?_ ?_
                rotate_left
                · intro w'
                  go_simp
                  with_reducible rfl
                rotate_left
                · simp only [Act.put, List.setIfInBounds_toArray, List.set_cons_zero, List.set_cons_succ, i64_w, i32_w]
                  rfl
                refine done_ (done_of HT_.out (by kernel_rfl)) ?_
                try go_wp2_with (first | ((with_reducible refine gate_callee (f := 62) rfl ?_); refine goesL_ (some 54) rfl rfl Try.func62 (by kernel_rfl) rfl #[.slice A0 l0.length c0] rfl Sqz.auM ?_; (with_reducible refine (spec_QuatConj.calls kj2 _ _ l0 t146 t147 _ ?side1 ?side2 A20.out).mono ?_); (case side1 => exact Sqz.mvC ((Kd.C_below HR0.out HB.out))); (case side2 => exact HC0.out); rintro e w64 ⟨v148, rfl, ho0, hb⟩; refine ⟨_, rfl, ?_⟩; have n0_ := Aside0.mk (Kd.R_elder' ((Sqz.mvR HO141.out)) (Kd.R_base ho0) hb); have n1_ := Aside0.mk (Kd.R_elder' ((Sqz.mvR HO145.out)) (Kd.R_base ho0) hb); have n2_ := Aside0.mk (Kd.R_lower (Kd.R_new' (Kd.R_new' ho0 (Kd.R_lt ((Sqz.mvR HO141.out)))) (Kd.R_lt ((Sqz.mvR HO145.out)))) (below_size (Sqz.auHB))); have n3_ := Aside0.mk (below_step (Sqz.auHB) hb); clear HO141; clear HO145; clear HB; have HO141 := n0_; have HO145 := n1_; have HO149 := n2_; have HB := n3_; clear n0_ n1_ n2_ n3_; (try clear hb); (try clear hb2); (try clear hk); (try clear hi); (try clear ho0); obtain ⟨Ao65, co65, eo65⟩ := Kd.R_slice HO145.out; subst eo65; obtain ⟨Ao66, co66, eo66⟩ := Kd.R_slice HO149.out; subst eo66) | ((with_reducible refine gate_callee (f := 19) rfl ?_); refine goesL_ (some 60) rfl rfl Try.func19 (by kernel_rfl) rfl #[.slice Ao65 t142.length co65, .slice Ao66 t146.length co66] rfl Sqz.auM ?_; (with_reducible refine (spec_QuatMul.calls kj2 _ _ t142 _ _ t146 t150 t151 _ ?side1 ?side2 ?side3 ?side4 A21.out).mono ?_); (case side1 => exact Sqz.mvC ((Kd.R_reads' HO145.out).2.2)); (case side2 => exact (Kd.R_reads' HO145.out).2.1); (case side3 => exact Sqz.mvC ((Kd.R_reads' HO149.out).2.2)); (case side4 => exact (Kd.R_reads' HO149.out).2.1); rintro e w67 ⟨v152, rfl, ho0, hb⟩; refine ⟨_, rfl, ?_⟩; have n0_ := Aside0.mk (Kd.R_elder' ((Sqz.mvR HO141.out)) (Kd.R_base ho0) hb); have n1_ := Aside0.mk (Kd.R_elder' ((Sqz.mvR HO145.out)) (Kd.R_base ho0) hb); have n2_ := Aside0.mk (Kd.R_elder' ((Sqz.mvR HO149.out)) (Kd.R_base ho0) hb); have n3_ := Aside0.mk (Kd.R_lower (Kd.R_new' (Kd.R_new' (Kd.R_new' ho0 (Kd.R_lt ((Sqz.mvR HO141.out)))) (Kd.R_lt ((Sqz.mvR HO145.out)))) (Kd.R_lt ((Sqz.mvR HO149.out)))) (below_size (Sqz.auHB))); have n4_ := Aside0.mk (below_step (Sqz.auHB) hb); clear HO141; clear HO145; clear HO149; clear HB; have HO141 := n0_; have HO145 := n1_; have HO149 := n2_; have HO153 := n3_; have HB := n4_; clear n0_ n1_ n2_ n3_ n4_; (try clear hb); (try clear hb2); (try clear hk); (try clear hi); (try clear ho0)) | ((with_reducible refine gate_dst (N := 73) rfl ?_); refine Kd.R_lit (Kd.int .i64) _ 3 ?hg (N := 73) ?hd (xs := ([] : List Int)) (inner := []) (ok := fun _ => True) (okp := fun _ => True) ?hr ?hp (fun _ hk => hk) trivial (Below.refl _ _) (Nat.le_refl _) (by simp) ?_; (case hd => rfl); (case hg => rfl); (case hr => first | (go_simp; done) | (go_simp; rfl)); (case hp => exact (Reps.none _ _)); intro v164 w68 ho69 hb hg_ hnew_; clear hg_ hnew_; (first | rw [← Ny163.out] at ho69 | (simp only [Int.reduceToNat] at ho69; rw [← Ny163.out] at ho69)); have n0_ := Aside0.mk (Kd.R_elder' ((Sqz.mvR HO141.out)) (Kd.R_base ho69) hb); have n1_ := Aside0.mk (Kd.R_elder' ((Sqz.mvR HO145.out)) (Kd.R_base ho69) hb); have n2_ := Aside0.mk (Kd.R_elder' ((Sqz.mvR HO149.out)) (Kd.R_base ho69) hb); have n3_ := Aside0.mk (Kd.R_elder' ((Sqz.mvR HO153.out)) (Kd.R_base ho69) hb); have n4_ := Aside0.mk (Kd.R_lower (Kd.R_new' (Kd.R_new' (Kd.R_new' (Kd.R_new' ho69 (Kd.R_lt ((Sqz.mvR HO141.out)))) (Kd.R_lt ((Sqz.mvR HO145.out)))) (Kd.R_lt ((Sqz.mvR HO149.out)))) (Kd.R_lt ((Sqz.mvR HO153.out)))) (below_size (Sqz.auHB))); have n5_ := Aside0.mk (below_step (Sqz.auHB) hb); clear HO141; clear HO145; clear HO149; clear HO153; clear HB; have HO141 := n0_; have HO145 := n1_; have HO149 := n2_; have HO153 := n3_; have HO165 := n4_; have HB := n5_; clear n0_ n1_ n2_ n3_ n4_ n5_; clear hb ho69))
                go_ret2
                exact ⟨_, Sqz.auR, Kd.Q_of_R ((Sqz.mvR (Kd.R_mono HO165.out (fun _ hk => trivial)))), Sqz.auHB⟩
            · rw [if_neg c18] at H
              exact absurd H (by simp)
          · rw [if_neg c17] at H
            exact absurd H (by simp)
        · rw [if_neg c16] at H
          exact absurd H (by simp)

end Go.Proofs.Ytfhehcgefbknbaa.PFnTurn
