/- A function's Lean twin and its walk, written by a program of this session. -/
import Derived.Test.YtacfcoilmdhgnaaGreatDoorTPFnExecuteSquaresx0
import Derived.Test.YtacfcoilmdhgnaaGreatDoorTPFnExecuteSquaresx2
namespace Go.Proofs.YtacfcoilmdhgnaaGreatDoor.PFnExecuteSquares
open Go.RowKit Go.Proofs.YtacfcoilmdhgnaaGreatDoorW.PrintWords Go.Proofs.YtacfcoilmdhgnaaGreatDoorW.PrintLast Go.Proofs.YtacfcoilmdhgnaaGreatDoorW.PrintMore
attribute [local go_sem] max2_int min2_int max_two min_two max_three min_three max_four min_four   -- for this text's walks alone
set_option linter.unusedVariables false
set_option linter.unusedSimpArgs false

/-! ### spec_l6Rd_pick: function 43 -/
def spec_l6Rd_pick.j0 : Nat → Int → Bool → List Int → Int → Option (Int × Int)
  | 0, _, _, _, _ => none
  | k + 1, x1, x24, x1000, x1001 => if x24 = true then (some (0, x1001)) else (if (wrap64 (x1001 - 1)) < (x1000.length : Int) then (if 0 ≤ (wrap64 (x1001 - 1)) then (if x1 = 0 then (none) else (some (Int.tmod (wrap64 (rd x1000 (wrap64 (x1001 - 1)))) x1, x1001))) else (none)) else (if (x1000.length : Int) = 0 then (none) else (if 0 ≤ (Int.tmod (wrap64 (x1001 - 1)) (x1000.length : Int)) then (if (Int.tmod (wrap64 (x1001 - 1)) (x1000.length : Int)) < (x1000.length : Int) then (if 0 ≤ (Int.tmod (wrap64 ((wrap64 ((wrap64 (x1001 - 1)) * 7)) + 3)) (x1000.length : Int)) then (if (Int.tmod (wrap64 ((wrap64 ((wrap64 (x1001 - 1)) * 7)) + 3)) (x1000.length : Int)) < (x1000.length : Int) then (if x1 = 0 then (none) else (some (Int.tmod (Go.bits .xor .i64 (wrap64 ((wrap64 ((wrap64 ((wrap64 ((wrap64 (rd x1000 (Int.tmod (wrap64 (x1001 - 1)) (x1000.length : Int)))) * 131)) + (wrap64 ((wrap64 (rd x1000 (Int.tmod (wrap64 ((wrap64 ((wrap64 (x1001 - 1)) * 7)) + 3)) (x1000.length : Int)))) * 1117)))) + (wrap64 ((wrap64 (x1001 - 1)) * 29)))) + (wrap64 ((wrap64 (Int.tdiv (wrap64 (x1001 - 1)) (x1000.length : Int))) * 53)))) (wrap64 (Int.tdiv (wrap64 ((wrap64 ((wrap64 ((wrap64 ((wrap64 (rd x1000 (Int.tmod (wrap64 (x1001 - 1)) (x1000.length : Int)))) * 131)) + (wrap64 ((wrap64 (rd x1000 (Int.tmod (wrap64 ((wrap64 ((wrap64 (x1001 - 1)) * 7)) + 3)) (x1000.length : Int)))) * 1117)))) + (wrap64 ((wrap64 (x1001 - 1)) * 29)))) + (wrap64 ((wrap64 (Int.tdiv (wrap64 (x1001 - 1)) (x1000.length : Int))) * 53)))) 64))) x1, x1001))) else (none)) else (none)) else (none)) else (none))))
def spec_l6Rd_pick.f (k : Nat) (s0_0 : List Int) (s0_1 : Int) (a1 : Int) : Option (Int × Int) := if a1 < 1 then (spec_l6Rd_pick.j0 k a1 true s0_0 (wrap64 (s0_1 + 1))) else (spec_l6Rd_pick.j0 k a1 ((s0_0.length : Int) == 0) s0_0 (wrap64 (s0_1 + 1)))
set_option maxHeartbeats 8000000 in
set_option maxRecDepth 100000 in
theorem spec_l6Rd_pick.calls (k : Nat) (g : Nat) (s0_0 : List Int) (s0_1 : Int) (a1 : Int) (r1 : Int) (r2 : Int) (w0 w : World) (hI : IsS83 w0 w g s0_0 s0_1) (hB : Below w0.heap.size w0 w) (h : spec_l6Rd_pick.f k s0_0 s0_1 a1 = some (r1, r2)) :
    Calls Tryz.prog 43 #[.pointer (some ⟨g, 0, none⟩), .int .i64 a1] w fun e w' => e = .returned (.int .i64 r1) ∧ IsS83 w0 w' g s0_0 r2 ∧ Below w0.heap.size w0 w' ∧ KeepBut w w' g none := by
  have HI0 := Aside0.mk hI
  have HK := Aside0.mk (KeepBut.refl w g none)
  have HL := Aside0.mk hB.size
  clear hI
  have HW0 := Aside0.mk hB.size
  have HB := Aside0.mk hB
  clear hB
  have H : (if a1 < 1 then (spec_l6Rd_pick.j0 k a1 true s0_0 (wrap64 (s0_1 + 1))) else (spec_l6Rd_pick.j0 k a1 ((s0_0.length : Int) == 0) s0_0 (wrap64 (s0_1 + 1)))) = some (r1, r2) := h
  clear h
  have HC3 := Aside0.mk H
  clear H
  obtain ⟨ASz4_0, cSz4_0, HGz4, hgz4, HSz4_0⟩ := HI0.out
  have hcz4_0 := cellS83_0 HGz4
  have hcz4_1 := cellS83_1 HGz4
  have hfz4_1 := blk_frozen HGz4 1
  clear HGz4 hgz4
  go_enter Tryz.func43, Tryz.ntmps43
  go_upto_region 2 with (fail)
  repeat (go_quiet (fail); go_upto_region 2 with (fail))
  go_cut [24] (fun v24 wc => ∃ (kq : Nat) (x24_2 : Bool), v24 = .bool x24_2 ∧ Aside0 (spec_l6Rd_pick.j0 kq a1 x24_2 s0_0 (wrap64 (s0_1 + 1)) = some (r1, r2)) ∧ Aside0 (kq ≤ k) ∧ Aside0 (IsS83 w0 wc g s0_0 (wrap64 (s0_1 + 1))) ∧ Aside0 (KeepBut w wc g none) ∧ Aside0 (Below w0.heap.size w0 wc))
  case first =>
    have H := HC3.out
    clear HC3
    by_cases c5 : a1 < 1
    · rw [if_pos c5] at H
      have c5b0 : decide (a1 < 1) = true := decide_eq_true c5
      clear c5
      (first | rw [c5b0] | (simp only [i64_w, i32_w]; rw [c5b0]) | skip)
      have H' := Aside0.mk H
      clear H
      go_wp2
      repeat (go_quiet (fail); try go_wp2)
      go_meet
      case rel => exact ⟨_, (true), Sqz.auS, H', ⟨Sqz.auN⟩, ⟨by repeat (first | (with_reducible first | exact HI0.out | apply IsS83.alloc | apply IsS83.drewN | apply IsS83.drew | apply IsS83.set_1) | exact HI0.out)⟩, ⟨by repeat (first | (with_reducible first | exact HK.out | apply KeepBut.set_ | apply keep_drewN | apply keep_drew | apply keep_alloc) | exact HK.out)⟩, ⟨by repeat (first | (with_reducible first | exact HB.out | apply below_alloc | apply pw_below_drewN | apply below_drew1 | refine below_set ?_ (IsS83.ge HI0.out)) | exact HB.out)⟩⟩
    · rw [if_neg c5] at H
      have c5b0 : decide (a1 < 1) = false := decide_eq_false c5
      clear c5
      (first | rw [c5b0] | (simp only [i64_w, i32_w]; rw [c5b0]) | skip)
      have H' := Aside0.mk H
      clear H
      obtain ⟨ASz6_0, cSz6_0, HGz6, hgz6, HSz6_0⟩ := HI0.out
      have hcz6_0 := cellS83_0 HGz6
      have hcz6_1 := cellS83_1 HGz6
      have hfz6_1 := blk_frozen HGz6 1
      clear HGz6 hgz6
      go_wp2
      repeat (go_quiet (fail); try go_wp2)
      go_meet
      case rel => exact ⟨_, (((s0_0.length : Int) == 0)), Sqz.auS, H', ⟨Sqz.auN⟩, ⟨by repeat (first | (with_reducible first | exact HI0.out | apply IsS83.alloc | apply IsS83.drewN | apply IsS83.drew | apply IsS83.set_1) | exact HI0.out)⟩, ⟨by repeat (first | (with_reducible first | exact HK.out | apply KeepBut.set_ | apply keep_drewN | apply keep_drew | apply keep_alloc) | exact HK.out)⟩, ⟨by repeat (first | (with_reducible first | exact HB.out | apply below_alloc | apply pw_below_drewN | apply below_drew1 | refine below_set ?_ (IsS83.ge HI0.out)) | exact HB.out)⟩⟩
  case rest =>
    clear HC3
    try clear p2
    try clear c4
    try clear c5
    try clear c5b0
    try clear p6
    try clear hcz4_0
    try clear hcz4_1
    try clear hcz6_0
    try clear hcz6_1
    try clear hfz4_1
    try clear hfz6_1
    obtain ⟨kq, x24_2, rfl, HA, HJ2, HI0, HK, HB⟩ := hcut
    cases kq with
    | zero => exact absurd HA.out (by simp [spec_l6Rd_pick.j0])
    | succ kj2 =>
      have H := HA.out
      clear HA
      simp only [spec_l6Rd_pick.j0] at H
      by_cases c7 : x24_2 = true
      · subst c7
        have H1 : (some (0, (wrap64 (s0_1 + 1)))) = some (r1, r2) := by rw [if_pos rfl] at H; exact H
        clear H
        have H := H1
        clear H1
        simp only [Option.some.injEq, Prod.mk.injEq] at H
        obtain ⟨rfl, rfl⟩ := H
        go_wp2
        repeat (go_quiet (fail); try go_wp2)
        go_ret
        exact ⟨Sqz.auR, by repeat (first | (with_reducible first | exact HI0.out | apply IsS83.alloc | apply IsS83.drewN | apply IsS83.drew | apply IsS83.set_1) | exact HI0.out), by repeat (first | (with_reducible first | exact HB.out | apply below_alloc | apply pw_below_drewN | apply below_drew1 | refine below_set ?_ (IsS83.ge HI0.out)) | exact HB.out), by repeat (first | (with_reducible first | exact HK.out | apply KeepBut.set_ | apply keep_drewN | apply keep_drew | apply keep_alloc) | exact HK.out)⟩
      · replace c7 := Bool.eq_false_iff.mpr c7
        subst c7
        have H1 : (if (wrap64 ((wrap64 (s0_1 + 1)) - 1)) < (s0_0.length : Int) then (if 0 ≤ (wrap64 ((wrap64 (s0_1 + 1)) - 1)) then (if a1 = 0 then (none) else (some (Int.tmod (wrap64 (rd s0_0 (wrap64 ((wrap64 (s0_1 + 1)) - 1)))) a1, (wrap64 (s0_1 + 1))))) else (none)) else (if (s0_0.length : Int) = 0 then (none) else (if 0 ≤ (Int.tmod (wrap64 ((wrap64 (s0_1 + 1)) - 1)) (s0_0.length : Int)) then (if (Int.tmod (wrap64 ((wrap64 (s0_1 + 1)) - 1)) (s0_0.length : Int)) < (s0_0.length : Int) then (if 0 ≤ (Int.tmod (wrap64 ((wrap64 ((wrap64 ((wrap64 (s0_1 + 1)) - 1)) * 7)) + 3)) (s0_0.length : Int)) then (if (Int.tmod (wrap64 ((wrap64 ((wrap64 ((wrap64 (s0_1 + 1)) - 1)) * 7)) + 3)) (s0_0.length : Int)) < (s0_0.length : Int) then (if a1 = 0 then (none) else (some (Int.tmod (Go.bits .xor .i64 (wrap64 ((wrap64 ((wrap64 ((wrap64 ((wrap64 (rd s0_0 (Int.tmod (wrap64 ((wrap64 (s0_1 + 1)) - 1)) (s0_0.length : Int)))) * 131)) + (wrap64 ((wrap64 (rd s0_0 (Int.tmod (wrap64 ((wrap64 ((wrap64 ((wrap64 (s0_1 + 1)) - 1)) * 7)) + 3)) (s0_0.length : Int)))) * 1117)))) + (wrap64 ((wrap64 ((wrap64 (s0_1 + 1)) - 1)) * 29)))) + (wrap64 ((wrap64 (Int.tdiv (wrap64 ((wrap64 (s0_1 + 1)) - 1)) (s0_0.length : Int))) * 53)))) (wrap64 (Int.tdiv (wrap64 ((wrap64 ((wrap64 ((wrap64 ((wrap64 (rd s0_0 (Int.tmod (wrap64 ((wrap64 (s0_1 + 1)) - 1)) (s0_0.length : Int)))) * 131)) + (wrap64 ((wrap64 (rd s0_0 (Int.tmod (wrap64 ((wrap64 ((wrap64 ((wrap64 (s0_1 + 1)) - 1)) * 7)) + 3)) (s0_0.length : Int)))) * 1117)))) + (wrap64 ((wrap64 ((wrap64 (s0_1 + 1)) - 1)) * 29)))) + (wrap64 ((wrap64 (Int.tdiv (wrap64 ((wrap64 (s0_1 + 1)) - 1)) (s0_0.length : Int))) * 53)))) 64))) a1, (wrap64 (s0_1 + 1))))) else (none)) else (none)) else (none)) else (none)))) = some (r1, r2) := by rw [if_neg (show ¬ (false = true) by decide)] at H; exact H
        clear H
        have H := H1
        clear H1
        by_cases c8 : (wrap64 ((wrap64 (s0_1 + 1)) - 1)) < (s0_0.length : Int)
        · rw [if_pos c8] at H
          have c8b0 : decide ((wrap64 ((wrap64 (s0_1 + 1)) - 1)) < (s0_0.length : Int)) = true := decide_eq_true c8
          clear c8
          obtain ⟨ji9, hji9⟩ : ∃ j_ : Int, (wrap64 ((wrap64 (s0_1 + 1)) - 1)) = j_ := ⟨_, rfl⟩
          replace H : (if 0 ≤ (ji9) then (if a1 = 0 then (none) else (some (Int.tmod (wrap64 (rd s0_0 (ji9))) a1, (wrap64 (s0_1 + 1))))) else (none)) = some (r1, r2) := by first | (rw [hji9] at H; exact H) | (simp only [hji9] at H ⊢; exact H)
          (try rw [hji9] at c8b0)
          have hji9w : (IntKind.i64.wrap ((wrap64 (s0_1 + 1)) - 1)) = ji9 := (i64_w _).trans hji9
          by_cases c10 : 0 ≤ (ji9)
          · rw [if_pos c10] at H
            have c10b0 : decide (0 ≤ (ji9)) = true := decide_eq_true c10
            clear c10
            by_cases c11 : a1 = 0
            · rw [if_pos c11] at H
              exact absurd H (by simp)
            · rw [if_neg c11] at H
              have c11b0 : (a1 == 0) = false := beq_eq_false_iff_ne.mpr c11
              have c11b1 : (a1 != 0) = true := bne_iff_ne.mpr c11
              simp only [Option.some.injEq, Prod.mk.injEq] at H
              obtain ⟨rfl, rfl⟩ := H
              obtain ⟨ASz12_0, cSz12_0, HGz12, hgz12, HSz12_0⟩ := HI0.out
              have hcz12_0 := cellS83_0 HGz12
              have hcz12_1 := cellS83_1 HGz12
              have hfz12_1 := blk_frozen HGz12 1
              clear HGz12 hgz12
              have p123 : 0 ≤ ((ji9) : Int) := of_decide_eq_true (by first | (with_reducible assumption) | assumption)
              have q123 : (ji9) < (s0_0.length : Int) := of_decide_eq_true (by first | (with_reducible assumption) | assumption)
              obtain ⟨ad123, e123, hx123_0⟩ := Kd.at_int HSz12_0 (ji9) p123 q123
              cases e123
              replace hx123_0 := pw_cell_below HB.out hx123_0
              replace p123 := eq_true p123
              replace q123 := eq_true q123
              go_wp2
              repeat (go_quiet (fail); try go_wp2)
              go_ret
              exact ⟨by first | rfl | (simp [errW_none, errW_some] <;> rfl) | (simp only [← hji9]; first | rfl | (simp [errW_none, errW_some] <;> rfl)) | (simp [*, errW_none, errW_some] <;> rfl), by repeat (first | (with_reducible first | exact HI0.out | apply IsS83.alloc | apply IsS83.drewN | apply IsS83.drew | apply IsS83.set_1) | exact HI0.out), by repeat (first | (with_reducible first | exact HB.out | apply below_alloc | apply pw_below_drewN | apply below_drew1 | refine below_set ?_ (IsS83.ge HI0.out)) | exact HB.out), by repeat (first | (with_reducible first | exact HK.out | apply KeepBut.set_ | apply keep_drewN | apply keep_drew | apply keep_alloc) | exact HK.out)⟩
          · rw [if_neg c10] at H
            exact absurd H (by simp)
        · rw [if_neg c8] at H
          have c8b0 : decide ((wrap64 ((wrap64 (s0_1 + 1)) - 1)) < (s0_0.length : Int)) = false := decide_eq_false c8
          clear c8
          by_cases c13 : (s0_0.length : Int) = 0
          · rw [if_pos c13] at H
            exact absurd H (by simp)
          · rw [if_neg c13] at H
            have c13b0 : ((s0_0.length : Int) == 0) = false := beq_eq_false_iff_ne.mpr c13
            have c13b1 : ((s0_0.length : Int) != 0) = true := bne_iff_ne.mpr c13
            have c13b2 : ¬ (s0_0 = []) := fun h_ => c13 (by rw [h_]; rfl)
            obtain ⟨ji14, hji14⟩ : ∃ j_ : Int, (Int.tmod (wrap64 ((wrap64 (s0_1 + 1)) - 1)) (s0_0.length : Int)) = j_ := ⟨_, rfl⟩
            replace H : (if 0 ≤ (ji14) then (if (ji14) < (s0_0.length : Int) then (if 0 ≤ (Int.tmod (wrap64 ((wrap64 ((wrap64 ((wrap64 (s0_1 + 1)) - 1)) * 7)) + 3)) (s0_0.length : Int)) then (if (Int.tmod (wrap64 ((wrap64 ((wrap64 ((wrap64 (s0_1 + 1)) - 1)) * 7)) + 3)) (s0_0.length : Int)) < (s0_0.length : Int) then (if a1 = 0 then (none) else (some (Int.tmod (Go.bits .xor .i64 (wrap64 ((wrap64 ((wrap64 ((wrap64 ((wrap64 (rd s0_0 (ji14))) * 131)) + (wrap64 ((wrap64 (rd s0_0 (Int.tmod (wrap64 ((wrap64 ((wrap64 ((wrap64 (s0_1 + 1)) - 1)) * 7)) + 3)) (s0_0.length : Int)))) * 1117)))) + (wrap64 ((wrap64 ((wrap64 (s0_1 + 1)) - 1)) * 29)))) + (wrap64 ((wrap64 (Int.tdiv (wrap64 ((wrap64 (s0_1 + 1)) - 1)) (s0_0.length : Int))) * 53)))) (wrap64 (Int.tdiv (wrap64 ((wrap64 ((wrap64 ((wrap64 ((wrap64 (rd s0_0 (ji14))) * 131)) + (wrap64 ((wrap64 (rd s0_0 (Int.tmod (wrap64 ((wrap64 ((wrap64 ((wrap64 (s0_1 + 1)) - 1)) * 7)) + 3)) (s0_0.length : Int)))) * 1117)))) + (wrap64 ((wrap64 ((wrap64 (s0_1 + 1)) - 1)) * 29)))) + (wrap64 ((wrap64 (Int.tdiv (wrap64 ((wrap64 (s0_1 + 1)) - 1)) (s0_0.length : Int))) * 53)))) 64))) a1, (wrap64 (s0_1 + 1))))) else (none)) else (none)) else (none)) else (none)) = some (r1, r2) := by first | (rw [hji14] at H; exact H) | (simp only [hji14] at H ⊢; exact H)
            by_cases c15 : 0 ≤ (ji14)
            · rw [if_pos c15] at H
              have c15b0 : decide (0 ≤ (ji14)) = true := decide_eq_true c15
              clear c15
              by_cases c16 : (ji14) < (s0_0.length : Int)
              · rw [if_pos c16] at H
                have c16b0 : decide ((ji14) < (s0_0.length : Int)) = true := decide_eq_true c16
                clear c16
                obtain ⟨ji17, hji17⟩ : ∃ j_ : Int, (Int.tmod (wrap64 ((wrap64 ((wrap64 ((wrap64 (s0_1 + 1)) - 1)) * 7)) + 3)) (s0_0.length : Int)) = j_ := ⟨_, rfl⟩
                replace H : (if 0 ≤ (ji17) then (if (ji17) < (s0_0.length : Int) then (if a1 = 0 then (none) else (some (Int.tmod (Go.bits .xor .i64 (wrap64 ((wrap64 ((wrap64 ((wrap64 ((wrap64 (rd s0_0 (ji14))) * 131)) + (wrap64 ((wrap64 (rd s0_0 (ji17))) * 1117)))) + (wrap64 ((wrap64 ((wrap64 (s0_1 + 1)) - 1)) * 29)))) + (wrap64 ((wrap64 (Int.tdiv (wrap64 ((wrap64 (s0_1 + 1)) - 1)) (s0_0.length : Int))) * 53)))) (wrap64 (Int.tdiv (wrap64 ((wrap64 ((wrap64 ((wrap64 ((wrap64 (rd s0_0 (ji14))) * 131)) + (wrap64 ((wrap64 (rd s0_0 (ji17))) * 1117)))) + (wrap64 ((wrap64 ((wrap64 (s0_1 + 1)) - 1)) * 29)))) + (wrap64 ((wrap64 (Int.tdiv (wrap64 ((wrap64 (s0_1 + 1)) - 1)) (s0_0.length : Int))) * 53)))) 64))) a1, (wrap64 (s0_1 + 1))))) else (none)) else (none)) = some (r1, r2) := by first | (rw [hji17] at H; exact H) | (simp only [hji17] at H ⊢; exact H)
                by_cases c18 : 0 ≤ (ji17)
                · rw [if_pos c18] at H
                  have c18b0 : decide (0 ≤ (ji17)) = true := decide_eq_true c18
                  clear c18
                  by_cases c19 : (ji17) < (s0_0.length : Int)
                  · rw [if_pos c19] at H
                    have c19b0 : decide ((ji17) < (s0_0.length : Int)) = true := decide_eq_true c19
                    clear c19
                    by_cases c20 : a1 = 0
                    · rw [if_pos c20] at H
                      exact absurd H (by simp)
                    · rw [if_neg c20] at H
                      have c20b0 : (a1 == 0) = false := beq_eq_false_iff_ne.mpr c20
                      have c20b1 : (a1 != 0) = true := bne_iff_ne.mpr c20
                      simp only [Option.some.injEq, Prod.mk.injEq] at H
                      obtain ⟨rfl, rfl⟩ := H
                      obtain ⟨ASz21_0, cSz21_0, HGz21, hgz21, HSz21_0⟩ := HI0.out
                      have hcz21_0 := cellS83_0 HGz21
                      have hcz21_1 := cellS83_1 HGz21
                      have hfz21_1 := blk_frozen HGz21 1
                      clear HGz21 hgz21
                      have p124 : 0 ≤ ((ji14) : Int) := of_decide_eq_true (by first | (with_reducible assumption) | assumption)
                      have q124 : (ji14) < (s0_0.length : Int) := of_decide_eq_true (by first | (with_reducible assumption) | assumption)
                      obtain ⟨ad124, e124, hx124_0⟩ := Kd.at_int HSz21_0 (ji14) p124 q124
                      cases e124
                      replace hx124_0 := pw_cell_below HB.out hx124_0
                      replace p124 := eq_true p124
                      replace q124 := eq_true q124
                      have p125 : 0 ≤ ((ji17) : Int) := of_decide_eq_true (by first | (with_reducible assumption) | assumption)
                      have q125 : (ji17) < (s0_0.length : Int) := of_decide_eq_true (by first | (with_reducible assumption) | assumption)
                      obtain ⟨ad125, e125, hx125_0⟩ := Kd.at_int HSz21_0 (ji17) p125 q125
                      obtain rfl : ad124 = ad125 := (by injection e125)
                      replace hx125_0 := pw_cell_below HB.out hx125_0
                      replace p125 := eq_true p125
                      replace q125 := eq_true q125
                      go_wp2
                      repeat (go_quiet (fail); try go_wp2)
                      go_ret
                      exact ⟨by first | rfl | (simp [errW_none, errW_some] <;> rfl) | (simp only [← hji14, ← hji17]; first | rfl | (simp [errW_none, errW_some] <;> rfl)) | (simp [*, errW_none, errW_some] <;> rfl), by repeat (first | (with_reducible first | exact HI0.out | apply IsS83.alloc | apply IsS83.drewN | apply IsS83.drew | apply IsS83.set_1) | exact HI0.out), by repeat (first | (with_reducible first | exact HB.out | apply below_alloc | apply pw_below_drewN | apply below_drew1 | refine below_set ?_ (IsS83.ge HI0.out)) | exact HB.out), by repeat (first | (with_reducible first | exact HK.out | apply KeepBut.set_ | apply keep_drewN | apply keep_drew | apply keep_alloc) | exact HK.out)⟩
                  · rw [if_neg c19] at H
                    exact absurd H (by simp)
                · rw [if_neg c18] at H
                  exact absurd H (by simp)
              · rw [if_neg c16] at H
                exact absurd H (by simp)
            · rw [if_neg c15] at H
              exact absurd H (by simp)

/-! ### spec_l92Sum: function 54 -/
def spec_l92Sum.f (k : Nat) (s0_0 : List Int) (s0_1 : Int) : Option (Int × Int) := (spec_l6Rd_pick.f k s0_0 s0_1 20).bind fun bt126 => (if bt126.1 = 0 then ((some (([(-1), 0, 2000, 2001] : List Int) : List Int)).bind fun y128 => ((spec_l6Rd_pick.f k s0_0 bt126.2 4).bind fun bt131 => (if 0 ≤ bt131.1 then (if bt131.1 < (y128.length : Int) then (some (rd y128 bt131.1, bt131.2)) else (none)) else (none)))) else ((spec_l6Rd_pick.f k s0_0 bt126.2 100).bind fun bt134 => ((spec_l6Rd_pick.f k s0_0 bt134.2 6).bind fun bt136 => ((spec_l6Rd_pick.f k s0_0 bt136.2 80).bind fun bt138 => (some (wrap64 (bt134.1 + (wrap64 (bt136.1 * bt138.1))), bt138.2))))))
set_option maxHeartbeats 8000000 in
set_option maxRecDepth 100000 in
theorem spec_l92Sum.calls (k : Nat) (g : Nat) (s0_0 : List Int) (s0_1 : Int) (r1 : Int) (r2 : Int) (w0 w : World) (hI : IsS83 w0 w g s0_0 s0_1) (hB : Below w0.heap.size w0 w) (h : spec_l92Sum.f k s0_0 s0_1 = some (r1, r2)) :
    Calls Tryz.prog 54 #[.pointer (some ⟨g, 0, none⟩)] w fun e w' => e = .returned (.int .i64 r1) ∧ IsS83 w0 w' g s0_0 r2 ∧ Below w0.heap.size w0 w' ∧ KeepBut w w' g none := by
  have HI0 := Aside0.mk hI
  have HK := Aside0.mk (KeepBut.refl w g none)
  have HL := Aside0.mk hB.size
  clear hI
  have HW0 := Aside0.mk hB.size
  have HB := Aside0.mk hB
  clear hB
  have H : ((spec_l6Rd_pick.f k s0_0 s0_1 20).bind fun bt126 => (if bt126.1 = 0 then ((some (([(-1), 0, 2000, 2001] : List Int) : List Int)).bind fun y128 => ((spec_l6Rd_pick.f k s0_0 bt126.2 4).bind fun bt131 => (if 0 ≤ bt131.1 then (if bt131.1 < (y128.length : Int) then (some (rd y128 bt131.1, bt131.2)) else (none)) else (none)))) else ((spec_l6Rd_pick.f k s0_0 bt126.2 100).bind fun bt134 => ((spec_l6Rd_pick.f k s0_0 bt134.2 6).bind fun bt136 => ((spec_l6Rd_pick.f k s0_0 bt136.2 80).bind fun bt138 => (some (wrap64 (bt134.1 + (wrap64 (bt136.1 * bt138.1))), bt138.2))))))) = some (r1, r2) := h
  clear h
  replace H := Option.bind_eq_some_iff.mp H
  obtain ⟨⟨t126, t127⟩, A20, H⟩ := H
  replace H : (if t126 = 0 then ((some (([(-1), 0, 2000, 2001] : List Int) : List Int)).bind fun y128 => ((spec_l6Rd_pick.f k s0_0 t127 4).bind fun bt131 => (if 0 ≤ bt131.1 then (if bt131.1 < (y128.length : Int) then (some (rd y128 bt131.1, bt131.2)) else (none)) else (none)))) else ((spec_l6Rd_pick.f k s0_0 t127 100).bind fun bt134 => ((spec_l6Rd_pick.f k s0_0 bt134.2 6).bind fun bt136 => ((spec_l6Rd_pick.f k s0_0 bt136.2 80).bind fun bt138 => (some (wrap64 (bt134.1 + (wrap64 (bt136.1 * bt138.1))), bt138.2)))))) = some (r1, r2) := H
  have A2 := Aside0.mk A20
  clear A20
  by_cases c3 : t126 = 0
  · rw [if_pos c3] at H
    have c3b0 : (t126 == 0) = true := beq_iff_eq.mpr c3
    have c3b1 : (t126 != 0) = false := bne_eq_false_iff_eq.mpr c3
    clear c3
    obtain ⟨y128, hy128⟩ : ∃ y_ : List Int, y_ = (([(-1), 0, 2000, 2001] : List Int)) := ⟨_, rfl⟩
    replace H : ((spec_l6Rd_pick.f k s0_0 t127 4).bind fun bt131 => (if 0 ≤ bt131.1 then (if bt131.1 < (y128.length : Int) then (some (rd y128 bt131.1, bt131.2)) else (none)) else (none))) = some (r1, r2) := by first | (rw [hy128]; with_reducible exact H) | (have H2_ := (Option.bind_some _ _).symm.trans H; rw [hy128]; with_reducible exact H2_) | (have H2_ := (Option.bind_some _ _).symm.trans H; with_reducible exact H2_) | with_reducible exact H | (rw [hy128]; exact H) | exact H
    have Ny128 := Aside0.mk hy128
    clear hy128
    replace H := Option.bind_eq_some_iff.mp H
    obtain ⟨⟨t131, t132⟩, A40, H⟩ := H
    replace H : (if 0 ≤ t131 then (if t131 < (y128.length : Int) then (some (rd y128 t131, t132)) else (none)) else (none)) = some (r1, r2) := H
    have A4 := Aside0.mk A40
    clear A40
    by_cases c5 : 0 ≤ t131
    · rw [if_pos c5] at H
      have c5b0 : decide (0 ≤ t131) = true := decide_eq_true c5
      clear c5
      by_cases c6 : t131 < (y128.length : Int)
      · rw [if_pos c6] at H
        have c6b0 : decide (t131 < (y128.length : Int)) = true := decide_eq_true c6
        clear c6
        simp only [Option.some.injEq, Prod.mk.injEq] at H
        obtain ⟨rfl, rfl⟩ := H
        go_enter Tryz.func54, Tryz.ntmps54
        go_wp2_with (first | ((with_reducible refine gate_callee (f := 43) rfl ?_); refine goesL_ (some 4) rfl rfl Tryz.func43 (by kernel_rfl) rfl #[.pointer (some ⟨g, 0, none⟩), .int .i64 20] rfl Sqz.auM ?_; (with_reducible refine (spec_l6Rd_pick.calls k g s0_0 s0_1 20 t126 t127 w0 _ ?side1 ?side2 A2.out).mono ?_); (case side1 => repeat (first | (with_reducible first | exact HI0.out | apply IsS83.alloc | apply IsS83.drewN | apply IsS83.drew | apply IsS83.set_1) | exact HI0.out)); (case side2 => repeat (first | (with_reducible first | exact HB.out | apply below_alloc | apply pw_below_drewN | apply below_drew1 | refine below_set ?_ (IsS83.ge HI0.out)) | exact HB.out)); rintro e w7 ⟨rfl, hi, hb, hk⟩; refine ⟨_, rfl, ?_⟩; have n0_ := Aside0.mk (KeepBut.trans (by repeat (first | (with_reducible first | exact HK.out | apply KeepBut.set_ | apply keep_drewN | apply keep_drew | apply keep_alloc) | exact HK.out)) hk (.inl rfl)); have n1_ := Aside0.mk (hb); have n2_ := Aside0.mk (hi); clear HK; clear HB; clear HI0; have HK := n0_; have HB := n1_; have HI0 := n2_; clear n0_ n1_ n2_; (try clear hb); (try clear hb2); (try clear hk); (try clear hi)) | ((with_reducible refine gate_dst (N := 6) rfl ?_); refine Kd.R_lit (Kd.int .i64) _ 3 ?hg (N := 6) ?hd (xs := ([(-1), 0, 2000, 2001] : List Int)) (inner := [.int .i64 (-1), .int .i64 0, .int .i64 2000, .int .i64 2001]) (ok := fun _ => True) (okp := fun _ => True) ?hr ?hp (fun _ hk => hk) trivial (Below.refl _ _) (Nat.le_refl _) (by simp) ?_; (case hd => rfl); (case hg => rfl); (case hr => first | (go_simp; done) | (go_simp; rfl)); (case hp => exact (Reps.one (show Kd.M (Kd.int .i64) _ _ _ (-1) [.int .i64 (-1)] from rfl) (Reps.one (show Kd.M (Kd.int .i64) _ _ _ 0 [.int .i64 0] from rfl) (Reps.one (show Kd.M (Kd.int .i64) _ _ _ 2000 [.int .i64 2000] from rfl) (Reps.one (show Kd.M (Kd.int .i64) _ _ _ 2001 [.int .i64 2001] from rfl) (Reps.none _ _)))))); intro v129 w8 ho9 hb hg_ hnew_; clear hg_ hnew_; (first | rw [← Ny128.out] at ho9 | (simp only [Int.reduceToNat] at ho9; rw [← Ny128.out] at ho9)); have n0_ := Aside0.mk (Kd.R_lower ho9 (keep_size (w := w) (g := g) (row := none) (by repeat (first | (with_reducible first | exact HK.out | apply KeepBut.set_ | apply keep_drewN | apply keep_drew | apply keep_alloc) | exact HK.out)))); have n1_ := Aside0.mk (IsS83.below (by repeat (first | (with_reducible first | exact HI0.out | apply IsS83.alloc | apply IsS83.drewN | apply IsS83.drew | apply IsS83.set_1) | exact HI0.out)) hb); have n2_ := Aside0.mk (KeepBut.trans (by repeat (first | (with_reducible first | exact HK.out | apply KeepBut.set_ | apply keep_drewN | apply keep_drew | apply keep_alloc) | exact HK.out)) (KeepBut.of_below hb g none) (.inl rfl)); have n3_ := Aside0.mk (below_step (by repeat (first | (with_reducible first | exact HB.out | apply below_alloc | apply pw_below_drewN | apply below_drew1 | refine below_set ?_ (IsS83.ge HI0.out)) | exact HB.out)) hb); clear HI0; clear HK; clear HB; have HO130 := n0_; have HI0 := n1_; have HK := n2_; have HB := n3_; clear n0_ n1_ n2_ n3_; clear hb ho9) | ((with_reducible refine gate_callee (f := 43) rfl ?_); refine goesL_ (some 8) rfl rfl Tryz.func43 (by kernel_rfl) rfl #[.pointer (some ⟨g, 0, none⟩), .int .i64 4] rfl Sqz.auM ?_; (with_reducible refine (spec_l6Rd_pick.calls k g s0_0 t127 4 t131 t132 w0 _ ?side1 ?side2 A4.out).mono ?_); (case side1 => repeat (first | (with_reducible first | exact HI0.out | apply IsS83.alloc | apply IsS83.drewN | apply IsS83.drew | apply IsS83.set_1) | exact HI0.out)); (case side2 => repeat (first | (with_reducible first | exact HB.out | apply below_alloc | apply pw_below_drewN | apply below_drew1 | refine below_set ?_ (IsS83.ge HI0.out)) | exact HB.out)); rintro e w10 ⟨rfl, hi, hb, hk⟩; refine ⟨_, rfl, ?_⟩; have n0_ := Aside0.mk (Kd.R_mono (Kd.R_keep (IsS83.apart (show IsS83 w0 _ g s0_0 t127 from by repeat (first | (with_reducible first | exact HI0.out | apply IsS83.alloc | apply IsS83.drewN | apply IsS83.drew | apply IsS83.set_1) | exact HI0.out)) ((Sqz.mvR HO130.out)) (by decide)) hk (fun _ h => h.2)) (fun _ h => h.1)); have n1_ := Aside0.mk (KeepBut.trans (by repeat (first | (with_reducible first | exact HK.out | apply KeepBut.set_ | apply keep_drewN | apply keep_drew | apply keep_alloc) | exact HK.out)) hk (.inl rfl)); have n2_ := Aside0.mk (hb); have n3_ := Aside0.mk (hi); clear HO130; clear HK; clear HB; clear HI0; have HO130 := n0_; have HK := n1_; have HB := n2_; have HI0 := n3_; clear n0_ n1_ n2_ n3_; (try clear hb); (try clear hb2); (try clear hk); (try clear hi); obtain ⟨Ao11, co11, eo11⟩ := Kd.R_slice HO130.out; subst eo11; have p133 : 0 ≤ (t131 : Int) := of_decide_eq_true (by first | (with_reducible assumption) | assumption); have q133 : t131 < (y128.length : Int) := of_decide_eq_true (by first | (with_reducible assumption) | assumption); obtain ⟨ad133, e133, hx133_0⟩ := Kd.at_int (Kd.R_reads' HO130.out).2.2 t131 p133 q133; cases e133; replace p133 := eq_true p133; replace q133 := eq_true q133))
        go_ret
        exact ⟨Sqz.auR, by repeat (first | (with_reducible first | exact HI0.out | apply IsS83.alloc | apply IsS83.drewN | apply IsS83.drew | apply IsS83.set_1) | exact HI0.out), by repeat (first | (with_reducible first | exact HB.out | apply below_alloc | apply pw_below_drewN | apply below_drew1 | refine below_set ?_ (IsS83.ge HI0.out)) | exact HB.out), by repeat (first | (with_reducible first | exact HK.out | apply KeepBut.set_ | apply keep_drewN | apply keep_drew | apply keep_alloc) | exact HK.out)⟩
      · rw [if_neg c6] at H
        exact absurd H (by simp)
    · rw [if_neg c5] at H
      exact absurd H (by simp)
  · rw [if_neg c3] at H
    have c3b0 : (t126 == 0) = false := beq_eq_false_iff_ne.mpr c3
    have c3b1 : (t126 != 0) = true := bne_iff_ne.mpr c3
    replace H := Option.bind_eq_some_iff.mp H
    obtain ⟨⟨t134, t135⟩, A120, H⟩ := H
    replace H : ((spec_l6Rd_pick.f k s0_0 t135 6).bind fun bt136 => ((spec_l6Rd_pick.f k s0_0 bt136.2 80).bind fun bt138 => (some (wrap64 (t134 + (wrap64 (bt136.1 * bt138.1))), bt138.2)))) = some (r1, r2) := H
    have A12 := Aside0.mk A120
    clear A120
    replace H := Option.bind_eq_some_iff.mp H
    obtain ⟨⟨t136, t137⟩, A130, H⟩ := H
    replace H : ((spec_l6Rd_pick.f k s0_0 t137 80).bind fun bt138 => (some (wrap64 (t134 + (wrap64 (t136 * bt138.1))), bt138.2))) = some (r1, r2) := H
    have A13 := Aside0.mk A130
    clear A130
    replace H := Option.bind_eq_some_iff.mp H
    obtain ⟨⟨t138, t139⟩, A140, H⟩ := H
    replace H : (some (wrap64 (t134 + (wrap64 (t136 * t138))), t139)) = some (r1, r2) := H
    have A14 := Aside0.mk A140
    clear A140
    simp only [Option.some.injEq, Prod.mk.injEq] at H
    obtain ⟨rfl, rfl⟩ := H
    go_enter Tryz.func54, Tryz.ntmps54
    go_wp2_with (first | ((with_reducible refine gate_callee (f := 43) rfl ?_); refine goesL_ (some 4) rfl rfl Tryz.func43 (by kernel_rfl) rfl #[.pointer (some ⟨g, 0, none⟩), .int .i64 20] rfl Sqz.auM ?_; (with_reducible refine (spec_l6Rd_pick.calls k g s0_0 s0_1 20 t126 t127 w0 _ ?side1 ?side2 A2.out).mono ?_); (case side1 => repeat (first | (with_reducible first | exact HI0.out | apply IsS83.alloc | apply IsS83.drewN | apply IsS83.drew | apply IsS83.set_1) | exact HI0.out)); (case side2 => repeat (first | (with_reducible first | exact HB.out | apply below_alloc | apply pw_below_drewN | apply below_drew1 | refine below_set ?_ (IsS83.ge HI0.out)) | exact HB.out)); rintro e w15 ⟨rfl, hi, hb, hk⟩; refine ⟨_, rfl, ?_⟩; have n0_ := Aside0.mk (KeepBut.trans (by repeat (first | (with_reducible first | exact HK.out | apply KeepBut.set_ | apply keep_drewN | apply keep_drew | apply keep_alloc) | exact HK.out)) hk (.inl rfl)); have n1_ := Aside0.mk (hb); have n2_ := Aside0.mk (hi); clear HK; clear HB; clear HI0; have HK := n0_; have HB := n1_; have HI0 := n2_; clear n0_ n1_ n2_; (try clear hb); (try clear hb2); (try clear hk); (try clear hi)) | ((with_reducible refine gate_callee (f := 43) rfl ?_); refine goesL_ (some 12) rfl rfl Tryz.func43 (by kernel_rfl) rfl #[.pointer (some ⟨g, 0, none⟩), .int .i64 100] rfl Sqz.auM ?_; (with_reducible refine (spec_l6Rd_pick.calls k g s0_0 t127 100 t134 t135 w0 _ ?side1 ?side2 A12.out).mono ?_); (case side1 => repeat (first | (with_reducible first | exact HI0.out | apply IsS83.alloc | apply IsS83.drewN | apply IsS83.drew | apply IsS83.set_1) | exact HI0.out)); (case side2 => repeat (first | (with_reducible first | exact HB.out | apply below_alloc | apply pw_below_drewN | apply below_drew1 | refine below_set ?_ (IsS83.ge HI0.out)) | exact HB.out)); rintro e w16 ⟨rfl, hi, hb, hk⟩; refine ⟨_, rfl, ?_⟩; have n0_ := Aside0.mk (KeepBut.trans (by repeat (first | (with_reducible first | exact HK.out | apply KeepBut.set_ | apply keep_drewN | apply keep_drew | apply keep_alloc) | exact HK.out)) hk (.inl rfl)); have n1_ := Aside0.mk (hb); have n2_ := Aside0.mk (hi); clear HK; clear HB; clear HI0; have HK := n0_; have HB := n1_; have HI0 := n2_; clear n0_ n1_ n2_; (try clear hb); (try clear hb2); (try clear hk); (try clear hi)) | ((with_reducible refine gate_callee (f := 43) rfl ?_); refine goesL_ (some 14) rfl rfl Tryz.func43 (by kernel_rfl) rfl #[.pointer (some ⟨g, 0, none⟩), .int .i64 6] rfl Sqz.auM ?_; (with_reducible refine (spec_l6Rd_pick.calls k g s0_0 t135 6 t136 t137 w0 _ ?side1 ?side2 A13.out).mono ?_); (case side1 => repeat (first | (with_reducible first | exact HI0.out | apply IsS83.alloc | apply IsS83.drewN | apply IsS83.drew | apply IsS83.set_1) | exact HI0.out)); (case side2 => repeat (first | (with_reducible first | exact HB.out | apply below_alloc | apply pw_below_drewN | apply below_drew1 | refine below_set ?_ (IsS83.ge HI0.out)) | exact HB.out)); rintro e w17 ⟨rfl, hi, hb, hk⟩; refine ⟨_, rfl, ?_⟩; have n0_ := Aside0.mk (KeepBut.trans (by repeat (first | (with_reducible first | exact HK.out | apply KeepBut.set_ | apply keep_drewN | apply keep_drew | apply keep_alloc) | exact HK.out)) hk (.inl rfl)); have n1_ := Aside0.mk (hb); have n2_ := Aside0.mk (hi); clear HK; clear HB; clear HI0; have HK := n0_; have HB := n1_; have HI0 := n2_; clear n0_ n1_ n2_; (try clear hb); (try clear hb2); (try clear hk); (try clear hi)) | ((with_reducible refine gate_callee (f := 43) rfl ?_); refine goesL_ (some 16) rfl rfl Tryz.func43 (by kernel_rfl) rfl #[.pointer (some ⟨g, 0, none⟩), .int .i64 80] rfl Sqz.auM ?_; (with_reducible refine (spec_l6Rd_pick.calls k g s0_0 t137 80 t138 t139 w0 _ ?side1 ?side2 A14.out).mono ?_); (case side1 => repeat (first | (with_reducible first | exact HI0.out | apply IsS83.alloc | apply IsS83.drewN | apply IsS83.drew | apply IsS83.set_1) | exact HI0.out)); (case side2 => repeat (first | (with_reducible first | exact HB.out | apply below_alloc | apply pw_below_drewN | apply below_drew1 | refine below_set ?_ (IsS83.ge HI0.out)) | exact HB.out)); rintro e w18 ⟨rfl, hi, hb, hk⟩; refine ⟨_, rfl, ?_⟩; have n0_ := Aside0.mk (KeepBut.trans (by repeat (first | (with_reducible first | exact HK.out | apply KeepBut.set_ | apply keep_drewN | apply keep_drew | apply keep_alloc) | exact HK.out)) hk (.inl rfl)); have n1_ := Aside0.mk (hb); have n2_ := Aside0.mk (hi); clear HK; clear HB; clear HI0; have HK := n0_; have HB := n1_; have HI0 := n2_; clear n0_ n1_ n2_; (try clear hb); (try clear hb2); (try clear hk); (try clear hi)))
    go_ret
    exact ⟨Sqz.auR, by repeat (first | (with_reducible first | exact HI0.out | apply IsS83.alloc | apply IsS83.drewN | apply IsS83.drew | apply IsS83.set_1) | exact HI0.out), by repeat (first | (with_reducible first | exact HB.out | apply below_alloc | apply pw_below_drewN | apply below_drew1 | refine below_set ?_ (IsS83.ge HI0.out)) | exact HB.out), by repeat (first | (with_reducible first | exact HK.out | apply KeepBut.set_ | apply keep_drewN | apply keep_drew | apply keep_alloc) | exact HK.out)⟩

/-! ### spec_DrawFourFind: function 18 -/
def spec_DrawFourFind.f (k : Nat) (l0 : List Int) : Option (Int) := (spec_l6Open.f l0).bind fun bt140 => ((spec_l92Sum.f k bt140.1 bt140.2).bind fun bt143 => (some bt143.1))
set_option maxHeartbeats 8000000 in
set_option maxRecDepth 100000 in
theorem spec_DrawFourFind.calls (k : Nat) (A0 : Option Addr) (c0 : Nat) (l0 : List Int) (r : Int) (w : World) (hr0 : Kd.C (Kd.int .u8) w A0 l0.length l0) (hc0 : l0.length ≤ c0) (h : spec_DrawFourFind.f k l0 = some r) :
    Calls Tryz.prog 18 #[.slice A0 l0.length c0] w fun e w' => e = .returned (.int .i64 r) ∧ Below w.heap.size w w' := by
  have HR0 := Aside0.mk hr0
  have HC0 := Aside0.mk hc0
  clear hr0 hc0
  have HB := Aside0.mk (Below.refl w.heap.size w)
  have H : ((spec_l6Open.f l0).bind fun bt140 => ((spec_l92Sum.f k bt140.1 bt140.2).bind fun bt143 => (some bt143.1))) = some r := h
  clear h
  replace H := Option.bind_eq_some_iff.mp H
  obtain ⟨⟨t140, t141⟩, A20, H⟩ := H
  replace H : ((spec_l92Sum.f k t140 t141).bind fun bt143 => (some bt143.1)) = some r := H
  have A2 := Aside0.mk A20
  clear A20
  replace H := Option.bind_eq_some_iff.mp H
  obtain ⟨⟨t143, t144⟩, A30, H⟩ := H
  replace H : (some t143) = some r := H
  have A3 := Aside0.mk A30
  clear A30
  obtain rfl := Option.some.inj H
  go_enter Tryz.func18, Tryz.ntmps18
  go_wp2_with (first | ((with_reducible refine gate_callee (f := 42) rfl ?_); refine goesL_ (some 4) rfl rfl Tryz.func42 (by kernel_rfl) rfl #[.slice A0 l0.length c0] rfl Sqz.auM ?_; (with_reducible refine (spec_l6Open.calls _ _ l0 t140 t141 w _ ?side1 ?side2 ?side3 A2.out).mono ?_); (case side1 => repeat (first | (with_reducible first | exact HB.out | apply below_alloc | apply pw_below_drewN | apply below_drew1) | exact HB.out)); (case side2 => exact HR0.out); (case side3 => exact HC0.out); rintro e w4 ⟨g142, rfl, hi, hb, hb2⟩; refine ⟨_, rfl, ?_⟩; have n0_ := Aside0.mk (hb); have n1_ := Aside0.mk (hi); clear HB; have HB := n0_; have HI142 := n1_; clear n0_ n1_; (try clear hb); (try clear hb2); (try clear hk); (try clear hi)) | ((with_reducible refine gate_callee (f := 54) rfl ?_); refine goesL_ (some 5) rfl rfl Tryz.func54 (by kernel_rfl) rfl #[.pointer (some ⟨g142, 0, none⟩)] rfl Sqz.auM ?_; (with_reducible refine (spec_l92Sum.calls k g142 t140 t141 t143 t144 w _ ?side1 ?side2 A3.out).mono ?_); (case side1 => repeat (first | (with_reducible first | exact HI142.out | apply IsS83.alloc | apply IsS83.drewN | apply IsS83.drew | apply IsS83.set_1) | exact HI142.out)); (case side2 => repeat (first | (with_reducible first | exact HB.out | apply below_alloc | apply pw_below_drewN | apply below_drew1 | refine below_set ?_ (IsS83.ge HI142.out)) | exact HB.out)); rintro e w5 ⟨rfl, hi, hb, hk⟩; refine ⟨_, rfl, ?_⟩; have n0_ := Aside0.mk (hb); have n1_ := Aside0.mk (hi); clear HB; clear HI142; have HB := n0_; have HI142 := n1_; clear n0_ n1_; (try clear hb); (try clear hb2); (try clear hk); (try clear hi)))
  go_ret
  exact ⟨Sqz.auR, by repeat (first | (with_reducible first | exact HB.out | apply below_alloc | apply pw_below_drewN | apply below_drew1 | refine below_set ?_ (IsS83.ge HI142.out)) | exact HB.out)⟩

/-! ### spec_l6In: function 111 -/
def spec_l6In.f (a0 : Int) (a1 : Int) (a2 : Int) : Option (Bool) := if a0 ≥ a1 then (some (decide (a0 ≤ a2))) else (some false)
set_option maxHeartbeats 8000000 in
set_option maxRecDepth 100000 in
theorem spec_l6In.calls (a0 : Int) (a1 : Int) (a2 : Int) (r : Bool) (w : World) (h : spec_l6In.f a0 a1 a2 = some r) :
    Calls Tryz.prog 111 #[.int .i64 a0, .int .i64 a1, .int .i64 a2] w fun e w' => e = .returned (.bool r) ∧ Drawn0 w w' := by
  have H : (if a0 ≥ a1 then (some (decide (a0 ≤ a2))) else (some false)) = some r := h
  clear h
  by_cases c4 : a0 ≥ a1
  · rw [if_pos c4] at H
    have c4b0 : decide (a1 ≤ a0) = true := decide_eq_true c4
    clear c4
    obtain rfl := Option.some.inj H
    go_enter Tryz.func111, Tryz.ntmps111
    go_wp2
    go_ret
    exact ⟨Sqz.auS, by repeat (first | exact Drawn0.refl _ | apply Drawn0.step)⟩
  · rw [if_neg c4] at H
    have c4b0 : decide (a1 ≤ a0) = false := decide_eq_false c4
    clear c4
    obtain rfl := Option.some.inj H
    go_enter Tryz.func111, Tryz.ntmps111
    go_wp2
    go_ret
    exact ⟨Sqz.auS, by repeat (first | exact Drawn0.refl _ | apply Drawn0.step)⟩

/-! ### spec_l8Sum: function 56 -/
def spec_l8Sum.f (a0 : Int) (a1 : Int) : Option (Bool) := (spec_l6In.f a0 a1 2000).bind fun t145 => (some t145)
set_option maxHeartbeats 8000000 in
set_option maxRecDepth 100000 in
theorem spec_l8Sum.calls (a0 : Int) (a1 : Int) (r : Bool) (w : World) (h : spec_l8Sum.f a0 a1 = some r) :
    Calls Tryz.prog 56 #[.int .i64 a0, .int .i64 a1] w fun e w' => e = .returned (.bool r) ∧ Drawn0 w w' := by
  have H : ((spec_l6In.f a0 a1 2000).bind fun t145 => (some t145)) = some r := h
  clear h
  replace H := Option.bind_eq_some_iff.mp H
  obtain ⟨t145, A30, H⟩ := H
  replace H : (some t145) = some r := H
  have A3 := Aside0.mk A30
  clear A30
  obtain rfl := Option.some.inj H
  go_enter Tryz.func56, Tryz.ntmps56
  go_wp2_with (first | ((with_reducible refine gate_callee (f := 111) rfl ?_); refine goesL_ (some 7) rfl rfl Tryz.func111 (by kernel_rfl) rfl #[.int .i64 a0, .int .i64 a1, .int .i64 2000] rfl Sqz.auM ?_; (with_reducible refine (spec_l6In.calls a0 a1 2000 t145 _ A3.out).mono ?_); rintro e w' ⟨rfl, ⟨nd, rfl⟩⟩; refine ⟨_, rfl, ?_⟩))
  go_ret
  exact ⟨Sqz.auS, by repeat (first | exact Drawn0.refl _ | apply Drawn0.step)⟩

/-! ### spec_l5Root: function 57 -/
def spec_l5Root.l0 : Nat → Int → Int → Int → Option (Int)
  | 0, _, _, _ => none
  | k + 1, x0, x3, x4 => if x3 < x4 then (if (wrap64 ((wrap64 (Int.tdiv (wrap64 (x3 + x4)) 2)) * (wrap64 (Int.tdiv (wrap64 (x3 + x4)) 2)))) < x0 then (spec_l5Root.l0 k x0 (wrap64 ((wrap64 (Int.tdiv (wrap64 (x3 + x4)) 2)) + 1)) x4) else (spec_l5Root.l0 k x0 x3 (wrap64 (Int.tdiv (wrap64 (x3 + x4)) 2)))) else (if (wrap64 (x3 * x3)) = x0 then (some x3) else (some (-1)))
def spec_l5Root.f (k : Nat) (a0 : Int) : Option (Int) := spec_l5Root.l0 k a0 0 1048576
set_option maxHeartbeats 8000000 in
set_option maxRecDepth 100000 in
theorem spec_l5Root.calls (k : Nat) (a0 : Int) (r : Int) (w : World) (h : spec_l5Root.f k a0 = some r) :
    Calls Tryz.prog 57 #[.int .i64 a0] w fun e w' => e = .returned (.int .i64 r) ∧ Drawn0 w w' := by
  have H : (spec_l5Root.l0 k a0 0 1048576) = some r := h
  clear h
  have H' := Aside0.mk H
  clear H
  go_enter Tryz.func57, Tryz.ntmps57
  go_wp2
  go_loopg [3, 4] k (fun kq v3 v4 w' => ∃ (x3_1 : Int) (x4_1 : Int), v3 = .int .i64 x3_1 ∧ v4 = .int .i64 x4_1 ∧ Aside0 (spec_l5Root.l0 kq a0 x3_1 x4_1 = some r) ∧ Aside0 (kq ≤ k) ∧ Drawn0 w w')
  case atStart => exact ⟨(0), (1048576), Sqz.auS, Sqz.auS, H', ⟨Nat.le_refl _⟩, by repeat (first | exact Drawn0.refl _ | apply Drawn0.step)⟩
  case round =>
    clear H'
    obtain ⟨x3_1, x4_1, rfl, rfl, HA, HK1, ⟨m1, rfl⟩⟩ := hrel
    cases gk with
    | zero => exact absurd HA.out (by simp [spec_l5Root.l0])
    | succ k1 =>
      have H := HA.out
      clear HA
      simp only [spec_l5Root.l0] at H
      by_cases c2 : x3_1 < x4_1
      · rw [if_pos c2] at H
        have c2b0 : decide (x3_1 < x4_1) = true := decide_eq_true c2
        clear c2
        by_cases c3 : (wrap64 ((wrap64 (Int.tdiv (wrap64 (x3_1 + x4_1)) 2)) * (wrap64 (Int.tdiv (wrap64 (x3_1 + x4_1)) 2)))) < a0
        · rw [if_pos c3] at H
          have c3b0 : decide ((wrap64 ((wrap64 (Int.tdiv (wrap64 (x3_1 + x4_1)) 2)) * (wrap64 (Int.tdiv (wrap64 (x3_1 + x4_1)) 2)))) < a0) = true := decide_eq_true c3
          clear c3
          have H' := Aside0.mk H
          clear H
          go_wp2
          go_roundg k1
          case measure => have := HK1.out; omega
          case rel => exact ⟨(wrap64 ((wrap64 (Int.tdiv (wrap64 (x3_1 + x4_1)) 2)) + 1)), (x4_1), Sqz.auS, Sqz.auS, H', ⟨by have := HK1.out; omega⟩, by repeat (first | exact Drawn0.refl _ | apply Drawn0.step)⟩
        · rw [if_neg c3] at H
          have c3b0 : decide ((wrap64 ((wrap64 (Int.tdiv (wrap64 (x3_1 + x4_1)) 2)) * (wrap64 (Int.tdiv (wrap64 (x3_1 + x4_1)) 2)))) < a0) = false := decide_eq_false c3
          clear c3
          have H' := Aside0.mk H
          clear H
          go_wp2
          go_roundg k1
          case measure => have := HK1.out; omega
          case rel => exact ⟨(x3_1), (wrap64 (Int.tdiv (wrap64 (x3_1 + x4_1)) 2)), Sqz.auS, Sqz.auS, H', ⟨by have := HK1.out; omega⟩, by repeat (first | exact Drawn0.refl _ | apply Drawn0.step)⟩
      · rw [if_neg c2] at H
        have c2b0 : decide (x3_1 < x4_1) = false := decide_eq_false c2
        clear c2
        by_cases c4 : (wrap64 (x3_1 * x3_1)) = a0
        · rw [if_pos c4] at H
          have c4b0 : ((wrap64 (x3_1 * x3_1)) == a0) = true := beq_iff_eq.mpr c4
          have c4b1 : ((wrap64 (x3_1 * x3_1)) != a0) = false := bne_eq_false_iff_eq.mpr c4
          clear c4
          obtain rfl := Option.some.inj H
          go_wp2
          go_ret
          exact ⟨Sqz.auS, by repeat (first | exact Drawn0.refl _ | apply Drawn0.step)⟩
        · rw [if_neg c4] at H
          have c4b0 : ((wrap64 (x3_1 * x3_1)) == a0) = false := beq_eq_false_iff_ne.mpr c4
          have c4b1 : ((wrap64 (x3_1 * x3_1)) != a0) = true := bne_iff_ne.mpr c4
          obtain rfl := Option.some.inj H
          go_wp2
          go_ret
          exact ⟨Sqz.auS, by repeat (first | exact Drawn0.refl _ | apply Drawn0.step)⟩

/-! ### spec_FourFind: function 20 -/
mutual
def spec_FourFind.l0 : Nat → Int → Int → Option (List Int × Bool)
  | 0, _, _ => none
  | k + 1, x0, x4 => if (wrap64 ((wrap64 (4 * x4)) * x4)) ≤ x0 then ((spec_l8Sum.f x0 0).bind fun t146 => (spec_FourFind.j1 k x0 x4 t146)) else (spec_FourFind.j1 k x0 x4 false)
def spec_FourFind.j1 : Nat → Int → Int → Bool → Option (List Int × Bool)
  | 0, _, _, _ => none
  | k + 1, x0, x4, x17 => if x17 = true then (spec_FourFind.l1 k x0 x4 x4) else (some ((([] : List Int)), false))
def spec_FourFind.l1 : Nat → Int → Int → Int → Option (List Int × Bool)
  | 0, _, _, _ => none
  | k + 1, x0, x4, x5 => if (wrap64 ((wrap64 (3 * x5)) * x5)) ≤ (wrap64 (x0 - (wrap64 (x4 * x4)))) then (spec_FourFind.l2 k x0 x4 x5 x5) else (spec_FourFind.l0 k x0 (wrap64 (x4 + 1)))
def spec_FourFind.l2 : Nat → Int → Int → Int → Int → Option (List Int × Bool)
  | 0, _, _, _, _ => none
  | k + 1, x0, x4, x5, x6 => if (wrap64 ((wrap64 (2 * x6)) * x6)) ≤ (wrap64 ((wrap64 (x0 - (wrap64 (x4 * x4)))) - (wrap64 (x5 * x5)))) then ((spec_l5Root.f k (wrap64 ((wrap64 ((wrap64 (x0 - (wrap64 (x4 * x4)))) - (wrap64 (x5 * x5)))) - (wrap64 (x6 * x6))))).bind fun t150 => (if t150 ≥ 0 then (some ((([x4, x5, x6, t150] : List Int)), true)) else (spec_FourFind.l2 k x0 x4 x5 (wrap64 (x6 + 1))))) else (spec_FourFind.l1 k x0 x4 (wrap64 (x5 + 1)))
end
def spec_FourFind.f (k : Nat) (a0 : Int) : Option (List Int × Bool) := spec_FourFind.l0 k a0 0
set_option maxHeartbeats 8000000 in
set_option maxRecDepth 100000 in
theorem spec_FourFind.calls (k : Nat) (a0 : Int) (r1 : List Int) (r2 : Bool) (w : World) (h : spec_FourFind.f k a0 = some (r1, r2)) :
    Calls Tryz.prog 20 #[.int .i64 a0] w fun e w' => ∃ v0_ : Value, e = .returned (.tuple #[v0_, .bool r2]) ∧ Kd.R (Kd.int .i64) 3 w' w.heap.size (fun _ => True) v0_ r1 ∧ Below w.heap.size w w' := by
  have HB := Aside0.mk (Below.refl w.heap.size w)
  have H : (spec_FourFind.l0 k a0 0) = some (r1, r2) := h
  clear h
  have H' := Aside0.mk H
  clear H
  go_enter Tryz.func20, Tryz.ntmps20
  go_wp2
  go_loopg [4] k (fun kq v4 w' => ∃ (x4_1 : Int), v4 = .int .i64 x4_1 ∧ Aside0 (spec_FourFind.l0 kq a0 x4_1 = some (r1, r2)) ∧ Aside0 (kq ≤ k) ∧ Aside0 (Below w.heap.size w w'))
  case atStart => exact ⟨(0), Sqz.auS, H', ⟨Nat.le_refl _⟩, ⟨Sqz.auHB⟩⟩
  case round =>
    clear H'
    obtain ⟨x4_1, rfl, HA, HK1, HB⟩ := hrel
    cases gk with
    | zero => exact absurd HA.out (by simp [spec_FourFind.l0])
    | succ k1 =>
      have H := HA.out
      clear HA
      simp only [spec_FourFind.l0] at H
      have HC2 := Aside0.mk H
      clear H
      go_upto_region 2 with (fail)
      go_cut [17] (fun v17 wc => ∃ (kq : Nat) (x17_1 : Bool), v17 = .bool x17_1 ∧ Aside0 (spec_FourFind.j1 kq a0 x4_1 x17_1 = some (r1, r2)) ∧ Aside0 (kq ≤ k1) ∧ Aside0 (Below w.heap.size w wc))
      case first =>
        have H := HC2.out
        clear HC2
        by_cases c3 : (wrap64 ((wrap64 (4 * x4_1)) * x4_1)) ≤ a0
        · rw [if_pos c3] at H
          have c3b0 : decide ((wrap64 ((wrap64 (4 * x4_1)) * x4_1)) ≤ a0) = true := decide_eq_true c3
          clear c3
          (first | rw [c3b0] | (simp only [i64_w, i32_w]; rw [c3b0]) | skip)
          replace H := Option.bind_eq_some_iff.mp H
          obtain ⟨t146, A40, H⟩ := H
          replace H : (spec_FourFind.j1 k1 a0 x4_1 t146) = some (r1, r2) := H
          have A4 := Aside0.mk A40
          clear A40
          have H' := Aside0.mk H
          clear H
          go_wp2_with (first | (go_at_call 56; (with_reducible refine (spec_l8Sum.calls a0 0 t146 _ A4.out).mono ?_); rintro e w' ⟨rfl, ⟨nd, rfl⟩⟩))
          go_meet
          case rel => exact ⟨_, (t146), Sqz.auS, H', ⟨by have := HK1.out; first | omega | exact Nat.le_refl _⟩, ⟨Sqz.auHB⟩⟩
        · rw [if_neg c3] at H
          have c3b0 : decide ((wrap64 ((wrap64 (4 * x4_1)) * x4_1)) ≤ a0) = false := decide_eq_false c3
          clear c3
          (first | rw [c3b0] | (simp only [i64_w, i32_w]; rw [c3b0]) | skip)
          have H' := Aside0.mk H
          clear H
          go_wp2
          go_meet
          case rel => exact ⟨_, (false), Sqz.auS, H', ⟨by have := HK1.out; first | omega | exact Nat.le_refl _⟩, ⟨Sqz.auHB⟩⟩
      case rest =>
        clear HC2
        try clear c2
        try clear p2
        try clear c3
        try clear c3b0
        obtain ⟨kq, x17_1, rfl, HA, HJ1, HB⟩ := hcut
        cases kq with
        | zero => exact absurd HA.out (by simp [spec_FourFind.j1])
        | succ kj1 =>
          have H := HA.out
          clear HA
          simp only [spec_FourFind.j1] at H
          by_cases c5 : x17_1 = true
          · subst c5
            have H1 : (spec_FourFind.l1 kj1 a0 x4_1 x4_1) = some (r1, r2) := by rw [if_pos rfl] at H; exact H
            clear H
            have H := H1
            clear H1
            have H' := Aside0.mk H
            clear H
            go_wp2
            go_loopg [5] kj1 (fun kq v5 w' => ∃ (x5_3 : Int), v5 = .int .i64 x5_3 ∧ Aside0 (spec_FourFind.l1 kq a0 x4_1 x5_3 = some (r1, r2)) ∧ Aside0 (kq ≤ kj1) ∧ Aside0 (Below w.heap.size w w'))
            case atStart => exact ⟨(x4_1), Sqz.auS, H', ⟨Nat.le_refl _⟩, ⟨Sqz.auHB⟩⟩
            case round =>
              clear H'
              try clear c2
              try clear p2
              try clear c3
              try clear c3b0
              try clear c5
              try clear p2
              obtain ⟨x5_3, rfl, HA, HK3, HB⟩ := hrel
              cases gk with
              | zero => exact absurd HA.out (by simp [spec_FourFind.l1])
              | succ k3 =>
                have H := HA.out
                clear HA
                simp only [spec_FourFind.l1] at H
                by_cases c6 : (wrap64 ((wrap64 (3 * x5_3)) * x5_3)) ≤ (wrap64 (a0 - (wrap64 (x4_1 * x4_1))))
                · rw [if_pos c6] at H
                  have c6b0 : decide ((wrap64 ((wrap64 (3 * x5_3)) * x5_3)) ≤ (wrap64 (a0 - (wrap64 (x4_1 * x4_1))))) = true := decide_eq_true c6
                  clear c6
                  have H' := Aside0.mk H
                  clear H
                  go_wp2
                  go_loopg [6] k3 (fun kq v6 w' => ∃ (x6_4 : Int), v6 = .int .i64 x6_4 ∧ Aside0 (spec_FourFind.l2 kq a0 x4_1 x5_3 x6_4 = some (r1, r2)) ∧ Aside0 (kq ≤ k3) ∧ Aside0 (Below w.heap.size w w'))
                  case atStart => exact ⟨(x5_3), Sqz.auS, H', ⟨Nat.le_refl _⟩, ⟨Sqz.auHB⟩⟩
                  case round =>
                    clear H'
                    try clear c2
                    try clear p2
                    try clear c3
                    try clear c3b0
                    try clear c5
                    try clear c6
                    try clear c6b0
                    try clear p6
                    try clear p2
                    obtain ⟨x6_4, rfl, HA, HK4, HB⟩ := hrel
                    cases gk with
                    | zero => exact absurd HA.out (by simp [spec_FourFind.l2])
                    | succ k4 =>
                      have H := HA.out
                      clear HA
                      simp only [spec_FourFind.l2] at H
                      by_cases c7 : (wrap64 ((wrap64 (2 * x6_4)) * x6_4)) ≤ (wrap64 ((wrap64 (a0 - (wrap64 (x4_1 * x4_1)))) - (wrap64 (x5_3 * x5_3))))
                      · rw [if_pos c7] at H
                        have c7b0 : decide ((wrap64 ((wrap64 (2 * x6_4)) * x6_4)) ≤ (wrap64 ((wrap64 (a0 - (wrap64 (x4_1 * x4_1)))) - (wrap64 (x5_3 * x5_3))))) = true := decide_eq_true c7
                        clear c7
                        replace H := Option.bind_eq_some_iff.mp H
                        obtain ⟨t150, A80, H⟩ := H
                        replace H : (if t150 ≥ 0 then (some ((([x4_1, x5_3, x6_4, t150] : List Int)), true)) else (spec_FourFind.l2 k4 a0 x4_1 x5_3 (wrap64 (x6_4 + 1)))) = some (r1, r2) := H
                        have A8 := Aside0.mk A80
                        clear A80
                        by_cases c9 : t150 ≥ 0
                        · rw [if_pos c9] at H
                          have c9b0 : decide (0 ≤ t150) = true := decide_eq_true c9
                          clear c9
                          obtain ⟨y151, hy151⟩ : ∃ y_ : List Int, y_ = (([x4_1, x5_3, x6_4, t150] : List Int)) := ⟨_, rfl⟩
                          replace H : (some (y151, true)) = some (r1, r2) := by first | (rw [hy151]; with_reducible exact H) | (have H2_ := (Option.bind_some _ _).symm.trans H; rw [hy151]; with_reducible exact H2_) | (have H2_ := (Option.bind_some _ _).symm.trans H; with_reducible exact H2_) | with_reducible exact H | (rw [hy151]; exact H) | exact H
                          have Ny151 := Aside0.mk hy151
                          clear hy151
                          simp only [Option.some.injEq, Prod.mk.injEq] at H
                          obtain ⟨rfl, rfl⟩ := H
                          go_wp2_with (first | ((with_reducible refine gate_callee (f := 57) rfl ?_); refine goesL_ (some 63) rfl rfl Tryz.func57 (by kernel_rfl) rfl #[.int .i64 (wrap64 ((wrap64 ((wrap64 (a0 - (wrap64 (x4_1 * x4_1)))) - (wrap64 (x5_3 * x5_3)))) - (wrap64 (x6_4 * x6_4))))] rfl Sqz.auM ?_; (with_reducible refine (spec_l5Root.calls k4 (wrap64 ((wrap64 ((wrap64 (a0 - (wrap64 (x4_1 * x4_1)))) - (wrap64 (x5_3 * x5_3)))) - (wrap64 (x6_4 * x6_4)))) t150 _ A8.out).mono ?_); rintro e w' ⟨rfl, ⟨nd, rfl⟩⟩; refine ⟨_, rfl, ?_⟩) | ((with_reducible refine gate_dst (N := 70) rfl ?_); refine Kd.R_lit (Kd.int .i64) _ 3 ?hg (N := 70) ?hd (xs := ([x4_1, x5_3, x6_4, t150] : List Int)) (inner := [.int .i64 x4_1, .int .i64 x5_3, .int .i64 x6_4, .int .i64 t150]) (ok := fun _ => True) (okp := fun _ => True) ?hr ?hp (fun _ hk => hk) trivial (Below.refl _ _) (Nat.le_refl _) (by simp) ?_; (case hd => rfl); (case hg => rfl); (case hr => first | (go_simp; done) | (go_simp; rfl)); (case hp => exact (Reps.one (show Kd.M (Kd.int .i64) _ _ _ x4_1 [.int .i64 x4_1] from rfl) (Reps.one (show Kd.M (Kd.int .i64) _ _ _ x5_3 [.int .i64 x5_3] from rfl) (Reps.one (show Kd.M (Kd.int .i64) _ _ _ x6_4 [.int .i64 x6_4] from rfl) (Reps.one (show Kd.M (Kd.int .i64) _ _ _ t150 [.int .i64 t150] from rfl) (Reps.none _ _)))))); intro v152 w10 ho11 hb hg_ hnew_; clear hg_ hnew_; (first | rw [← Ny151.out] at ho11 | (simp only [Int.reduceToNat] at ho11; rw [← Ny151.out] at ho11)); have n0_ := Aside0.mk (Kd.R_lower ho11 (below_size (Sqz.auHB))); have n1_ := Aside0.mk (below_step (Sqz.auHB) hb); clear HB; have HO153 := n0_; have HB := n1_; clear n0_ n1_; clear hb ho11))
                          go_ret2
                          exact ⟨_, Sqz.auR, (Sqz.mvR HO153.out), Sqz.auHB⟩
                        · rw [if_neg c9] at H
                          have c9b0 : decide (0 ≤ t150) = false := decide_eq_false c9
                          clear c9
                          have H' := Aside0.mk H
                          clear H
                          go_wp2_with (first | ((with_reducible refine gate_callee (f := 57) rfl ?_); refine goesL_ (some 63) rfl rfl Tryz.func57 (by kernel_rfl) rfl #[.int .i64 (wrap64 ((wrap64 ((wrap64 (a0 - (wrap64 (x4_1 * x4_1)))) - (wrap64 (x5_3 * x5_3)))) - (wrap64 (x6_4 * x6_4))))] rfl Sqz.auM ?_; (with_reducible refine (spec_l5Root.calls k4 (wrap64 ((wrap64 ((wrap64 (a0 - (wrap64 (x4_1 * x4_1)))) - (wrap64 (x5_3 * x5_3)))) - (wrap64 (x6_4 * x6_4)))) t150 _ A8.out).mono ?_); rintro e w' ⟨rfl, ⟨nd, rfl⟩⟩; refine ⟨_, rfl, ?_⟩))
                          go_roundg k4
                          case measure => have := HK1.out; have := HJ1.out; have := HK3.out; have := HK4.out; omega
                          case rel => exact ⟨(wrap64 (x6_4 + 1)), Sqz.auS, H', ⟨by have := HK1.out; have := HJ1.out; have := HK3.out; have := HK4.out; omega⟩, ⟨Sqz.auHB⟩⟩
                      · rw [if_neg c7] at H
                        have c7b0 : decide ((wrap64 ((wrap64 (2 * x6_4)) * x6_4)) ≤ (wrap64 ((wrap64 (a0 - (wrap64 (x4_1 * x4_1)))) - (wrap64 (x5_3 * x5_3))))) = false := decide_eq_false c7
                        clear c7
                        have H' := Aside0.mk H
                        clear H
                        go_wp2
                        go_roundg k4
                        case measure => have := HK1.out; have := HJ1.out; have := HK3.out; have := HK4.out; omega
                        case rel => exact ⟨(wrap64 (x5_3 + 1)), Sqz.auS, H', ⟨by have := HK1.out; have := HJ1.out; have := HK3.out; have := HK4.out; omega⟩, ⟨Sqz.auHB⟩⟩
                · rw [if_neg c6] at H
                  have c6b0 : decide ((wrap64 ((wrap64 (3 * x5_3)) * x5_3)) ≤ (wrap64 (a0 - (wrap64 (x4_1 * x4_1))))) = false := decide_eq_false c6
                  clear c6
                  have H' := Aside0.mk H
                  clear H
                  go_wp2
                  go_roundg k3
                  case measure => have := HK1.out; have := HJ1.out; have := HK3.out; omega
                  case rel => exact ⟨(wrap64 (x4_1 + 1)), Sqz.auS, H', ⟨by have := HK1.out; have := HJ1.out; have := HK3.out; omega⟩, ⟨Sqz.auHB⟩⟩
          · replace c5 := Bool.eq_false_iff.mpr c5
            subst c5
            have H1 : (some ((([] : List Int)), false)) = some (r1, r2) := by rw [if_neg (show ¬ (false = true) by decide)] at H; exact H
            clear H
            have H := H1
            clear H1
            obtain ⟨y147, hy147⟩ : ∃ y_ : List Int, y_ = (([] : List Int)) := ⟨_, rfl⟩
            replace H : (some (y147, false)) = some (r1, r2) := by first | (rw [hy147]; with_reducible exact H) | (have H2_ := (Option.bind_some _ _).symm.trans H; rw [hy147]; with_reducible exact H2_) | (have H2_ := (Option.bind_some _ _).symm.trans H; with_reducible exact H2_) | with_reducible exact H | (rw [hy147]; exact H) | exact H
            have Ny147 := Aside0.mk hy147
            clear hy147
            simp only [Option.some.injEq, Prod.mk.injEq] at H
            obtain ⟨rfl, rfl⟩ := H
            go_wp2_with (first | ((with_reducible refine gate_dst (N := 71) rfl ?_); refine Kd.R_lit (Kd.int .i64) _ 3 ?hg (N := 71) ?hd (xs := ([] : List Int)) (inner := []) (ok := fun _ => True) (okp := fun _ => True) ?hr ?hp (fun _ hk => hk) trivial (Below.refl _ _) (Nat.le_refl _) (by simp) ?_; (case hd => rfl); (case hg => rfl); (case hr => first | (go_simp; done) | (go_simp; rfl)); (case hp => exact (Reps.none _ _)); intro v148 w12 ho13 hb hg_ hnew_; clear hg_ hnew_; (first | rw [← Ny147.out] at ho13 | (simp only [Int.reduceToNat] at ho13; rw [← Ny147.out] at ho13)); have n0_ := Aside0.mk (Kd.R_lower ho13 (below_size (Sqz.auHB))); have n1_ := Aside0.mk (below_step (Sqz.auHB) hb); clear HB; have HO149 := n0_; have HB := n1_; clear n0_ n1_; clear hb ho13))
            go_ret2
            exact ⟨_, Sqz.auR, (Sqz.mvR HO149.out), Sqz.auHB⟩

/-! ### laws_sameInts: function 21 -/
def laws_sameInts.l0 : Nat → List Int → List Int → Int → Option (Bool)
  | 0, _, _, _ => none
  | k + 1, x0, x1, x5 => if x5 < (x0.length : Int) then (if 0 ≤ x5 then (if x5 < (x1.length : Int) then (if (rd x0 x5) = (rd x1 x5) then (laws_sameInts.l0 k x0 x1 (wrap64 (x5 + 1))) else (some false)) else (none)) else (none)) else (some true)
def laws_sameInts.f (k : Nat) (l0 : List Int) (l1 : List Int) : Option (Bool) := if (l0.length : Int) = (l1.length : Int) then (laws_sameInts.l0 k l0 l1 0) else (some false)
set_option maxHeartbeats 8000000 in
set_option maxRecDepth 100000 in
theorem laws_sameInts.calls (k : Nat) (A0 : Option Addr) (c0 : Nat) (l0 : List Int) (A1 : Option Addr) (c1 : Nat) (l1 : List Int) (r : Bool) (w : World) (hr0 : Kd.C (Kd.int .i64) w A0 l0.length l0) (hc0 : l0.length ≤ c0) (hr1 : Kd.C (Kd.int .i64) w A1 l1.length l1) (hc1 : l1.length ≤ c1) (h : laws_sameInts.f k l0 l1 = some r) :
    Calls Tryz.prog 21 #[.slice A0 l0.length c0, .slice A1 l1.length c1] w fun e w' => e = .returned (.bool r) ∧ Drawn0 w w' := by
  have HR0 := Aside0.mk hr0
  have HC0 := Aside0.mk hc0
  clear hr0 hc0
  have HR1 := Aside0.mk hr1
  have HC1 := Aside0.mk hc1
  clear hr1 hc1
  have H : (if (l0.length : Int) = (l1.length : Int) then (laws_sameInts.l0 k l0 l1 0) else (some false)) = some r := h
  clear h
  by_cases c3 : (l0.length : Int) = (l1.length : Int)
  · rw [if_pos c3] at H
    have c3b0 : ((l0.length : Int) == (l1.length : Int)) = true := beq_iff_eq.mpr c3
    have c3b1 : ((l0.length : Int) != (l1.length : Int)) = false := bne_eq_false_iff_eq.mpr c3
    have c3b2 : (l0.length == l1.length) = true := by first | simpa using c3 | (simp at c3 ⊢; omega)
    clear c3
    have H' := Aside0.mk H
    clear H
    go_enter Tryz.func21, Tryz.ntmps21
    go_wp2
    repeat (go_quiet (fail); try go_wp2)
    go_loopg [5] k (fun kq v5 w' => ∃ (x5_1 : Int), v5 = .int .i64 x5_1 ∧ Aside0 (laws_sameInts.l0 kq l0 l1 x5_1 = some r) ∧ Aside0 (kq ≤ k) ∧ Drawn0 w w')
    case atStart => exact ⟨(0), Sqz.auS, H', ⟨Nat.le_refl _⟩, by repeat (first | exact Drawn0.refl _ | apply Drawn0.step)⟩
    case round =>
      clear H'
      try clear c1
      try clear c2
      try clear p2
      try clear c3
      try clear c3b0
      try clear c3b1
      try clear c3b2
      obtain ⟨x5_1, rfl, HA, HK1, ⟨m1, rfl⟩⟩ := hrel
      cases gk with
      | zero => exact absurd HA.out (by simp [laws_sameInts.l0])
      | succ k1 =>
        have H := HA.out
        clear HA
        simp only [laws_sameInts.l0] at H
        by_cases c4 : x5_1 < (l0.length : Int)
        · rw [if_pos c4] at H
          have c4b0 : decide (x5_1 < (l0.length : Int)) = true := decide_eq_true c4
          clear c4
          by_cases c5 : 0 ≤ x5_1
          · rw [if_pos c5] at H
            have c5b0 : decide (0 ≤ x5_1) = true := decide_eq_true c5
            clear c5
            by_cases c6 : x5_1 < (l1.length : Int)
            · rw [if_pos c6] at H
              have c6b0 : decide (x5_1 < (l1.length : Int)) = true := decide_eq_true c6
              clear c6
              by_cases c7 : (rd l0 x5_1) = (rd l1 x5_1)
              · rw [if_pos c7] at H
                have c7b0 : ((rd l0 x5_1) == (rd l1 x5_1)) = true := beq_iff_eq.mpr c7
                have c7b1 : ((rd l0 x5_1) != (rd l1 x5_1)) = false := bne_eq_false_iff_eq.mpr c7
                clear c7
                have H' := Aside0.mk H
                clear H
                have p154 : 0 ≤ (x5_1 : Int) := of_decide_eq_true (by first | (with_reducible assumption) | assumption)
                have q154 : x5_1 < (l0.length : Int) := of_decide_eq_true (by first | (with_reducible assumption) | assumption)
                obtain ⟨ad154, e154, hx154_0⟩ := Kd.at_int HR0.out x5_1 p154 q154
                cases e154
                replace p154 := eq_true p154
                replace q154 := eq_true q154
                have p155 : 0 ≤ (x5_1 : Int) := of_decide_eq_true (by first | (with_reducible assumption) | assumption)
                have q155 : x5_1 < (l1.length : Int) := of_decide_eq_true (by first | (with_reducible assumption) | assumption)
                obtain ⟨ad155, e155, hx155_0⟩ := Kd.at_int HR1.out x5_1 p155 q155
                cases e155
                replace p155 := eq_true p155
                replace q155 := eq_true q155
                go_wp2
                repeat (go_quiet (fail); try go_wp2)
                go_roundg k1
                case measure => have := HK1.out; omega
                case rel => exact ⟨(wrap64 (x5_1 + 1)), Sqz.auS, H', ⟨by have := HK1.out; omega⟩, by repeat (first | exact Drawn0.refl _ | apply Drawn0.step)⟩
              · rw [if_neg c7] at H
                have c7b0 : ((rd l0 x5_1) == (rd l1 x5_1)) = false := beq_eq_false_iff_ne.mpr c7
                have c7b1 : ((rd l0 x5_1) != (rd l1 x5_1)) = true := bne_iff_ne.mpr c7
                obtain rfl := Option.some.inj H
                have p154 : 0 ≤ (x5_1 : Int) := of_decide_eq_true (by first | (with_reducible assumption) | assumption)
                have q154 : x5_1 < (l0.length : Int) := of_decide_eq_true (by first | (with_reducible assumption) | assumption)
                obtain ⟨ad154, e154, hx154_0⟩ := Kd.at_int HR0.out x5_1 p154 q154
                cases e154
                replace p154 := eq_true p154
                replace q154 := eq_true q154
                have p155 : 0 ≤ (x5_1 : Int) := of_decide_eq_true (by first | (with_reducible assumption) | assumption)
                have q155 : x5_1 < (l1.length : Int) := of_decide_eq_true (by first | (with_reducible assumption) | assumption)
                obtain ⟨ad155, e155, hx155_0⟩ := Kd.at_int HR1.out x5_1 p155 q155
                cases e155
                replace p155 := eq_true p155
                replace q155 := eq_true q155
                go_wp2
                repeat (go_quiet (fail); try go_wp2)
                go_ret
                exact ⟨Sqz.auS, by repeat (first | exact Drawn0.refl _ | apply Drawn0.step)⟩
            · rw [if_neg c6] at H
              exact absurd H (by simp)
          · rw [if_neg c5] at H
            exact absurd H (by simp)
        · rw [if_neg c4] at H
          have c4b0 : decide (x5_1 < (l0.length : Int)) = false := decide_eq_false c4
          clear c4
          obtain rfl := Option.some.inj H
          go_wp2
          repeat (go_quiet (fail); try go_wp2)
          go_ret
          exact ⟨Sqz.auS, by repeat (first | exact Drawn0.refl _ | apply Drawn0.step)⟩
  · rw [if_neg c3] at H
    have c3b0 : ((l0.length : Int) == (l1.length : Int)) = false := beq_eq_false_iff_ne.mpr c3
    have c3b1 : ((l0.length : Int) != (l1.length : Int)) = true := bne_iff_ne.mpr c3
    have c3b2 : (l0.length == l1.length) = false := by first | simpa using c3 | (simp at c3 ⊢; omega)
    obtain rfl := Option.some.inj H
    go_enter Tryz.func21, Tryz.ntmps21
    go_wp2
    repeat (go_quiet (fail); try go_wp2)
    go_ret
    exact ⟨Sqz.auS, by repeat (first | exact Drawn0.refl _ | apply Drawn0.step)⟩

end Go.Proofs.YtacfcoilmdhgnaaGreatDoor.PFnExecuteSquares
